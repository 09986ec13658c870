/- The plain functions. No condition. -/
import Derived.Test.YtcjndiagbdkikaaCg
set_option linter.unusedVariables false
set_option linter.unusedSimpArgs false
set_option maxRecDepth 20000
set_option maxHeartbeats 8000000
namespace Go.Proofs.Ytcjndiagbdkikaa
structure T_lecternlaw16_Op where
  Kind : Int
  K : Int
  V : Int
  Dirty : Bool
  deriving DecidableEq, Inhabited
def c_T_lecternlaw16_Op (x : T_lecternlaw16_Op) : List D := [.int .i64 x.Kind, .int .i64 x.K, .int .i64 x.V, .bool x.Dirty]

def F_lecternlaw16_CacheKinds_l0 (p0 : Int) (p1 : List T_lecternlaw16_Op) (rec171 : (List I.Ent × List B.Ent) × Int → Option (((List I.Ent × List B.Ent)) ⊕ Bool)) : (List I.Ent × List B.Ent) × Int → Option (((List I.Ent × List B.Ent)) ⊕ Bool)
  | (a166, a168) =>
  cond (decide (a168 < (p1.length : Int)))
   ((idx p1 a168).bind fun x174 =>
   cond (decide ((200 : Int) ≤ a168))
    (some (.inl a166))
    (letJ (fun a244 : List I.Ent × List B.Ent =>
      (letJ (fun v314 : Bool => (letJ (fun v317 : Bool => cond v317
          (some (.inr false))
          (rec171 (a244, (IntKind.wrap .i64 (a168 + (1 : Int)))))) fun J316 => cond v314 (J316 true) ((B.lenG a244.2).bind fun _ =>
         J316 (((B.keysL true a244.2).length : Int) != (a244.2.length : Int))))) fun J313 => cond ((a244.1.length : Int) != (a244.2.length : Int)) (J313 true) ((I.lenG a244.1).bind fun _ =>
        (B.lenG a244.2).bind fun _ =>
       J313 (((I.keysL false a244.1).length : Int) != ((B.keysL false a244.2).length : Int))))) fun J246 =>
    cond ((⟨x174.Kind, (iand .i64 x174.K (3 : Int)), x174.V, x174.Dirty⟩ : T_lecternlaw16_Op).Kind == (0 : Int))
     ((some ((I.usd (⟨x174.Kind, (iand .i64 x174.K (3 : Int)), x174.V, x174.Dirty⟩ : T_lecternlaw16_Op).K a166.1), a166.2)).bind fun a254 =>
      (some (a254.1, (B.usd ((((iand .i64 x174.K (1 : Int)) == (1 : Int)), ((iand .i64 x174.K (2 : Int)) == (2 : Int))) : Bool × Bool) a254.2))).bind fun a257 =>
      (letJ (fun v260 : Bool => cond (v260 || ((!(I.fnd (⟨x174.Kind, (iand .i64 x174.K (3 : Int)), x174.V, x174.Dirty⟩ : T_lecternlaw16_Op).K a166.1).isSome) && (Option.isSome (((B.fnd ((((iand .i64 x174.K (1 : Int)) == (1 : Int)), ((iand .i64 x174.K (2 : Int)) == (2 : Int))) : Bool × Bool) a254.2).map B.Ent.val).getD B.vz))))
        (some (.inr false))
        (J246 a257)) fun J259 => cond (!((I.fnd (⟨x174.Kind, (iand .i64 x174.K (3 : Int)), x174.V, x174.Dirty⟩ : T_lecternlaw16_Op).K a166.1).isSome == (B.fnd ((((iand .i64 x174.K (1 : Int)) == (1 : Int)), ((iand .i64 x174.K (2 : Int)) == (2 : Int))) : Bool × Bool) a254.2).isSome)) (J259 true) ((letJ (fun v263 : Bool => J259 v263) fun J262 => cond (I.fnd (⟨x174.Kind, (iand .i64 x174.K (3 : Int)), x174.V, x174.Dirty⟩ : T_lecternlaw16_Op).K a166.1).isSome ((letJ (fun v266 : Bool => J262 v266) fun J265 => cond (((Option.toList (((B.fnd ((((iand .i64 x174.K (1 : Int)) == (1 : Int)), ((iand .i64 x174.K (2 : Int)) == (2 : Int))) : Bool × Bool) a254.2).map B.Ent.val).getD B.vz)).length : Int) != (1 : Int)) (J265 true) ((idx (Option.toList (((B.fnd ((((iand .i64 x174.K (1 : Int)) == (1 : Int)), ((iand .i64 x174.K (2 : Int)) == (2 : Int))) : Bool × Bool) a254.2).map B.Ent.val).getD B.vz)) (0 : Int)).bind fun x267 =>
           J265 (x267 != (((I.fnd (⟨x174.Kind, (iand .i64 x174.K (3 : Int)), x174.V, x174.Dirty⟩ : T_lecternlaw16_Op).K a166.1).map I.Ent.val).getD I.vz))))) (J262 false)))))
     (cond ((⟨x174.Kind, (iand .i64 x174.K (3 : Int)), x174.V, x174.Dirty⟩ : T_lecternlaw16_Op).Kind == (1 : Int))
      ((some ((I.putL (⟨x174.Kind, (iand .i64 x174.K (3 : Int)), x174.V, x174.Dirty⟩ : T_lecternlaw16_Op).K (⟨x174.Kind, (iand .i64 x174.K (3 : Int)), x174.V, x174.Dirty⟩ : T_lecternlaw16_Op).V (⟨x174.Kind, (iand .i64 x174.K (3 : Int)), x174.V, x174.Dirty⟩ : T_lecternlaw16_Op).Dirty (IntKind.wrap .i64 ((1 : Int) + (IntKind.wrap .i64 (Int.tmod (IntKind.wrap .u64 p0) (20 : Int))))) a166.1).2, a166.2)).bind fun a275 =>
       (some (a275.1, (B.putL ((((iand .i64 x174.K (1 : Int)) == (1 : Int)), ((iand .i64 x174.K (2 : Int)) == (2 : Int))) : Bool × Bool) (some (⟨x174.Kind, (iand .i64 x174.K (3 : Int)), x174.V, x174.Dirty⟩ : T_lecternlaw16_Op).V) (⟨x174.Kind, (iand .i64 x174.K (3 : Int)), x174.V, x174.Dirty⟩ : T_lecternlaw16_Op).Dirty (IntKind.wrap .i64 ((1 : Int) + (IntKind.wrap .i64 (Int.tmod (IntKind.wrap .u64 p0) (20 : Int))))) a275.2).2)).bind fun a278 =>
      cond ((I.putL (⟨x174.Kind, (iand .i64 x174.K (3 : Int)), x174.V, x174.Dirty⟩ : T_lecternlaw16_Op).K (⟨x174.Kind, (iand .i64 x174.K (3 : Int)), x174.V, x174.Dirty⟩ : T_lecternlaw16_Op).V (⟨x174.Kind, (iand .i64 x174.K (3 : Int)), x174.V, x174.Dirty⟩ : T_lecternlaw16_Op).Dirty (IntKind.wrap .i64 ((1 : Int) + (IntKind.wrap .i64 (Int.tmod (IntKind.wrap .u64 p0) (20 : Int))))) a166.1).1 != (B.putL ((((iand .i64 x174.K (1 : Int)) == (1 : Int)), ((iand .i64 x174.K (2 : Int)) == (2 : Int))) : Bool × Bool) (some (⟨x174.Kind, (iand .i64 x174.K (3 : Int)), x174.V, x174.Dirty⟩ : T_lecternlaw16_Op).V) (⟨x174.Kind, (iand .i64 x174.K (3 : Int)), x174.V, x174.Dirty⟩ : T_lecternlaw16_Op).Dirty (IntKind.wrap .i64 ((1 : Int) + (IntKind.wrap .i64 (Int.tmod (IntKind.wrap .u64 p0) (20 : Int))))) a275.2).1)
       (some (.inr false))
       (J246 a278))
      (cond ((⟨x174.Kind, (iand .i64 x174.K (3 : Int)), x174.V, x174.Dirty⟩ : T_lecternlaw16_Op).Kind == (2 : Int))
       ((some ((if I.dropB (⟨x174.Kind, (iand .i64 x174.K (3 : Int)), x174.V, x174.Dirty⟩ : T_lecternlaw16_Op).K a166.1 then I.rem (⟨x174.Kind, (iand .i64 x174.K (3 : Int)), x174.V, x174.Dirty⟩ : T_lecternlaw16_Op).K a166.1 else a166.1), a166.2)).bind fun a283 =>
        (some (a283.1, (if B.dropB ((((iand .i64 x174.K (1 : Int)) == (1 : Int)), ((iand .i64 x174.K (2 : Int)) == (2 : Int))) : Bool × Bool) a283.2 then B.rem ((((iand .i64 x174.K (1 : Int)) == (1 : Int)), ((iand .i64 x174.K (2 : Int)) == (2 : Int))) : Bool × Bool) a283.2 else a283.2))).bind fun a286 =>
       cond (!((I.dropB (⟨x174.Kind, (iand .i64 x174.K (3 : Int)), x174.V, x174.Dirty⟩ : T_lecternlaw16_Op).K a166.1) == (B.dropB ((((iand .i64 x174.K (1 : Int)) == (1 : Int)), ((iand .i64 x174.K (2 : Int)) == (2 : Int))) : Bool × Bool) a283.2)))
        (some (.inr false))
        (J246 a286))
       (cond ((⟨x174.Kind, (iand .i64 x174.K (3 : Int)), x174.V, x174.Dirty⟩ : T_lecternlaw16_Op).Kind == (3 : Int))
        ((I.pinG a166.1).bind fun _ =>
         (some ((if I.pinB (⟨x174.Kind, (iand .i64 x174.K (3 : Int)), x174.V, x174.Dirty⟩ : T_lecternlaw16_Op).K a166.1 then I.upk (⟨x174.Kind, (iand .i64 x174.K (3 : Int)), x174.V, x174.Dirty⟩ : T_lecternlaw16_Op).K (fun e => { e with pins := e.pins + 1 }) a166.1 else a166.1), a166.2)).bind fun a291 =>
         (B.pinG a291.2).bind fun _ =>
         (some (a291.1, (if B.pinB ((((iand .i64 x174.K (1 : Int)) == (1 : Int)), ((iand .i64 x174.K (2 : Int)) == (2 : Int))) : Bool × Bool) a291.2 then B.upk ((((iand .i64 x174.K (1 : Int)) == (1 : Int)), ((iand .i64 x174.K (2 : Int)) == (2 : Int))) : Bool × Bool) (fun e => { e with pins := e.pins + 1 }) a291.2 else a291.2))).bind fun a294 =>
        cond (!((I.pinB (⟨x174.Kind, (iand .i64 x174.K (3 : Int)), x174.V, x174.Dirty⟩ : T_lecternlaw16_Op).K a166.1) == (B.pinB ((((iand .i64 x174.K (1 : Int)) == (1 : Int)), ((iand .i64 x174.K (2 : Int)) == (2 : Int))) : Bool × Bool) a291.2)))
         (some (.inr false))
         (J246 a294))
        (cond ((⟨x174.Kind, (iand .i64 x174.K (3 : Int)), x174.V, x174.Dirty⟩ : T_lecternlaw16_Op).Kind == (4 : Int))
         ((I.pinG a166.1).bind fun _ =>
          (some ((if I.unpinB (⟨x174.Kind, (iand .i64 x174.K (3 : Int)), x174.V, x174.Dirty⟩ : T_lecternlaw16_Op).K a166.1 then I.upk (⟨x174.Kind, (iand .i64 x174.K (3 : Int)), x174.V, x174.Dirty⟩ : T_lecternlaw16_Op).K (fun e => { e with pins := e.pins - 1 }) a166.1 else a166.1), a166.2)).bind fun a299 =>
          (B.pinG a299.2).bind fun _ =>
          (some (a299.1, (if B.unpinB ((((iand .i64 x174.K (1 : Int)) == (1 : Int)), ((iand .i64 x174.K (2 : Int)) == (2 : Int))) : Bool × Bool) a299.2 then B.upk ((((iand .i64 x174.K (1 : Int)) == (1 : Int)), ((iand .i64 x174.K (2 : Int)) == (2 : Int))) : Bool × Bool) (fun e => { e with pins := e.pins - 1 }) a299.2 else a299.2))).bind fun a302 =>
         cond (!((I.unpinB (⟨x174.Kind, (iand .i64 x174.K (3 : Int)), x174.V, x174.Dirty⟩ : T_lecternlaw16_Op).K a166.1) == (B.unpinB ((((iand .i64 x174.K (1 : Int)) == (1 : Int)), ((iand .i64 x174.K (2 : Int)) == (2 : Int))) : Bool × Bool) a299.2)))
          (some (.inr false))
          (J246 a302))
         (cond ((⟨x174.Kind, (iand .i64 x174.K (3 : Int)), x174.V, x174.Dirty⟩ : T_lecternlaw16_Op).Kind == (5 : Int))
          ((some ((if I.cleanB (⟨x174.Kind, (iand .i64 x174.K (3 : Int)), x174.V, x174.Dirty⟩ : T_lecternlaw16_Op).K a166.1 then I.upk (⟨x174.Kind, (iand .i64 x174.K (3 : Int)), x174.V, x174.Dirty⟩ : T_lecternlaw16_Op).K (fun e => { e with dirty := false }) a166.1 else a166.1), a166.2)).bind fun a307 =>
           (some (a307.1, (if B.cleanB ((((iand .i64 x174.K (1 : Int)) == (1 : Int)), ((iand .i64 x174.K (2 : Int)) == (2 : Int))) : Bool × Bool) a307.2 then B.upk ((((iand .i64 x174.K (1 : Int)) == (1 : Int)), ((iand .i64 x174.K (2 : Int)) == (2 : Int))) : Bool × Bool) (fun e => { e with dirty := false }) a307.2 else a307.2))).bind fun a310 =>
          cond (!((I.cleanB (⟨x174.Kind, (iand .i64 x174.K (3 : Int)), x174.V, x174.Dirty⟩ : T_lecternlaw16_Op).K a166.1) == (B.cleanB ((((iand .i64 x174.K (1 : Int)) == (1 : Int)), ((iand .i64 x174.K (2 : Int)) == (2 : Int))) : Bool × Bool) a307.2)))
           (some (.inr false))
           (J246 a310))
          (J246 a166))))))))
   (some (.inl a166))
/-- lectern/lecternlaw16.CacheKinds -/
def F_lecternlaw16_CacheKinds (p0 : Int) (p1 : List T_lecternlaw16_Op) : Option (Bool) :=
  cond (decide (1 ≤ (IntKind.wrap .i64 ((1 : Int) + (IntKind.wrap .i64 (Int.tmod (IntKind.wrap .u64 p0) (20 : Int)))))) && decide ((IntKind.wrap .i64 ((1 : Int) + (IntKind.wrap .i64 (Int.tmod (IntKind.wrap .u64 p0) (20 : Int))))) ≤ 65536))
   (cond (decide (1 ≤ (IntKind.wrap .i64 ((1 : Int) + (IntKind.wrap .i64 (Int.tmod (IntKind.wrap .u64 p0) (20 : Int)))))) && decide ((IntKind.wrap .i64 ((1 : Int) + (IntKind.wrap .i64 (Int.tmod (IntKind.wrap .u64 p0) (20 : Int))))) ≤ 65536))
    (cond (((0 : Int) != (0 : Int)) || ((0 : Int) != (0 : Int)))
     (some false)
     (letJ (fun a162 : List I.Ent × List B.Ent =>
      some true) fun J164 =>
      (iter (F_lecternlaw16_CacheKinds_l0 p0 p1) FUEL (((([] : List I.Ent), []) : List I.Ent × List B.Ent), (0 : Int))).bind fun o =>
     match o with
     | .inl o1 => J164 o1
     | .inr o1 => some o1))
    (some false))
   (cond (decide (1 ≤ (IntKind.wrap .i64 ((1 : Int) + (IntKind.wrap .i64 (Int.tmod (IntKind.wrap .u64 p0) (20 : Int)))))) && decide ((IntKind.wrap .i64 ((1 : Int) + (IntKind.wrap .i64 (Int.tmod (IntKind.wrap .u64 p0) (20 : Int))))) ≤ 65536))
    (some false)
    (some false))
end Go.Proofs.Ytcjndiagbdkikaa
