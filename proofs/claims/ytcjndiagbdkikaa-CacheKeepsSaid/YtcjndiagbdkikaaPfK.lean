/- The plain functions. No condition. -/
import Derived.Test.YtcjndiagbdkikaaCf
import Derived.Test.YtcjndiagbdkikaaEng26
set_option linter.unusedVariables false
set_option linter.unusedSimpArgs false
set_option maxRecDepth 20000
set_option maxHeartbeats 8000000
namespace Go.Proofs.Ytcjndiagbdkikaa
structure T_lecternlaw16_Op where
  Kind : Int
  K : Int
  V : Int
  Dirty : Bool
  deriving DecidableEq, Inhabited
def c_T_lecternlaw16_Op (x : T_lecternlaw16_Op) : List D := [.int .i64 x.Kind, .int .i64 x.K, .int .i64 x.V, .bool x.Dirty]

def F_lecternlaw16_CacheKeeps_l1 (a465 : List I.Ent) (rec523 : (PM Int Bool) × Int → Option (((PM Int Bool)))) : (PM Int Bool) × Int → Option (((PM Int Bool)))
  | (a519, a520) =>
  cond (decide (a520 < ((I.keysL true a465).length : Int)))
   ((idx (I.keysL true a465) a520).bind fun x526 =>
    (some (PM.put a519 x526 true)).bind fun a527 =>
   rec523 (a527, (IntKind.wrap .i64 (a520 + (1 : Int)))))
   (some a519)
def F_lecternlaw16_CacheKeeps_l0 (p0 : Int) (p1 : List T_lecternlaw16_Op) (rec286 : (List I.Ent) × (PM Int Int) × (PM Int Int) × Int → Option (((List I.Ent) × (PM Int Int)) ⊕ Bool)) : (List I.Ent) × (PM Int Int) × (PM Int Int) × Int → Option (((List I.Ent) × (PM Int Int)) ⊕ Bool)
  | (a279, a281, a282, a283) =>
  cond (decide (a283 < (p1.length : Int)))
   (letJ (fun v : (List I.Ent) × (PM Int Int) × (PM Int Int) => match v with
    | (a416, a418, a419) =>
    rec286 (a416, a418, a419, (IntKind.wrap .i64 (a283 + (1 : Int))))) fun J420 =>
    (idx p1 a283).bind fun x421 =>
   cond (decide ((300 : Int) ≤ a283))
    (some (.inl (a279, a281)))
    (letJ (fun v : (List I.Ent) × (PM Int Int) × (PM Int Int) => match v with
     | (a465, a467, a468) =>
     letJ (fun a517 : PM Int Bool =>
      letJ (fun _ : Unit =>
        (letJ (fun v557 : Bool => cond v557
          (some (.inr false))
          (J420 (a465, a467, a468))) fun J556 => cond (decide ((IntKind.wrap .i64 ((1 : Int) + (IntKind.wrap .i64 (Int.tmod (IntKind.wrap .u64 p0) (20 : Int))))) < (a465.length : Int))) (J556 true) (J556 (((PM.es a517).length : Int) != (a465.length : Int))))) fun J539 =>
       (allM (fun (k547 : Int) (v548 : Int) =>
         (cond ((decide (v548 < (0 : Int))) || ((decide ((0 : Int) < v548)) && (!((PM.get a517 k547).getD false))))
          (none)
          (some ()))) a468).bind fun _ =>
      J539 ()) fun J518 =>
      (I.lenG a465).bind fun _ =>
      (iter (F_lecternlaw16_CacheKeeps_l1 a465) FUEL ((pm0 : PM Int Bool), (0 : Int))).bind fun o =>
     J518 o) fun J469 =>
    cond (x421.Kind == (1 : Int))
     ((some (I.usd x421.K a279)).bind fun a473 =>
      (some (I.putL x421.K x421.V x421.Dirty (IntKind.wrap .i64 ((1 : Int) + (IntKind.wrap .i64 (Int.tmod (IntKind.wrap .u64 p0) (20 : Int))))) a473).2).bind fun a476 =>
     cond ((I.putL x421.K x421.V x421.Dirty (IntKind.wrap .i64 ((1 : Int) + (IntKind.wrap .i64 (Int.tmod (IntKind.wrap .u64 p0) (20 : Int))))) a473).1 != (0 : Int))
      ((letJ (fun v481 : Bool => cond v481
         (some (.inr false))
         (J469 (a476, a281, a282))) fun J480 => cond (((I.putL x421.K x421.V x421.Dirty (IntKind.wrap .i64 ((1 : Int) + (IntKind.wrap .i64 (Int.tmod (IntKind.wrap .u64 p0) (20 : Int))))) a473).1 != (4 : Int)) || (I.fnd x421.K a279).isSome) (J480 true) (J480 ((a476.length : Int) != (IntKind.wrap .i64 ((1 : Int) + (IntKind.wrap .i64 (Int.tmod (IntKind.wrap .u64 p0) (20 : Int)))))))))
      (letJ (fun a485 : PM Int Int =>
        (some (PM.put a281 x421.K x421.V)).bind fun a489 =>
       cond (x421.Dirty && ((Int.tmod ((PM.get a485 x421.K).getD (0 : Int)) (2 : Int)) == (0 : Int)))
        ((some (PM.put a485 x421.K (IntKind.wrap .i64 (((PM.get a485 x421.K).getD (0 : Int)) + (1 : Int))))).bind fun a492 =>
        J469 (a476, a489, a492))
        (J469 (a476, a489, a485))) fun J486 =>
      cond (!(I.fnd x421.K a279).isSome)
       ((some (PM.put a282 x421.K (0 : Int))).bind fun a488 =>
       J486 a488)
       (J486 a282)))
     (cond (x421.Kind == (3 : Int))
      ((I.pinG a279).bind fun _ =>
       (some (if I.pinB x421.K a279 then I.upk x421.K (fun e => { e with pins := e.pins + 1 }) a279 else a279)).bind fun a496 =>
      cond (I.pinB x421.K a279)
       ((some (PM.put a282 x421.K (IntKind.wrap .i64 (((PM.get a282 x421.K).getD (0 : Int)) + (2 : Int))))).bind fun a498 =>
       J469 (a496, a281, a498))
       (J469 (a496, a281, a282)))
      (cond (x421.Kind == (4 : Int))
       ((I.pinG a279).bind fun _ =>
        (some (if I.unpinB x421.K a279 then I.upk x421.K (fun e => { e with pins := e.pins - 1 }) a279 else a279)).bind fun a502 =>
       cond (I.unpinB x421.K a279)
        ((some (PM.put a282 x421.K (IntKind.wrap .i64 (((PM.get a282 x421.K).getD (0 : Int)) - (2 : Int))))).bind fun a504 =>
        J469 (a502, a281, a504))
        (J469 (a502, a281, a282)))
       (cond (x421.Kind == (5 : Int))
        ((some (if I.cleanB x421.K a279 then I.upk x421.K (fun e => { e with dirty := false }) a279 else a279)).bind fun a508 =>
        cond (I.cleanB x421.K a279)
         ((some (PM.put a282 x421.K (IntKind.wrap .i64 (((PM.get a282 x421.K).getD (0 : Int)) - (1 : Int))))).bind fun a510 =>
         J469 (a508, a281, a510))
         (J469 (a508, a281, a282)))
        (J469 (a279, a281, a282)))))))
   (some (.inl (a279, a281)))
def F_lecternlaw16_CacheKeeps_l2 (a274 : List I.Ent) (a276 : PM Int Int) (rec580 : (List I.Ent) × Int → Option (((List I.Ent)) ⊕ Bool)) : (List I.Ent) × Int → Option (((List I.Ent)) ⊕ Bool)
  | (a575, a577) =>
  cond (decide (a577 < ((I.keysL true a274).length : Int)))
   ((idx (I.keysL true a274) a577).bind fun x583 =>
    (some (I.usd x583 a575)).bind fun a586 =>
   cond ((!(I.fnd x583 a575).isSome) || ((((I.fnd x583 a575).map I.Ent.val).getD I.vz) != ((PM.get a276 x583).getD (0 : Int))))
    (some (.inr false))
    (rec580 (a586, (IntKind.wrap .i64 (a577 + (1 : Int))))))
   (some (.inl a575))
/-- lectern/lecternlaw16.CacheKeeps -/
def F_lecternlaw16_CacheKeeps (p0 : Int) (p1 : List T_lecternlaw16_Op) : Option (Bool) :=
  cond (decide (1 ≤ (IntKind.wrap .i64 ((1 : Int) + (IntKind.wrap .i64 (Int.tmod (IntKind.wrap .u64 p0) (20 : Int)))))) && decide ((IntKind.wrap .i64 ((1 : Int) + (IntKind.wrap .i64 (Int.tmod (IntKind.wrap .u64 p0) (20 : Int))))) ≤ 65536))
   (cond ((0 : Int) != (0 : Int))
    (some false)
    (letJ (fun v : (List I.Ent) × (PM Int Int) => match v with
     | (a274, a276) =>
     letJ (fun a571 : List I.Ent =>
      some true) fun J573 =>
      (I.lenG a274).bind fun _ =>
      (iter (F_lecternlaw16_CacheKeeps_l2 a274 a276) FUEL (a274, (0 : Int))).bind fun o =>
     match o with
     | .inl o1 => J573 o1
     | .inr o1 => some o1) fun J277 =>
     (iter (F_lecternlaw16_CacheKeeps_l0 p0 p1) FUEL (([] : List I.Ent), (pm0 : PM Int Int), (pm0 : PM Int Int), (0 : Int))).bind fun o =>
    match o with
    | .inl o1 => J277 o1
    | .inr o1 => some o1))
   (some false)
end Go.Proofs.Ytcjndiagbdkikaa
