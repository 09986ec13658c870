/- The plain functions. No condition. -/
import Derived.Test.YtcjndiagbdkikaaCf
set_option linter.unusedVariables false
set_option linter.unusedSimpArgs false
set_option maxRecDepth 20000
set_option maxHeartbeats 8000000
namespace Go.Proofs.Ytcjndiagbdkikaa
structure T_lecternref16_Entry where
  Key : Int
  Value : Int
  Dirty : Bool
  Pins : Int
  deriving DecidableEq, Inhabited
def c_T_lecternref16_Entry (x : T_lecternref16_Entry) : List D := [.int .i64 x.Key, .int .i64 x.Value, .bool x.Dirty, .int .i64 x.Pins]
structure T_lecternref16_Cache where
  Places : Int
  L : List T_lecternref16_Entry
  deriving DecidableEq, Inhabited
def c_T_lecternref16_Cache (x : T_lecternref16_Cache) : List D := [.int .i64 x.Places, .sl 4 (List.map c_T_lecternref16_Entry x.L) 0]
structure T_lecternlaw16_Op where
  Kind : Int
  K : Int
  V : Int
  Dirty : Bool
  deriving DecidableEq, Inhabited
def c_T_lecternlaw16_Op (x : T_lecternlaw16_Op) : List D := [.int .i64 x.Kind, .int .i64 x.K, .int .i64 x.V, .bool x.Dirty]

def F_lecternref16_Cache_find_l0 (p0 : T_lecternref16_Cache) (p1 : Int) (rec10 : Int → Option (Unit ⊕ Int)) (a7 : Int) : Option (Unit ⊕ Int) :=
  cond (decide (a7 < (p0.L.length : Int)))
   ((idx p0.L a7).bind fun x13 =>
   cond (x13.Key == p1)
    (some (.inr a7))
    (rec10 (IntKind.wrap .i64 (a7 + (1 : Int)))))
   (some (.inl ()))
/-- (*lectern/lecternref16.Cache).find -/
def F_lecternref16_Cache_find (p0 : T_lecternref16_Cache) (p1 : Int) : Option (Int) :=
  letJ (fun _ : Unit =>
   some (-1 : Int)) fun J6 =>
   (iter (F_lecternref16_Cache_find_l0 p0 p1) FUEL (0 : Int)).bind fun o =>
  match o with
  | .inl o1 => J6 o1
  | .inr o1 => some o1
/-- (*lectern/lecternref16.Cache).out -/
def F_lecternref16_Cache_out (p0 : T_lecternref16_Cache) (p1 : Int) : Option (T_lecternref16_Cache) :=
   (slc p0.L (0 : Int) p1).bind fun x2 =>
   (app 32 ([] : List T_lecternref16_Entry) x2).bind fun _ =>
   (some (([] : List T_lecternref16_Entry) ++ x2)).bind fun a4 =>
   (slc p0.L (IntKind.wrap .i64 (p1 + (1 : Int))) (p0.L.length : Int)).bind fun x5 =>
   (app 32 a4 x5).bind fun _ =>
   (some (a4 ++ x5)).bind fun a7 =>
  some (⟨p0.Places, a7⟩ : T_lecternref16_Cache)
/-- (*lectern/lecternref16.Cache).used -/
def F_lecternref16_Cache_used (p0 : T_lecternref16_Cache) (p1 : Int) : Option (T_lecternref16_Cache) :=
   (idx p0.L p1).bind fun x1 =>
   (F_lecternref16_Cache_out p0 p1).bind fun x3 =>
   (app 32 x3.L [x1]).bind fun _ =>
   (some (x3.L ++ [x1])).bind fun a6 =>
  some (⟨x3.Places, a6⟩ : T_lecternref16_Cache)
/-- (*lectern/lecternref16.Cache).Get -/
def F_lecternref16_Cache_Get (p0 : T_lecternref16_Cache) (p1 : Int) : Option ((Int × Bool) × T_lecternref16_Cache) :=
   (F_lecternref16_Cache_find p0 p1).bind fun x1 =>
  cond (decide (x1 < (0 : Int)))
   (some (((0 : Int), false), p0))
   ((idx p0.L x1).bind fun x3 =>
    (F_lecternref16_Cache_used p0 x1).bind fun x4 =>
   some ((x3.Value, true), x4))
def F_lecternref16_Cache_Put_l0 (p0 : T_lecternref16_Cache) (rec69 : Int → Option (Int)) (a66 : Int) : Option (Int) :=
   (letJ (fun v73 : Bool => cond v73
     (rec69 (IntKind.wrap .i64 (a66 + (1 : Int))))
     (some a66)) fun J72 => cond (decide (a66 < (p0.L.length : Int))) ((idx p0.L a66).bind fun x74 =>
     (letJ (fun v77 : Bool => J72 v77) fun J76 => cond x74.Dirty (J76 true) ((idx p0.L a66).bind fun x78 =>
      J76 (decide ((0 : Int) < x78.Pins))))) (J72 false))
/-- (*lectern/lecternref16.Cache).Put -/
def F_lecternref16_Cache_Put (p0 : T_lecternref16_Cache) (p1 : Int) (p2 : Int) (p3 : Bool) : Option (Int × T_lecternref16_Cache) :=
   (F_lecternref16_Cache_find p0 p1).bind fun x1 =>
  cond (decide ((0 : Int) ≤ x1))
   ((idx p0.L x1).bind fun x3 =>
    (some (List.set p0.L (Int.toNat x1) (⟨x3.Key, p2, x3.Dirty, x3.Pins⟩ : T_lecternref16_Entry))).bind fun a4 =>
   letJ (fun a13 : List T_lecternref16_Entry =>
     (F_lecternref16_Cache_used (⟨p0.Places, a13⟩ : T_lecternref16_Cache) x1).bind fun x22 =>
    some ((0 : Int), x22)) fun J14 =>
    (idx a4 x1).bind fun x15 =>
   cond x15.Dirty
    ((idx a4 x1).bind fun x18 =>
     (some (List.set a4 (Int.toNat x1) (⟨x18.Key, x18.Value, true, x18.Pins⟩ : T_lecternref16_Entry))).bind fun a19 =>
    J14 a19)
    ((idx a4 x1).bind fun x20 =>
     (some (List.set a4 (Int.toNat x1) (⟨x20.Key, x20.Value, p3, x20.Pins⟩ : T_lecternref16_Entry))).bind fun a21 =>
    J14 a21))
   (letJ (fun v : Int × (List T_lecternref16_Entry) => match v with
    | (a49, a51) =>
     (app 32 a51 [(⟨p1, p2, p3, (0 : Int)⟩ : T_lecternref16_Entry)]).bind fun _ =>
     (some (a51 ++ [(⟨p1, p2, p3, (0 : Int)⟩ : T_lecternref16_Entry)])).bind fun a84 =>
    some ((0 : Int), (⟨a49, a84⟩ : T_lecternref16_Cache))) fun J52 =>
   cond (decide (p0.Places ≤ (p0.L.length : Int)))
    (letJ (fun a64 : Int =>
     cond (a64 == (p0.L.length : Int))
      (some ((4 : Int), p0))
      ((F_lecternref16_Cache_out p0 a64).bind fun x81 =>
      J52 (x81.Places, x81.L))) fun J65 =>
     (iter (F_lecternref16_Cache_Put_l0 p0) FUEL (0 : Int)).bind fun o =>
    J65 o)
    (J52 (p0.Places, p0.L)))
/-- (*lectern/lecternref16.Cache).Drop -/
def F_lecternref16_Cache_Drop (p0 : T_lecternref16_Cache) (p1 : Int) : Option (Bool × T_lecternref16_Cache) :=
   (F_lecternref16_Cache_find p0 p1).bind fun x1 =>
   (letJ (fun v4 : Bool => cond v4
     (some (false, p0))
     ((F_lecternref16_Cache_out p0 x1).bind fun x7 =>
     some (true, x7))) fun J3 => cond (decide (x1 < (0 : Int))) (J3 true) ((idx p0.L x1).bind fun x5 =>
    J3 (decide ((0 : Int) < x5.Pins))))
/-- (*lectern/lecternref16.Cache).Pin -/
def F_lecternref16_Cache_Pin (p0 : T_lecternref16_Cache) (p1 : Int) (p2 : Int) : Option (Bool × T_lecternref16_Cache) :=
   (F_lecternref16_Cache_find p0 p1).bind fun x1 =>
   (letJ (fun v4 : Bool => cond v4
     (some (false, p0))
     ((idx p0.L x1).bind fun x7 =>
      (idx p0.L x1).bind fun x8 =>
      (some (List.set p0.L (Int.toNat x1) (⟨x8.Key, x8.Value, x8.Dirty, (IntKind.wrap .i64 (x7.Pins + p2))⟩ : T_lecternref16_Entry))).bind fun a9 =>
     some (true, (⟨p0.Places, a9⟩ : T_lecternref16_Cache)))) fun J3 => cond (decide (x1 < (0 : Int))) (J3 true) ((idx p0.L x1).bind fun x5 =>
    J3 (decide ((IntKind.wrap .i64 (x5.Pins + p2)) < (0 : Int)))))
/-- (*lectern/lecternref16.Cache).Clean -/
def F_lecternref16_Cache_Clean (p0 : T_lecternref16_Cache) (p1 : Int) : Option (Bool × T_lecternref16_Cache) :=
   (F_lecternref16_Cache_find p0 p1).bind fun x1 =>
   (letJ (fun v4 : Bool => cond v4
     (some (false, p0))
     ((idx p0.L x1).bind fun x7 =>
      (some (List.set p0.L (Int.toNat x1) (⟨x7.Key, x7.Value, false, x7.Pins⟩ : T_lecternref16_Entry))).bind fun a8 =>
     some (true, (⟨p0.Places, a8⟩ : T_lecternref16_Cache)))) fun J3 => cond (decide (x1 < (0 : Int))) (J3 true) ((idx p0.L x1).bind fun x5 =>
    J3 (!x5.Dirty)))
/-- lectern/lecternlaw16.plays -/
def F_lecternlaw16_plays (p0 : List I.Ent) (p0n : Int) (p1 : T_lecternref16_Cache) (p2 : T_lecternlaw16_Op) : Option (Bool × (List I.Ent) × T_lecternref16_Cache) :=
  cond (p2.Kind == (0 : Int))
   ((some (I.usd p2.K p0)).bind fun a4 =>
    (F_lecternref16_Cache_Get p1 p2.K).bind fun x5 =>
   some ((((((I.fnd p2.K p0).map I.Ent.val).getD I.vz) == x5.1.1) && ((I.fnd p2.K p0).isSome == x5.1.2)), a4, x5.2))
   (cond (p2.Kind == (1 : Int))
    ((some (I.putL p2.K p2.V p2.Dirty p0n p0).2).bind fun a11 =>
     (F_lecternref16_Cache_Put p1 p2.K p2.V p2.Dirty).bind fun x12 =>
    some (((I.putL p2.K p2.V p2.Dirty p0n p0).1 == x12.1), a11, x12.2))
    (cond (p2.Kind == (2 : Int))
     ((some (if I.dropB p2.K p0 then I.rem p2.K p0 else p0)).bind fun a17 =>
      (F_lecternref16_Cache_Drop p1 p2.K).bind fun x18 =>
     some (((I.dropB p2.K p0) == x18.1), a17, x18.2))
     (cond (p2.Kind == (3 : Int))
      ((I.pinG p0).bind fun _ =>
       (some (if I.pinB p2.K p0 then I.upk p2.K (fun e => { e with pins := e.pins + 1 }) p0 else p0)).bind fun a23 =>
       (F_lecternref16_Cache_Pin p1 p2.K (1 : Int)).bind fun x24 =>
      some (((I.pinB p2.K p0) == x24.1), a23, x24.2))
      (cond (p2.Kind == (4 : Int))
       ((I.pinG p0).bind fun _ =>
        (some (if I.unpinB p2.K p0 then I.upk p2.K (fun e => { e with pins := e.pins - 1 }) p0 else p0)).bind fun a29 =>
        (F_lecternref16_Cache_Pin p1 p2.K (-1 : Int)).bind fun x30 =>
       some (((I.unpinB p2.K p0) == x30.1), a29, x30.2))
       (cond (p2.Kind == (5 : Int))
        ((some (if I.cleanB p2.K p0 then I.upk p2.K (fun e => { e with dirty := false }) p0 else p0)).bind fun a35 =>
         (F_lecternref16_Cache_Clean p1 p2.K).bind fun x36 =>
        some (((I.cleanB p2.K p0) == x36.1), a35, x36.2))
        (some (true, p0, p1)))))))
def F_lecternref16_Cache_Keys_l0 (p0 : T_lecternref16_Cache) (p1 : Bool) (rec26 : (List Int) × Int → Option (((List Int)))) : (List Int) × Int → Option (((List Int)))
  | (a21, a23) =>
  cond (decide (a23 < (p0.L.length : Int)))
   (letJ (fun a34 : List Int =>
    rec26 (a34, (IntKind.wrap .i64 (a23 + (1 : Int))))) fun J36 =>
    (idx p0.L a23).bind fun x37 =>
   cond (p1 || x37.Dirty)
    ((app 8 a21 [x37.Key]).bind fun _ =>
    J36 (a21 ++ [x37.Key]))
    (J36 a21))
   (some a21)
/-- (*lectern/lecternref16.Cache).Keys -/
def F_lecternref16_Cache_Keys (p0 : T_lecternref16_Cache) (p1 : Bool) : Option ((List Int)) :=
  letJ (fun a18 : List Int =>
   some a18) fun J20 =>
   (iter (F_lecternref16_Cache_Keys_l0 p0 p1) FUEL (([] : List Int), (0 : Int))).bind fun o =>
  J20 o
def F_lecternref05_SameInts_l0 (p0 : List Int) (p1 : List Int) (rec11 : Int → Option (Unit ⊕ Bool)) (a8 : Int) : Option (Unit ⊕ Bool) :=
  cond (decide (a8 < (p0.length : Int)))
   ((idx p0 a8).bind fun x14 =>
    (idx p1 a8).bind fun x15 =>
   cond (x14 != x15)
    (some (.inr false))
    (rec11 (IntKind.wrap .i64 (a8 + (1 : Int)))))
   (some (.inl ()))
/-- lectern/lecternref05.SameInts -/
def F_lecternref05_SameInts (p0 : List Int) (p1 : List Int) : Option (Bool) :=
  cond ((p0.length : Int) != (p1.length : Int))
   (some false)
   (letJ (fun _ : Unit =>
    some true) fun J7 =>
    (iter (F_lecternref05_SameInts_l0 p0 p1) FUEL (0 : Int)).bind fun o =>
   match o with
   | .inl o1 => J7 o1
   | .inr o1 => some o1)
def F_lecternlaw16_CachePlays_l0 (p0 : Int) (p1 : List T_lecternlaw16_Op) (rec75 : (List I.Ent) × Int × (List T_lecternref16_Entry) × Int → Option (((List I.Ent)) ⊕ Bool)) : (List I.Ent) × Int × (List T_lecternref16_Entry) × Int → Option (((List I.Ent)) ⊕ Bool)
  | (a67, a69, a71, a72) =>
  cond (decide (a72 < (p1.length : Int)))
   ((idx p1 a72).bind fun x78 =>
   cond (decide ((300 : Int) ≤ a72))
    (some (.inl a67))
    (letJ (fun v : (List I.Ent) × Int × (List T_lecternref16_Entry) × Bool => match v with
     | (a98, a100, a102, a103) =>
     cond a103
      (some (.inr false))
      (rec75 (a98, a100, a102, (IntKind.wrap .i64 (a72 + (1 : Int)))))) fun J104 =>
     (F_lecternlaw16_plays a67 p0 (⟨a69, a71⟩ : T_lecternref16_Cache) x78).bind fun x105 =>
    cond (!x105.1)
     (J104 (x105.2.1, x105.2.2.Places, x105.2.2.L, true))
     ((I.lenG x105.2.1).bind fun _ =>
      (F_lecternref16_Cache_Keys x105.2.2 true).bind fun x112 =>
      (F_lecternref05_SameInts (I.keysL true x105.2.1) x112).bind fun x113 =>
     cond (!x113)
      (J104 (x105.2.1, x105.2.2.Places, x105.2.2.L, true))
      ((I.lenG x105.2.1).bind fun _ =>
       (F_lecternref16_Cache_Keys x105.2.2 false).bind fun x117 =>
       (F_lecternref05_SameInts (I.keysL false x105.2.1) x117).bind fun x118 =>
      cond (!x118)
       (J104 (x105.2.1, x105.2.2.Places, x105.2.2.L, true))
       (J104 (x105.2.1, x105.2.2.Places, x105.2.2.L, ((x105.2.1.length : Int) != (x105.2.2.L.length : Int))))))))
   (some (.inl a67))
/-- lectern/lecternlaw16.CachePlays -/
def F_lecternlaw16_CachePlays (p0 : Int) (p1 : List T_lecternlaw16_Op) : Option (Bool) :=
  cond (decide (1 ≤ p0) && decide (p0 ≤ 65536))
   (cond ((decide (p0 < (1 : Int))) || (decide ((65536 : Int) < p0)))
    (some false)
    (cond ((0 : Int) != (0 : Int))
     (some false)
     (letJ (fun a63 : List I.Ent =>
      some true) fun J65 =>
      (iter (F_lecternlaw16_CachePlays_l0 p0 p1) FUEL (([] : List I.Ent), p0, ([] : List T_lecternref16_Entry), (0 : Int))).bind fun o =>
     match o with
     | .inl o1 => J65 o1
     | .inr o1 => some o1)))
   (cond ((decide (p0 < (1 : Int))) || (decide ((65536 : Int) < p0)))
    (some ((1 : Int) == (1 : Int)))
    (some false))
end Go.Proofs.Ytcjndiagbdkikaa
