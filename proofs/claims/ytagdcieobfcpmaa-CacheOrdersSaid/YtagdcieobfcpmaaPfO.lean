/- The plain functions. No condition. -/
import Derived.Test.YtagdcieobfcpmaaCf
set_option linter.unusedVariables false
set_option linter.unusedSimpArgs false
set_option maxRecDepth 20000
set_option maxHeartbeats 1000000
namespace Go.Proofs.Ytagdcieobfcpmaa


def F_lecternref05_SameInts_l0 (p0 : List Int) (p1 : List Int) (rec11 : Int → Option (Unit ⊕ Bool)) (a8 : Int) : Option (Unit ⊕ Bool) :=
  cond (decide (a8 < (p0.length : Int)))
   ((idx p0 a8).bind fun x14 =>
    (idx p1 a8).bind fun x15 =>
   cond (x14 != x15)
    (some (.inr false))
    (rec11 (IntKind.wrap .i64 (a8 + (1 : Int)))))
   (some (.inl ()))
/-- lectern/lecternref05.SameInts -/
def F_lecternref05_SameInts (p0 : List Int) (p1 : List Int) : Option (Bool) :=
  cond ((p0.length : Int) != (p1.length : Int))
   (some false)
   (letJ (fun _ : Unit =>
    some true) fun J7 =>
    (iter (F_lecternref05_SameInts_l0 p0 p1) FUEL (0 : Int)).bind fun o =>
   match o with
   | .inl o1 => J7 o1
   | .inr o1 => some o1)
def F_lecternlaw16_CacheOrders_l1 (a124 : List Int) (x185 : Int) (rec226 : (List Int) × Int → Option (((List Int)))) : (List Int) × Int → Option (((List Int)))
  | (a221, a223) =>
  cond (decide (a223 < (a124.length : Int)))
   (letJ (fun a232 : List Int =>
    rec226 (a232, (IntKind.wrap .i64 (a223 + (1 : Int))))) fun J234 =>
    (idx a124 a223).bind fun x235 =>
   cond (x235 != x185)
    ((app 8 a221 [x235]).bind fun _ =>
    J234 (a221 ++ [x235]))
    (J234 a221))
   (some a221)
def F_lecternlaw16_CacheOrders_l0 (p0 : Int) (p1 : List Int) (rec128 : (List I.Ent) × (List Int) × Int → Option (((List I.Ent) × (List Int)) ⊕ Bool)) : (List I.Ent) × (List Int) × Int → Option (((List I.Ent) × (List Int)) ⊕ Bool)
  | (a122, a124, a125) =>
  cond (decide (a125 < (p1.length : Int)))
   (letJ (fun v : (List I.Ent) × (List Int) => match v with
    | (a181, a183) =>
    rec128 (a181, a183, (IntKind.wrap .i64 (a125 + (1 : Int))))) fun J184 =>
    (idx p1 a125).bind fun x185 =>
    (some (I.usd x185 a122)).bind fun a188 =>
   letJ (fun v : (List I.Ent) × Bool => match v with
    | (a195, a197) =>
    cond a197
     (some (.inr false))
     (letJ (fun a218 : List Int =>
       (app 8 a218 [x185]).bind fun _ =>
      cond (decide ((IntKind.wrap .i64 ((1 : Int) + (IntKind.wrap .i64 (Int.tmod (IntKind.wrap .u64 p0) (20 : Int))))) < ((a218 ++ [x185]).length : Int)))
       ((slc (a218 ++ [x185]) (1 : Int) ((a218 ++ [x185]).length : Int)).bind fun x240 =>
       J184 (a195, x240))
       (J184 (a195, (a218 ++ [x185])))) fun J220 =>
      (iter (F_lecternlaw16_CacheOrders_l1 a124 x185) FUEL (([] : List Int), (0 : Int))).bind fun o =>
     J220 o)) fun J198 =>
   cond (!(I.fnd x185 a122).isSome)
    ((some (I.putL x185 x185 false (IntKind.wrap .i64 ((1 : Int) + (IntKind.wrap .i64 (Int.tmod (IntKind.wrap .u64 p0) (20 : Int))))) a188).2).bind fun a203 =>
    J198 (a203, ((I.putL x185 x185 false (IntKind.wrap .i64 ((1 : Int) + (IntKind.wrap .i64 (Int.tmod (IntKind.wrap .u64 p0) (20 : Int))))) a188).1 != (0 : Int))))
    (J198 (a188, false)))
   (some (.inl (a122, a124)))
/-- lectern/lecternlaw16.CacheOrders -/
def F_lecternlaw16_CacheOrders (p0 : Int) (p1 : List Int) : Option (Bool) :=
  cond (decide (1 ≤ (IntKind.wrap .i64 ((1 : Int) + (IntKind.wrap .i64 (Int.tmod (IntKind.wrap .u64 p0) (20 : Int)))))) && decide ((IntKind.wrap .i64 ((1 : Int) + (IntKind.wrap .i64 (Int.tmod (IntKind.wrap .u64 p0) (20 : Int))))) ≤ 65536))
   (cond (((0 : Int) != (0 : Int)) || (decide ((300 : Int) < (p1.length : Int))))
    (some (decide ((300 : Int) < (p1.length : Int))))
    (letJ (fun v : (List I.Ent) × (List Int) => match v with
     | (a117, a119) =>
     letJ (fun a244 : Bool =>
      some a244) fun J245 =>
      (I.lenG a117).bind fun _ =>
      (F_lecternref05_SameInts (I.keysL true a117) a119).bind fun x246 =>
     cond x246
      ((I.lenG a117).bind fun _ =>
      J245 (((I.keysL false a117).length : Int) == (0 : Int)))
      (J245 false)) fun J120 =>
     (iter (F_lecternlaw16_CacheOrders_l0 p0 p1) FUEL (([] : List I.Ent), ([] : List Int), (0 : Int))).bind fun o =>
    match o with
    | .inl o1 => J120 o1
    | .inr o1 => some o1))
   (some (decide ((300 : Int) < (p1.length : Int))))
end Go.Proofs.Ytagdcieobfcpmaa
