/- The plain functions. No condition. -/
import Derived.Test.YtmnbjcpikllknaaGreatDoorEA
import Derived.Test.YtmnbjcpikllknaaGreatDoorLg11
set_option linter.unusedVariables false
set_option linter.unusedSimpArgs false
set_option maxRecDepth 20000
set_option maxHeartbeats 8000000
namespace Go.Proofs.YtmnbjcpikllknaaGreatDoor
structure Af where
  q : List UInt8
  at_ : Int
  deriving DecidableEq, Inhabited
def Hc (x : Af) : List D := [.str x.q, .int .i64 x.at_]
structure Ao where
  lo : Int
  hi : Int
  deriving DecidableEq, Inhabited
def AO (x : Ao) : List D := [.int .i32 x.lo, .int .i32 x.hi]
structure Aa where
  URI : List UInt8
  Local : List UInt8
  deriving DecidableEq, Inhabited
def At (x : Aa) : List D := [.str x.URI, .str x.Local]
structure Ac where
  kind : Int
  k : Int
  name : Aa
  value : List UInt8
  spot : Nat × Nat
  deriving DecidableEq, Inhabited
def Ai (x : Ac) : List D := [.int .u8 x.kind, .int .i64 x.k, .str x.name.URI, .str x.name.Local, .str x.value, .cplx .f64 x.spot.1 x.spot.2]
structure Ak where
  deep : Bool
  attr : Bool
  test : List UInt8
  name : Aa
  conds : List Ac
  deriving DecidableEq, Inhabited
def Ap (x : Ak) : List D := [.bool x.deep, .bool x.attr, .str x.test, .str x.name.URI, .str x.name.Local, .sl 6 (List.map Ai x.conds) 0]
structure Ah where
  Name : Aa
  Value : List UInt8
  deriving DecidableEq, Inhabited
def Al (x : Ah) : List D := [.str x.Name.URI, .str x.Name.Local, .str x.Value]
structure Am where
  Spots : List (Nat × Nat)
  Closed : Bool
  deriving DecidableEq, Inhabited
def AW (x : Am) : List D := [.sl 1 (List.map Eu x.Spots) 0, .bool x.Closed]
structure Aw where
  s : List UInt8
  at_ : Int
  f : List Am
  pen : Nat × Nat
  n : Int
  open_ : Bool
  deriving DecidableEq, Inhabited
def Qr (x : Aw) : List D := [.str x.s, .int .i64 x.at_, .sl 2 (List.map AW x.f) 0, .cplx .f64 x.pen.1 x.pen.2, .int .i64 x.n, .bool x.open_]
structure Ab where
  Kind : Int
  Name : Aa
  Attrs : List Ah
  Kids : List Ab
  Text : List UInt8
  deriving Inhabited
mutual
def Ae : Ab -> List D
  | ⟨Kind, Name, Attrs, Kids, Text⟩ => [.int .i64 Kind, .str Name.URI, .str Name.Local, .sl 3 (List.map Al Attrs) 0, .sl 6 (Ea Kids) 0, .str Text]
def Ea : List Ab -> List (List D)
  | [] => []
  | x :: l => Ae x :: Ea l
end
theorem G0 : ∀ l : List Ab, Ea l = List.map Ae l
  | [] => by simp only [Ea, List.map_nil]
  | x :: l => by simp only [Ea, List.map_cons, G0 l]
theorem Ad (x : Ab) : Ae x = [.int .i64 x.Kind, .str x.Name.URI, .str x.Name.Local, .sl 3 (List.map Al x.Attrs) 0, .sl 6 (List.map Ae x.Kids) 0, .str x.Text] := by cases x; simp only [Ae, G0]
theorem Fs (x : Ab) : (Ae x).length = 6 := by rw [Ad]; rfl
structure Ag where
  path : List Int
  node : Ab
  deriving Inhabited
def Aj (x : Ag) : List D := [.sl 1 (List.map Cj x.path) 0, .int .i64 x.node.Kind, .str x.node.Name.URI, .str x.node.Name.Local, .sl 3 (List.map Al x.node.Attrs) 0, .sl 6 (List.map Ae x.node.Kids) 0, .str x.node.Text]
structure An where
  Steps : List Int
  Attr : Bool
  Name : Aa
  deriving DecidableEq, Inhabited
def Au (x : An) : List D := [.sl 1 (List.map Cj x.Steps) 0, .bool x.Attr, .str x.Name.URI, .str x.Name.Local]
def Ar : Am × Option Nat -> List D
  | (x, some r) => [.sl 1 (List.map Eu x.Spots) r, .bool x.Closed]
  | (x, none) => [.snil, .bool x.Closed]
theorem BR : ∀ a, (Ar a).length = 2
  | (_, some _) => rfl
  | (_, none) => rfl
theorem FM (r : Nat) (a : Am) : WdC (Ar (a, some r)) (Ar (a, some 0)) := .cons (.zero _ _ _) (.cons (.refl _) (.nil))
def Ba (p0 : Af) : Option (Unit ⊕ Unit) := some (.inl ())
def BV (p0 : Af) (p1 : Int) : Option (Bool) :=
  letJ (fun a4 : Bool =>
   some a4) fun J5 =>
  cond (decide (p0.at_ < (p0.q.length : Int)))
   ((idx p0.q p0.at_).bind fun x8 =>
   J5 ((x8.toNat : Int) == p1))
   (J5 false)
def AV (p0 : Af) (p1 : Int) : Option (Af ⊕ Af) :=
  letJ (fun _ : Unit =>
   some (.inr (⟨p0.q, (IntKind.wrap .i64 (p0.at_ + (1 : Int)))⟩ : Af))) fun J5 =>
   (BV p0 p1).bind fun x6 =>
  cond (!x6)
   ((Ba p0).bind fun x => pnc x (fun x9 =>
    some (.inl p0)) fun x8 =>
   J5 ())
   (J5 ())
def A3 (p0 : Af) (p1 : Int) : Option (Bool × Af) :=
   (BV p0 p1).bind fun x1 =>
  cond x1
   (some (true, (⟨p0.q, (IntKind.wrap .i64 (p0.at_ + (1 : Int)))⟩ : Af)))
   (some (false, p0))
def Fe (p0 : Int) (p1 : List Ao) (rec10 : Int -> Option (Unit ⊕ Bool)) (a7 : Int) : Option (Unit ⊕ Bool) :=
  cond (decide (a7 < (p1.length : Int)))
   ((idx p1 a7).bind fun x13 =>
   cond (decide (p0 <= x13.hi))
    (some (.inr (decide (x13.lo <= p0))))
    (rec10 (IntKind.wrap .i64 (a7 + (1 : Int)))))
   (some (.inl ()))
def E6 (p0 : Int) (p1 : List Ao) : Option (Bool) :=
  letJ (fun _ : Unit =>
   some false) fun J6 =>
   (iter (Fe p0 p1) FUEL (0 : Int)).bind fun o =>
  match o with
  | .inl o1 => J6 o1
  | .inr o1 => some o1
def C0 (p0 : Int) : Option (Bool) :=
  cond (decide (p0 < (128 : Int)))
   (some ((((decide ((97 : Int) <= p0)) && (decide (p0 <= (122 : Int)))) || ((decide ((65 : Int) <= p0)) && (decide (p0 <= (90 : Int))))) || (p0 == (95 : Int))))
   ((E6 p0 ([(⟨(192 : Int), (214 : Int)⟩ : Ao), (⟨(216 : Int), (246 : Int)⟩ : Ao), (⟨(248 : Int), (767 : Int)⟩ : Ao), (⟨(880 : Int), (893 : Int)⟩ : Ao), (⟨(895 : Int), (8191 : Int)⟩ : Ao), (⟨(8204 : Int), (8205 : Int)⟩ : Ao), (⟨(8304 : Int), (8591 : Int)⟩ : Ao), (⟨(11264 : Int), (12271 : Int)⟩ : Ao), (⟨(12289 : Int), (55295 : Int)⟩ : Ao), (⟨(63744 : Int), (64975 : Int)⟩ : Ao), (⟨(65008 : Int), (65533 : Int)⟩ : Ao), (⟨(65536 : Int), (983039 : Int)⟩ : Ao)])).bind fun x7 =>
   some x7)
def Dn (p0 : Int) : Option (Bool) :=
   (C0 p0).bind fun x1 =>
   (letJ (fun v10 : Bool => some v10) fun J9 => cond ((((x1 || (p0 == (45 : Int))) || (p0 == (46 : Int))) || ((decide ((48 : Int) <= p0)) && (decide (p0 <= (57 : Int))))) || (p0 == (183 : Int))) (J9 true) ((E6 p0 ([(⟨(768 : Int), (879 : Int)⟩ : Ao), (⟨(8255 : Int), (8256 : Int)⟩ : Ao)])).bind fun x11 =>
    J9 x11))
def Bs (p0 : Af) (p1 : Int) : Option (Af ⊕ ((List UInt8) × Af)) :=
   (slc p0.q p0.at_ (p0.q.length : Int)).bind fun x1 =>
   (L_IndexByte x1 p1).bind fun x2 =>
  letJ (fun a6 : Int =>
    (slc p0.q a6 (IntKind.wrap .i64 (a6 + x2))).bind fun x11 =>
   some (.inr (x11, (⟨p0.q, (IntKind.wrap .i64 (a6 + (IntKind.wrap .i64 (x2 + (1 : Int)))))⟩ : Af)))) fun J7 =>
  cond (decide (x2 < (0 : Int)))
   ((Ba (⟨p0.q, (p0.q.length : Int)⟩ : Af)).bind fun x => pnc x (fun x10 =>
    some (.inl (⟨p0.q, (p0.q.length : Int)⟩ : Af))) fun x9 =>
   J7 (p0.q.length : Int))
   (J7 p0.at_)
def Cc (p0 : Af) (rec27 : (List UInt8) × Int -> Option (((List UInt8) × Int))) : (List UInt8) × Int -> Option (((List UInt8) × Int))
  | (a23, a24) =>
  cond (decide (a24 < (a23.length : Int)))
   ((slc a23 a24 (a23.length : Int)).bind fun x30 =>
    (L_DecodeRuneInString x30).bind fun x31 =>
    (letJ (fun v35 : Bool => (letJ (fun v39 : Bool => cond v39
        (some (a23, a24))
        (rec27 (a23, (IntKind.wrap .i64 (a24 + x31.2))))) fun J38 => cond v35 (J38 true) ((letJ (fun v42 : Bool => J38 v42) fun J41 => cond (a24 == p0.at_) ((C0 x31.1).bind fun x43 =>
         J41 (!x43)) (J41 false))))) fun J34 => cond ((x31.1 == (65533 : Int)) && (decide (x31.2 < (3 : Int)))) (J34 true) ((Dn x31.1).bind fun x36 =>
     J34 (!x36))))
   (some (a23, a24))
def Bi (p0 : Af) : Option (Af ⊕ (Aa × Af)) :=
  letJ (fun v : (List UInt8) × Int => match v with
   | (a20, a21) =>
   letJ (fun _ : Unit =>
     (slc a20 p0.at_ a21).bind fun x52 =>
    letJ (fun v : (List UInt8) × (List UInt8) × Int => match v with
     | (a61, a62, a63) =>
     some (.inr ((⟨a61, (⟨([] : List UInt8), x52⟩ : Aa).Local⟩ : Aa), (⟨a62, a63⟩ : Af)))) fun J64 =>
     (A3 (⟨a20, a21⟩ : Af) (123 : Int)).bind fun x65 =>
    cond x65.1
     ((Bs x65.2 (125 : Int)).bind fun x => pnc x (fun x68 =>
      some (.inl x68)) fun x67 =>
     cond (x67.1 == ([] : List UInt8))
      ((Ba (⟨x67.2.q, (IntKind.wrap .i64 (x67.2.at_ - (1 : Int)))⟩ : Af)).bind fun x => pnc x (fun x71 =>
       some (.inl (⟨x67.2.q, (IntKind.wrap .i64 (x67.2.at_ - (1 : Int)))⟩ : Af))) fun x70 =>
      J64 (x67.1, x67.2.q, (IntKind.wrap .i64 (x67.2.at_ - (1 : Int)))))
      (J64 (x67.1, x67.2.q, x67.2.at_)))
     (J64 ((⟨([] : List UInt8), x52⟩ : Aa).URI, x65.2.q, x65.2.at_))) fun J48 =>
   cond (a21 == p0.at_)
    ((Ba (⟨a20, a21⟩ : Af)).bind fun x => pnc x (fun x51 =>
     some (.inl (⟨a20, a21⟩ : Af))) fun x50 =>
    J48 ())
    (J48 ())) fun J22 =>
   (iter (Cc p0) FUEL (p0.q, p0.at_)).bind fun o =>
  J22 o
def BW (p0 : Af) (p1 : Int) (p2 : Bool) (rec44 : (List UInt8) × Int × Int -> Option (((List UInt8) × Int × Int))) : (List UInt8) × Int × Int -> Option (((List UInt8) × Int × Int))
  | (a39, a40, a41) =>
  letJ (fun a54 : Bool =>
   cond a54
    (letJ (fun a70 : Bool =>
     cond a70
      (some (a39, a40, a41))
      ((idx a39 a40).bind fun x78 =>
      rec44 (a39, (IntKind.wrap .i64 (a40 + (1 : Int))), (IntKind.wrap .i64 ((IntKind.wrap .i64 ((10 : Int) * a41)) + (IntKind.wrap .i64 (IntKind.wrap .u8 ((x78.toNat : Int) - (48 : Int))))))))) fun J71 =>
    cond (a40 == p0.at_)
     ((idx a39 a40).bind fun x74 =>
     cond ((x74.toNat : Int) == (48 : Int))
      (J71 (!p2))
      (J71 false))
     (J71 false))
    (some (a39, a40, a41))) fun J55 =>
  cond (decide (a40 < (a39.length : Int)))
   (cond (decide (a40 < (IntKind.wrap .i64 (p0.at_ + p1))))
    ((idx a39 a40).bind fun x60 =>
    cond (decide ((48 : Int) <= (x60.toNat : Int)))
     ((idx a39 a40).bind fun x63 =>
     J55 (decide ((x63.toNat : Int) <= (57 : Int))))
     (J55 false))
    (J55 false))
   (J55 false)
def Bd (p0 : Af) (p1 : Int) (p2 : Bool) : Option (Af ⊕ (Int × Af)) :=
  letJ (fun v : (List UInt8) × Int × Int => match v with
   | (a35, a36, a37) =>
   letJ (fun _ : Unit =>
    some (.inr (a37, (⟨a35, a36⟩ : Af)))) fun J82 =>
   cond (a36 == p0.at_)
    ((Ba (⟨a35, a36⟩ : Af)).bind fun x => pnc x (fun x85 =>
     some (.inl (⟨a35, a36⟩ : Af))) fun x84 =>
    J82 ())
    (J82 ())) fun J38 =>
   (iter (BW p0 p1 p2) FUEL (p0.q, p0.at_, (0 : Int))).bind fun o =>
  J38 o
def Bl (p0 : Af) : Option (Af ⊕ (Nat × Af)) :=
   (A3 p0 (45 : Int)).bind fun x1 =>
  cond x1.1
   ((Bd x1.2 (7 : Int) true).bind fun x => pnc x (fun x4 =>
    some (.inl x4)) fun x3 =>
   some (.inr ((UH (i2f x3.1)), x3.2)))
   ((Bd x1.2 (7 : Int) true).bind fun x => pnc x (fun x6 =>
    some (.inl x6)) fun x5 =>
   some (.inr ((i2f x5.1), x5.2)))
def BA (p0 : Af) : Option (Af ⊕ (Ac × Af)) :=
   (A3 p0 (64 : Int)).bind fun x3 =>
  cond (!x3.1)
   ((Bd x3.2 (6 : Int) false).bind fun x => pnc x (fun x6 =>
    some (.inl x6)) fun x5 =>
    (AV x5.2 (93 : Int)).bind fun x => pnc x (fun x8 =>
    some (.inl x8)) fun x7 =>
   some (.inr ((⟨(⟨(91 : Int), (0 : Int), (⟨([] : List UInt8), ([] : List UInt8)⟩ : Aa), ([] : List UInt8), ((0, 0) : Nat × Nat)⟩ : Ac).kind, x5.1, (⟨(91 : Int), (0 : Int), (⟨([] : List UInt8), ([] : List UInt8)⟩ : Aa), ([] : List UInt8), ((0, 0) : Nat × Nat)⟩ : Ac).name, (⟨(91 : Int), (0 : Int), (⟨([] : List UInt8), ([] : List UInt8)⟩ : Aa), ([] : List UInt8), ((0, 0) : Nat × Nat)⟩ : Ac).value, (⟨(91 : Int), (0 : Int), (⟨([] : List UInt8), ([] : List UInt8)⟩ : Aa), ([] : List UInt8), ((0, 0) : Nat × Nat)⟩ : Ac).spot⟩ : Ac), x7)))
   ((Bi x3.2).bind fun x => pnc x (fun x10 =>
    some (.inl x10)) fun x9 =>
   letJ (fun v : (List UInt8) × Int × Int × (List UInt8) × (Nat × Nat) => match v with
    | (a25, a26, a27, a28, a29) =>
     (AV (⟨a25, a26⟩ : Af) (93 : Int)).bind fun x => pnc x (fun x46 =>
     some (.inl x46)) fun x45 =>
    some (.inr ((⟨a27, (⟨(91 : Int), (0 : Int), (⟨([] : List UInt8), ([] : List UInt8)⟩ : Aa), ([] : List UInt8), ((0, 0) : Nat × Nat)⟩ : Ac).k, x9.1, a28, a29⟩ : Ac), x45))) fun J30 =>
    (A3 x9.2 (61 : Int)).bind fun x31 =>
   cond x31.1
    ((AV x31.2 (39 : Int)).bind fun x => pnc x (fun x34 =>
     some (.inl x34)) fun x33 =>
     (Bs x33 (39 : Int)).bind fun x => pnc x (fun x36 =>
     some (.inl x36)) fun x35 =>
    J30 (x35.2.q, x35.2.at_, (61 : Int), x35.1, (⟨(91 : Int), (0 : Int), (⟨([] : List UInt8), ([] : List UInt8)⟩ : Aa), ([] : List UInt8), ((0, 0) : Nat × Nat)⟩ : Ac).spot))
    ((A3 x31.2 (126 : Int)).bind fun x37 =>
    cond x37.1
     ((Bl x37.2).bind fun x => pnc x (fun x40 =>
      some (.inl x40)) fun x39 =>
      (AV x39.2 (44 : Int)).bind fun x => pnc x (fun x42 =>
      some (.inl x42)) fun x41 =>
      (Bl x41).bind fun x => pnc x (fun x44 =>
      some (.inl x44)) fun x43 =>
     J30 (x43.2.q, x43.2.at_, (126 : Int), (⟨(91 : Int), (0 : Int), (⟨([] : List UInt8), ([] : List UInt8)⟩ : Aa), ([] : List UInt8), ((0, 0) : Nat × Nat)⟩ : Ac).value, ((x39.1, x43.1) : Nat × Nat)))
     (J30 (x37.2.q, x37.2.at_, (64 : Int), (⟨(91 : Int), (0 : Int), (⟨([] : List UInt8), ([] : List UInt8)⟩ : Aa), ([] : List UInt8), ((0, 0) : Nat × Nat)⟩ : Ac).value, (⟨(91 : Int), (0 : Int), (⟨([] : List UInt8), ([] : List UInt8)⟩ : Aa), ([] : List UInt8), ((0, 0) : Nat × Nat)⟩ : Ac).spot))))
def BP (rec130 : (List UInt8) × Int × Bool × Bool × (List UInt8) × (List UInt8) × (List UInt8) × (List Ac) -> Option ((Bool × Bool × (List UInt8) × (List UInt8) × (List UInt8) × (List Ac) × (List UInt8) × Int) ⊕ (Af ⊕ (Ak × Af)))) : (List UInt8) × Int × Bool × Bool × (List UInt8) × (List UInt8) × (List UInt8) × (List Ac) -> Option ((Bool × Bool × (List UInt8) × (List UInt8) × (List UInt8) × (List Ac) × (List UInt8) × Int) ⊕ (Af ⊕ (Ak × Af)))
  | (a119, a120, a121, a122, a123, a124, a125, a126) =>
   (A3 (⟨a119, a120⟩ : Af) (91 : Int)).bind fun x132 =>
  cond x132.1
   ((BA x132.2).bind fun x => pnc x (fun x135 =>
    some (.inr (.inl x135))) fun x134 =>
    (app 80 a126 [x134.1]).bind fun _ =>
   rec130 (x134.2.q, x134.2.at_, a121, a122, a123, a124, a125, (a126 ++ [x134.1])))
   (some (.inl (a121, a122, a123, a124, a125, a126, x132.2.q, x132.2.at_)))
def A1 (p0 : Af) : Option (Af ⊕ (Ak × Af)) :=
   (AV p0 (47 : Int)).bind fun x => pnc x (fun x5 =>
   some (.inl x5)) fun x4 =>
   (A3 x4 (47 : Int)).bind fun x6 =>
  letJ (fun v : (List UInt8) × Int × Bool => match v with
   | (a10, a11, a12) =>
   cond a12
    (letJ (fun v : (List UInt8) × (List UInt8) × (List UInt8) × (List UInt8) × Int => match v with
     | (a22, a23, a24, a25, a26) =>
     some (.inr ((⟨x6.1, true, a22, (⟨a23, a24⟩ : Aa), ([] : List Ac)⟩ : Ak), (⟨a25, a26⟩ : Af)))) fun J27 =>
     (A3 (⟨a10, a11⟩ : Af) (42 : Int)).bind fun x28 =>
    cond x28.1
     (J27 (([42] : List UInt8), ([] : List UInt8), ([] : List UInt8), x28.2.q, x28.2.at_))
     ((Bi x28.2).bind fun x => pnc x (fun x31 =>
      some (.inl x31)) fun x30 =>
     J27 (([] : List UInt8), x30.1.URI, x30.1.Local, x30.2.q, x30.2.at_)))
    (letJ (fun v : (List UInt8) × Int × (List UInt8) × (List UInt8) × (List UInt8) => match v with
     | (a51, a52, a53, a54, a55) =>
     letJ (fun v : Bool × Bool × (List UInt8) × (List UInt8) × (List UInt8) × (List Ac) × (List UInt8) × Int => match v with
      | (a109, a110, a111, a112, a113, a114, a116, a117) =>
      some (.inr ((⟨a109, a110, a111, (⟨a112, a113⟩ : Aa), a114⟩ : Ak), (⟨a116, a117⟩ : Af)))) fun J118 =>
      (iter (BP) FUEL (a51, a52, x6.1, false, a53, a54, a55, ([] : List Ac))).bind fun o =>
     match o with
     | .inl o1 => J118 o1
     | .inr o1 => some o1) fun J56 =>
     (A3 (⟨a10, a11⟩ : Af) (42 : Int)).bind fun x57 =>
    cond x57.1
     (J56 (x57.2.q, x57.2.at_, ([42] : List UInt8), ([] : List UInt8), ([] : List UInt8)))
     ((Bi x57.2).bind fun x => pnc x (fun x60 =>
      some (.inl x60)) fun x59 =>
      (letJ (fun v64 : Bool => cond (v64 && (((x59.1.Local == ([116, 101, 120, 116] : List UInt8)) || (x59.1.Local == ([99, 111, 109, 109, 101, 110, 116] : List UInt8))) || (x59.1.Local == ([110, 111, 100, 101] : List UInt8))))
        ((AV x59.2 (40 : Int)).bind fun x => pnc x (fun x73 =>
         some (.inl x73)) fun x72 =>
         (AV x72 (41 : Int)).bind fun x => pnc x (fun x75 =>
         some (.inl x75)) fun x74 =>
        J56 (x74.q, x74.at_, x59.1.Local, x59.1.URI, x59.1.Local))
        (J56 (x59.2.q, x59.2.at_, ([] : List UInt8), x59.1.URI, x59.1.Local))) fun J63 => cond ((x59.1.URI == (⟨([] : List UInt8), x59.1.Local⟩ : Aa).URI) && ((x59.1.Local == (⟨([] : List UInt8), x59.1.Local⟩ : Aa).Local) && true)) ((BV x59.2 (40 : Int)).bind fun x65 =>
       J63 x65) (J63 false))))) fun J13 =>
  cond (!x6.1)
   ((A3 x6.2 (64 : Int)).bind fun x16 =>
   J13 (x16.2.q, x16.2.at_, x16.1))
   (J13 (x6.2.q, x6.2.at_, false))
def Df (p0 : Ah) (p1 : Ac) : Option (Bool) :=
  some ((p0.Name.URI == p1.name.URI) && ((p0.Name.Local == p1.name.Local) && true))
def AA (p0 : List Ah) (p1 : Ah -> Option Bool) (rec10 : Int -> Option (Unit ⊕ Int)) (a7 : Int) : Option (Unit ⊕ Int) :=
  cond (decide (a7 < (p0.length : Int)))
   ((idx p0 a7).bind fun x13 =>
    (p1 x13).bind fun x14 =>
   cond x14
    (some (.inr a7))
    (rec10 (IntKind.wrap .i64 (a7 + (1 : Int)))))
   (some (.inl ()))
def Ax (p0 : List Ah) (p1 : Ah -> Option Bool) : Option (Int) :=
  letJ (fun _ : Unit =>
   some (-1 : Int)) fun J6 =>
   (iter (AA p0 p1) FUEL (0 : Int)).bind fun o =>
  match o with
  | .inl o1 => J6 o1
  | .inr o1 => some o1
def B1 (p0 : Aw) (rec13 : Int -> Option (Int)) (a10 : Int) : Option (Int) :=
   (letJ (fun v17 : Bool => cond v17
     (rec13 (IntKind.wrap .i64 (a10 + (1 : Int))))
     (some a10)) fun J16 => cond (decide (a10 < (p0.s.length : Int))) ((idx p0.s a10).bind fun x18 =>
     (L_IndexByte ([32, 44, 9, 10, 13] : List UInt8) (x18.toNat : Int)).bind fun x19 =>
    J16 (decide ((0 : Int) <= x19))) (J16 false))
def BD (p0 : Aw) (rec54 : Int -> Option (Int)) (a51 : Int) : Option (Int) :=
   (letJ (fun v58 : Bool => (letJ (fun v62 : Bool => cond v62
       (rec54 (IntKind.wrap .i64 (a51 + (1 : Int))))
       (some a51)) fun J61 => cond v58 ((idx p0.s a51).bind fun x63 =>
      J61 (decide ((x63.toNat : Int) <= (57 : Int)))) (J61 false))) fun J57 => cond (decide (a51 < (p0.s.length : Int))) ((idx p0.s a51).bind fun x59 =>
    J57 (decide ((48 : Int) <= (x59.toNat : Int)))) (J57 false))
def B4 (p0 : Aw) : Option (Int × Int × Int) :=
  letJ (fun a8 : Int =>
   cond (a8 == (p0.s.length : Int))
    (some ((0 : Int), a8, a8))
    ((idx p0.s a8).bind fun x22 =>
     (L_IndexByte ([77, 109, 76, 108, 72, 104, 86, 118, 90, 122] : List UInt8) (x22.toNat : Int)).bind fun x23 =>
    cond (decide ((0 : Int) <= x23))
     (some ((1 : Int), a8, (IntKind.wrap .i64 (a8 + (1 : Int)))))
     (letJ (fun a31 : Int =>
      letJ (fun a49 : Int =>
       cond ((a49 == a31) || (decide ((IntKind.wrap .i64 (a31 + (7 : Int))) < a49)))
        (some ((3 : Int), a8, a8))
        (some ((2 : Int), a8, a49))) fun J50 =>
       (iter (BD p0) FUEL a31).bind fun o =>
      J50 o) fun J32 =>
      (idx p0.s a8).bind fun x33 =>
      (letJ (fun v36 : Bool => cond v36
        (J32 (IntKind.wrap .i64 (a8 + (1 : Int))))
        (J32 a8)) fun J35 => cond ((x33.toNat : Int) == (45 : Int)) (J35 true) ((idx p0.s a8).bind fun x37 =>
       J35 ((x37.toNat : Int) == (43 : Int))))))) fun J9 =>
   (iter (B1 p0) FUEL p0.at_).bind fun o =>
  J9 o
def BO (p0 : Aw) : Option ((Nat × Int × Bool) × Aw) :=
   (B4 p0).bind fun x1 =>
  cond (x1.1 != (2 : Int))
   (some (((0 : Nat), x1.2.1, false), p0))
   ((slc p0.s x1.2.1 x1.2.2).bind fun x3 =>
    (L_Atoi x3).bind fun x4 =>
   some (((i2f x4.1), x1.2.1, true), (⟨p0.s, x1.2.2, p0.f, p0.pen, p0.n, p0.open_⟩ : Aw)))
def BJ (p0 : Aw) (p1 : Int) : Option (((Nat × Nat) × Int × Bool) × Aw) :=
   (BO p0).bind fun x1 =>
  cond (!x1.1.2.2)
   (some ((((0, 0) : Nat × Nat), x1.1.2.1, false), x1.2))
   (cond (p1 == (72 : Int))
    (some ((((x1.1.1, x1.2.pen.2) : Nat × Nat), x1.1.2.1, true), x1.2))
    (cond (p1 == (86 : Int))
     (some ((((x1.2.pen.1, x1.1.1) : Nat × Nat), x1.1.2.1, true), x1.2))
     (cond (p1 == (118 : Int))
      ((Se x1.2.pen (((0 : Nat), x1.1.1) : Nat × Nat)).bind fun x8 =>
      some ((x8, x1.1.2.1, true), x1.2))
      (cond (p1 == (104 : Int))
       ((Se x1.2.pen ((x1.1.1, (0 : Nat)) : Nat × Nat)).bind fun x10 =>
       some ((x10, x1.1.2.1, true), x1.2))
       ((BO x1.2).bind fun x11 =>
       cond (!x11.1.2.2)
        (some ((((0, 0) : Nat × Nat), (IntKind.wrap .i64 ((-1 : Int) - x11.1.2.1)), false), x11.2))
        ((Se ((x1.1.1, (0 : Nat)) : Nat × Nat) (((0 : Nat), x11.1.1) : Nat × Nat)).bind fun x15 =>
        letJ (fun a19 : Nat × Nat =>
         some ((a19, x11.1.2.1, true), x11.2)) fun J20 =>
        cond ((p1 == (109 : Int)) || (p1 == (108 : Int)))
         ((Se x15 x11.2.pen).bind fun x23 =>
         J20 x23)
         (J20 x15)))))))
def Fk (p0 : Nat) : Option (Nat) :=
   (L_archTrunc p0).bind fun x1 =>
  some x1
def Gn (p0 : Nat) : Option (Nat) :=
   (L_bits p0).bind fun x1 =>
   (L_frombits (Ru .u64 x1 (9223372036854775808 : Int))).bind fun x2 =>
  some x2
def Ek (p0 : Nat) : Option (Bool) :=
   (Fk p0).bind fun x1 =>
   (letJ (fun v4 : Bool => some v4) fun J3 => cond (feq p0 x1) ((Gn p0).bind fun x5 =>
    J3 (fle x5 (4696837146684686336 : Nat))) (J3 false))
def CZ (p0 : Nat × Nat) : Option (Bool) :=
   (Ek p0.1).bind fun x1 =>
   (letJ (fun v4 : Bool => some v4) fun J3 => cond x1 ((Ek p0.2).bind fun x5 =>
    J3 x5) (J3 false))
def A8 (p1 : Int) (rec12 : (List UInt8) × Int × (List Am) × (Nat × Nat) × Int × Bool × Bool -> Option (((Int × Int) × Aw))) : (List UInt8) × Int × (List Am) × (Nat × Nat) × Int × Bool × Bool -> Option (((Int × Int) × Aw))
  | (a1, a2, a4, a6, a7, a8, a9) =>
   (BJ (⟨a1, a2, a4, a6, a7, a8⟩ : Aw) p1).bind fun x14 =>
  cond ((!x14.1.2.2) && (a9 || (decide (x14.1.2.1 < (0 : Int)))))
   (some (((if (IntKind.wrap .i64 ((-1 : Int) - x14.1.2.1)) > x14.1.2.1 then (IntKind.wrap .i64 ((-1 : Int) - x14.1.2.1)) else x14.1.2.1), (37 : Int)), x14.2))
   (cond (!x14.1.2.2)
    (some (((0 : Int), (0 : Int)), x14.2))
    ((CZ x14.1.1).bind fun x22 =>
     (letJ (fun v25 : Bool => cond v25
       (some ((x14.1.2.1, (5 : Int)), x14.2))
       (letJ (fun v : (List Am) × Bool => match v with
        | (a35, a37) =>
         (lst a35 (IntKind.wrap .i64 ((a35.length : Int) - (1 : Int)))).bind fun x46 =>
         (app 16 x46.Spots [x14.1.1]).bind fun _ =>
         (some (List.set a35 (Int.toNat (IntKind.wrap .i64 ((a35.length : Int) - (1 : Int)))) (⟨(x46.Spots ++ [x14.1.1]), x46.Closed⟩ : Am))).bind fun a48 =>
        rec12 (x14.2.s, x14.2.at_, a48, x14.1.1, (IntKind.wrap .i64 (x14.2.n + (1 : Int))), a37, false)) fun J38 =>
       cond (a9 && ((p1 == (77 : Int)) || (p1 == (109 : Int))))
        ((app 32 x14.2.f [(⟨([] : List (Nat × Nat)), false⟩ : Am)]).bind fun _ =>
         (some (x14.2.f ++ [(⟨([] : List (Nat × Nat)), false⟩ : Am)])).bind fun a45 =>
        J38 (a45, true))
        (J38 (x14.2.f, x14.2.open_)))) fun J24 => cond (!x22) (J24 true) (J24 (x14.2.n == (500 : Int))))))
def Bz (p0 : Aw) (p1 : Int) : Option ((Int × Int) × Aw) :=
   (iter (A8 p1) FUEL (p0.s, p0.at_, p0.f, p0.pen, p0.n, p0.open_, true)).bind fun o =>
  some o
def Cd (p0 : List UInt8) (rec14 : (List UInt8) × Int × (List Am) × (Nat × Nat) × Int × Bool -> Option (((List Am) × Int × Int))) : (List UInt8) × Int × (List Am) × (Nat × Nat) × Int × Bool -> Option (((List Am) × Int × Int))
  | (a4, a5, a7, a9, a10, a11) =>
   (B4 (⟨a4, a5, a7, a9, a10, a11⟩ : Aw)).bind fun x16 =>
  cond (x16.1 == (0 : Int))
   (some (a7, (0 : Int), (0 : Int)))
   (cond (x16.1 != (1 : Int))
    (some (([] : List Am), x16.2.1, (37 : Int)))
    ((idx p0 x16.2.1).bind fun x20 =>
     (letJ (fun v24 : Bool => cond v24
       (some (([] : List Am), x16.2.1, (37 : Int)))
       (cond (((x20.toNat : Int) == (90 : Int)) || ((x20.toNat : Int) == (122 : Int)))
        ((lst a7 (IntKind.wrap .i64 ((a7.length : Int) - (1 : Int)))).bind fun x28 =>
         (idx x28.Spots (0 : Int)).bind fun x29 =>
         (some (List.set a7 (Int.toNat (IntKind.wrap .i64 ((a7.length : Int) - (1 : Int)))) (⟨x28.Spots, true⟩ : Am))).bind fun a30 =>
        rec14 (a4, x16.2.2, a30, x29, a10, false))
        ((Bz (⟨a4, x16.2.2, a7, a9, a10, a11⟩ : Aw) (x20.toNat : Int)).bind fun x31 =>
        cond (x31.1.2 != (0 : Int))
         (some (([] : List Am), x31.1.1, x31.1.2))
         (rec14 (x31.2.s, x31.2.at_, x31.2.f, x31.2.pen, x31.2.n, x31.2.open_))))) fun J23 => cond (((x20.toNat : Int) != (77 : Int)) && ((x20.toNat : Int) != (109 : Int))) (J23 (!a11)) (J23 false))))
def Eo (p0 : List UInt8) : Option ((List Am) × Int × Int) :=
   (iter (Cd p0) FUEL (p0, (0 : Int), ([] : List Am), ((0, 0) : Nat × Nat), (0 : Int), false)).bind fun o =>
  some o
def AM (p0 : List (Nat × Nat)) (p1 : (Nat × Nat) -> Option Bool) (rec10 : Int -> Option (Unit ⊕ Int)) (a7 : Int) : Option (Unit ⊕ Int) :=
  cond (decide (a7 < (p0.length : Int)))
   ((idx p0 a7).bind fun x13 =>
    (p1 x13).bind fun x14 =>
   cond x14
    (some (.inr a7))
    (rec10 (IntKind.wrap .i64 (a7 + (1 : Int)))))
   (some (.inl ()))
def AI (p0 : List (Nat × Nat)) (p1 : (Nat × Nat) -> Option Bool) : Option (Int) :=
  letJ (fun _ : Unit =>
   some (-1 : Int)) fun J6 =>
   (iter (AM p0 p1) FUEL (0 : Int)).bind fun o =>
  match o with
  | .inl o1 => J6 o1
  | .inr o1 => some o1
def AB (p0 : List (Nat × Nat)) (p1 : (Nat × Nat) -> Option Bool) : Option (Bool) :=
   (AI p0 p1).bind fun x1 =>
  some (decide ((0 : Int) <= x1))
def C8 (p0 : Nat × Nat) : Option (Bool) :=
   (CZ p0).bind fun x1 =>
  some (!x1)
def Dp (p0 : List Am) (rec17 : Int × Int -> Option (Int ⊕ Bool)) : Int × Int -> Option (Int ⊕ Bool)
  | (a13, a14) =>
  cond (decide (a14 < (p0.length : Int)))
   ((idx p0 a14).bind fun x20 =>
    (letJ (fun v24 : Bool => cond v24
      (some (.inr false))
      (rec17 ((IntKind.wrap .i64 (a13 + (x20.Spots.length : Int))), (IntKind.wrap .i64 (a14 + (1 : Int)))))) fun J23 => cond ((x20.Spots.length : Int) == (0 : Int)) (J23 true) ((AB x20.Spots C8).bind fun x25 =>
     J23 x25)))
   (some (.inl a13))
def EH (p0 : List Am) : Option (Bool) :=
  letJ (fun a11 : Int =>
   some (decide (a11 <= (500 : Int)))) fun J12 =>
   (iter (Dp p0) FUEL ((0 : Int), (0 : Int))).bind fun o =>
  match o with
  | .inl o1 => J12 o1
  | .inr o1 => some o1
def Ev (p0 : Nat × Nat) (p1 : Nat × Nat) : Option (Nat) :=
   (VP ((p0.1, (UH p0.2)) : Nat × Nat) p1).bind fun x1 =>
  some x1.2
def Bh (p1 : Nat × Nat) (x166 : Am) (rec172 : Int × Int -> Option (Int ⊕ (Int × Bool × Int))) : Int × Int -> Option (Int ⊕ (Int × Bool × Int))
  | (a168, a169) =>
  cond (decide (a169 < (x166.Spots.length : Int)))
   (letJ (fun a196 : Int =>
    rec172 (a196, (IntKind.wrap .i64 (a169 + (1 : Int))))) fun J197 =>
    (idx x166.Spots a169).bind fun x198 =>
   cond (!x166.Closed)
    (some (.inl a168))
    ((Tl x198 p1).bind fun x200 =>
     (nzI (x166.Spots.length : Int)).bind fun _ =>
     (idx x166.Spots (Int.tmod (IntKind.wrap .i64 (a169 + (1 : Int))) (x166.Spots.length : Int))).bind fun x201 =>
     (Tl x201 p1).bind fun x202 =>
     (Ev x200 x202).bind fun x203 =>
     (letJ (fun v206 : Bool => (letJ (fun v210 : Bool => cond v210
         (some (.inr ((0 : Int), true, (0 : Int))))
         (cond (((fle x200.2 (0 : Nat)) && (fgt x202.2 (0 : Nat))) && (fgt x203 (0 : Nat)))
          (J197 (IntKind.wrap .i64 (a168 + (1 : Int))))
          (cond (((fgt x200.2 (0 : Nat)) && (fle x202.2 (0 : Nat))) && (flt x203 (0 : Nat)))
           (J197 (IntKind.wrap .i64 (a168 - (1 : Int))))
           (J197 a168)))) fun J209 => cond v206 ((MJ x200.2 x202.2).bind fun x211 =>
        J209 (fle x211 (0 : Nat))) (J209 false))) fun J205 => cond (feq x203 (0 : Nat)) ((MJ x200.1 x202.1).bind fun x207 =>
      J205 (fle x207 (0 : Nat))) (J205 false))))
   (some (.inl a168))
def CE (p0 : List Am) (p1 : Nat × Nat) (rec113 : Int × Int -> Option (Int ⊕ (Int × Bool × Int))) : Int × Int -> Option (Int ⊕ (Int × Bool × Int))
  | (a109, a110) =>
  cond (decide (a110 < (p0.length : Int)))
   (letJ (fun a164 : Int =>
    rec113 (a164, (IntKind.wrap .i64 (a110 + (1 : Int))))) fun J165 =>
    (idx p0 a110).bind fun x166 =>
    (iter (Bh p1 x166) FUEL (a109, (0 : Int))).bind fun o =>
   match o with
   | .inl o1 => J165 o1
   | .inr o1 => some (.inr o1))
   (some (.inl a109))
def C1 (p0 : List Am) (p1 : Nat × Nat) : Option (Int × Bool × Int) :=
   (EH p0).bind fun x1 =>
   (letJ (fun v4 : Bool => cond v4
     (some ((0 : Int), false, (1 : Int)))
     (letJ (fun a107 : Int =>
      some (a107, false, (0 : Int))) fun J108 =>
      (iter (CE p0 p1) FUEL ((0 : Int), (0 : Int))).bind fun o =>
     match o with
     | .inl o1 => J108 o1
     | .inr o1 => some o1)) fun J3 => cond (!x1) (J3 true) ((CZ p1).bind fun x5 =>
    J3 (!x5)))
def B7 (p0 : Ac) (p1 : Ab) : Option (Bool) :=
   (Ax p1.Attrs (fun z0 => Df z0 p0)).bind fun x1 =>
  cond ((decide (x1 < (0 : Int))) || (p1.Kind != (2 : Int)))
   (some false)
   ((idx p1.Attrs x1).bind fun x4 =>
   cond (p0.kind == (61 : Int))
    (some (x4.Value == p0.value))
    (cond (p0.kind == (126 : Int))
     ((Eo x4.Value).bind fun x7 =>
      (C1 x7.1 p0.spot).bind fun x8 =>
     some (((x7.2.2 == (0 : Int)) && (x8.2.2 == (0 : Int))) && (x8.2.1 || (x8.1 != (0 : Int)))))
     (some true)))
def CS (p0 : Ag) (p1 : Ac) : Option (Bool) :=
   (B7 p1 p0.node).bind fun x1 =>
  some (!x1)
def Ct (p0 : Ak) (p1 : Ab) : Option (Bool) :=
  cond (p0.test == ([42] : List UInt8))
   (some (p1.Kind == (2 : Int)))
   (cond (p0.test == ([116, 101, 120, 116] : List UInt8))
    (some (p1.Kind == (3 : Int)))
    (cond (p0.test == ([99, 111, 109, 109, 101, 110, 116] : List UInt8))
     (some (p1.Kind == (4 : Int)))
     (cond (p0.test == ([110, 111, 100, 101] : List UInt8))
      (some true)
      (some ((p1.Kind == (2 : Int)) && ((p1.Name.URI == p0.name.URI) && ((p1.Name.Local == p0.name.Local) && true)))))))
def AU (p0 : List Ag) (p1 : Ag -> Option Bool) (rec10 : Int -> Option (Unit ⊕ Int)) (a7 : Int) : Option (Unit ⊕ Int) :=
  cond (decide (a7 < (p0.length : Int)))
   ((idx p0 a7).bind fun x13 =>
    (p1 x13).bind fun x14 =>
   cond x14
    (some (.inr a7))
    (rec10 (IntKind.wrap .i64 (a7 + (1 : Int)))))
   (some (.inl ()))
def AL (p0 : List Ag) (p1 : Ag -> Option Bool) : Option (Int) :=
  letJ (fun _ : Unit =>
   some (-1 : Int)) fun J6 =>
   (iter (AU p0 p1) FUEL (0 : Int)).bind fun o =>
  match o with
  | .inl o1 => J6 o1
  | .inr o1 => some o1
def AP (p1 : Ag -> Option Bool) (rec33 : (List Ag) × Int × Int -> Option (((List Ag) × Int))) : (List Ag) × Int × Int -> Option (((List Ag) × Int))
  | (a27, a29, a30) =>
  cond (decide (a30 < (a27.length : Int)))
   (letJ (fun v : (List Ag) × Int => match v with
    | (a42, a44) =>
    rec33 (a42, a44, (IntKind.wrap .i64 (a30 + (1 : Int))))) fun J45 =>
    (idx a27 a30).bind fun x46 =>
    (p1 x46).bind fun x48 =>
   cond (!x48)
    ((idx a27 a29).bind fun x50 =>
     (some (List.set a27 (Int.toNat a29) x46)).bind fun a51 =>
    J45 (a51, (IntKind.wrap .i64 (a29 + (1 : Int)))))
    (J45 (a27, a29)))
   (some (a27, a29))
def AY (p0 : List Ag) (p1 : Ag -> Option Bool) : Option (List Ag) :=
   (AL p0 p1).bind fun x1 =>
  cond (x1 == (-1 : Int))
   (some p0)
   (letJ (fun v : (List Ag) × Int => match v with
    | (a23, a25) =>
     (slc a23 a25 (a23.length : Int)).bind fun x52 =>
     (ltL a25 (List.length a23)).bind fun _ =>
    some (List.take (Int.toNat a25) a23)) fun J26 =>
    (iter (AP p1) FUEL (p0, x1, (IntKind.wrap .i64 (x1 + (1 : Int))))).bind fun o =>
   J26 o)
def Hd : List Int -> List Int -> Int
  | [], [] => 0
  | [], _ :: _ => -1
  | _ :: _, [] => 1
  | x :: a, y :: b => if x < y then -1 else if y < x then 1 else Hd a b
def HU (a : Ag) : Bool := decide (a.path.length <= 4611686018427387904)
def Fj (a b : Ag) : Int := Hd a.path b.path
def Ed (p0 : List UInt8) (rec48 : (List Ak) × (List UInt8) × Int -> Option (((List Ak)) ⊕ (Int ⊕ ((List Ak) × Int × Int)))) : (List Ak) × (List UInt8) × Int -> Option (((List Ak)) ⊕ (Int ⊕ ((List Ak) × Int × Int)))
  | (a42, a44, a45) =>
   (letJ (fun v52 : Bool => cond v52
     (letJ (fun _ : Unit =>
       (A1 (⟨a44, a45⟩ : Af)).bind fun x => pnc x (fun x70 =>
       some (.inr (.inl x70.at_))) fun x69 =>
       (app 80 a42 [x69.1]).bind fun _ =>
      rec48 ((a42 ++ [x69.1]), x69.2.q, x69.2.at_)) fun J61 =>
      (letJ (fun v64 : Bool => cond v64
        ((Ba (⟨a44, a45⟩ : Af)).bind fun x => pnc x (fun x68 =>
         some (.inr (.inl a45))) fun x67 =>
        J61 ())
        (J61 ())) fun J63 => cond (decide ((0 : Int) < (a42.length : Int))) ((idx a42 (IntKind.wrap .i64 ((a42.length : Int) - (1 : Int)))).bind fun x65 =>
       J63 x65.attr) (J63 false)))
     (some (.inl a42))) fun J51 => cond ((a42.length : Int) == (0 : Int)) (J51 true) (J51 (decide (a45 < (p0.length : Int)))))
def FF (p0 : List UInt8) : Option (Int ⊕ ((List Ak) × Int × Int)) :=
  letJ (fun a39 : List Ak =>
   cond (decide ((20 : Int) < (a39.length : Int)))
    (some (.inr (([] : List Ak), (0 : Int), (5 : Int))))
    (some (.inr (a39, (0 : Int), (0 : Int))))) fun J41 =>
   (iter (Ed p0) FUEL (([] : List Ak), (⟨p0, (0 : Int)⟩ : Af).q, (⟨p0, (0 : Int)⟩ : Af).at_)).bind fun o =>
  match o with
  | .inl o1 => J41 o1
  | .inr o1 => some o1
def rdO : Int ⊕ ((List Ak) × Int × Int) -> (List Ak) × Int × Int
  | .inl a => ([], a, 36)
  | .inr r => r
def Dg (p0 : List UInt8) : Option ((List Ak) × Int × Int) := (FF p0).bind fun x => some (rdO x)
def C9 (p0 : Ak) (p1 : Ag) (rec40 : (List Ag) × Int -> Option (((List Ag)))) : (List Ag) × Int -> Option (((List Ag)))
  | (a36, a37) =>
  cond (decide (a37 < (p1.node.Kids.length : Int)))
   (letJ (fun a56 : List Ag =>
    rec40 (a56, (IntKind.wrap .i64 (a37 + (1 : Int))))) fun J57 =>
    (idx p1.node.Kids a37).bind fun x58 =>
    (Ct p0 x58).bind fun x60 =>
   cond x60
    ((app 8 [] p1.path).bind fun x64 =>
     (app 8 x64 [a37]).bind fun _ =>
     (app 128 a36 [(⟨(x64 ++ [a37]), x58⟩ : Ag)]).bind fun _ =>
     (some (a36 ++ [(⟨(x64 ++ [a37]), x58⟩ : Ag)])).bind fun a69 =>
    J57 a69)
    (J57 a36))
   (some a36)
def Dd (p0 : Ak) (rec102 : (List Ag) × Int -> Option (((List Ag)) ⊕ ((List Ag)))) : (List Ag) × Int -> Option (((List Ag)) ⊕ ((List Ag)))
  | (a98, a99) =>
  cond (decide (a99 < (p0.conds.length : Int)))
   (letJ (fun a115 : List Ag =>
    rec102 (a115, (IntKind.wrap .i64 (a99 + (1 : Int))))) fun J116 =>
    (idx p0.conds a99).bind fun x117 =>
   cond (x117.kind != (91 : Int))
    ((AY a98 (fun z0 => CS z0 x117)).bind fun x122 =>
    J116 x122)
    (cond (decide ((a98.length : Int) < x117.k))
     (some (.inr ([] : List Ag)))
     ((Xn a98 (IntKind.wrap .i64 (x117.k - (1 : Int))) x117.k).bind fun x125 =>
     J116 x125)))
   (some (.inl a98))
def CD (p0 : Ak) (p1 : Ag) : Option ((List Ag)) :=
  letJ (fun a33 : List Ag =>
   letJ (fun a95 : List Ag =>
    some a95) fun J96 =>
    (iter (Dd p0) FUEL (a33, (0 : Int))).bind fun o =>
   match o with
   | .inl o1 => J96 o1
   | .inr o1 => some o1) fun J34 =>
   (iter (C9 p0 p1) FUEL (([] : List Ag), (0 : Int))).bind fun o =>
  J34 o
def CX : Option (Ab) :=
   (idx [(⟨(2 : Int), (⟨([] : List UInt8), ([98] : List UInt8)⟩ : Aa), ([] : List Ah), ([] : List Ab), ([] : List UInt8)⟩ : Ab), (⟨(2 : Int), (⟨([] : List UInt8), ([98] : List UInt8)⟩ : Aa), ([] : List Ah), ([] : List Ab), ([] : List UInt8)⟩ : Ab)] (0 : Int)).bind fun x8 =>
   (some (List.set ([(⟨(2 : Int), (⟨([] : List UInt8), ([98] : List UInt8)⟩ : Aa), ([] : List Ah), ([] : List Ab), ([] : List UInt8)⟩ : Ab), (⟨(2 : Int), (⟨([] : List UInt8), ([98] : List UInt8)⟩ : Aa), ([] : List Ah), ([] : List Ab), ([] : List UInt8)⟩ : Ab)]) (Int.toNat (0 : Int)) (⟨x8.Kind, x8.Name, [(⟨(⟨([] : List UInt8), ([120] : List UInt8)⟩ : Aa), ([49] : List UInt8)⟩ : Ah)], x8.Kids, x8.Text⟩ : Ab))).bind fun a9 =>
   (idx a9 (1 : Int)).bind fun x10 =>
   (some (List.set a9 (Int.toNat (1 : Int)) (⟨x10.Kind, x10.Name, [(⟨(⟨([] : List UInt8), ([100] : List UInt8)⟩ : Aa), ([77, 48, 32, 48, 32, 52, 32, 48, 32, 52, 32, 52, 90] : List UInt8)⟩ : Ah)], x10.Kids, x10.Text⟩ : Ab))).bind fun a11 =>
  some (⟨(1 : Int), (⟨([] : List UInt8), ([] : List UInt8)⟩ : Aa), ([] : List Ah), [(⟨(2 : Int), (⟨([] : List UInt8), ([97] : List UInt8)⟩ : Aa), ([] : List Ah), a11, ([] : List UInt8)⟩ : Ab)], ([] : List UInt8)⟩ : Ab)
def Ec (p0 : Ab) (rec0 : Ab × (List Ab) -> Option ((List Ab))) (rec19 : (List Ab) × Int -> Option (((List Ab)))) : (List Ab) × Int -> Option (((List Ab)))
  | (a14, a16) =>
  cond (decide (a16 < (p0.Kids.length : Int)))
   ((idx p0.Kids a16).bind fun x22 =>
    (rec0 (x22, a14)).bind fun x24 =>
   rec19 (x24, (IntKind.wrap .i64 (a16 + (1 : Int)))))
   (some a14)
def Ca (rec0 : Ab × (List Ab) -> Option ((List Ab))) : Ab × (List Ab) -> Option ((List Ab))
  | (p0, p1) =>
   (app 104 p1 [p0]).bind fun _ =>
  letJ (fun a11 : List Ab =>
   some a11) fun J13 =>
   (iter (Ec p0 rec0) FUEL ((p1 ++ [p0]), (0 : Int))).bind fun o =>
  J13 o
def ER (p0 : Ab) (p1 : List Ab) : Option ((List Ab)) := iter Ca FUEL (p0, p1)
def AX (p0 : List Ab) (p1 : Ab -> Option Bool) (rec10 : Int -> Option (Unit ⊕ Int)) (a7 : Int) : Option (Unit ⊕ Int) :=
  cond (decide (a7 < (p0.length : Int)))
   ((idx p0 a7).bind fun x13 =>
    (p1 x13).bind fun x14 =>
   cond x14
    (some (.inr a7))
    (rec10 (IntKind.wrap .i64 (a7 + (1 : Int)))))
   (some (.inl ()))
def AQ (p0 : List Ab) (p1 : Ab -> Option Bool) : Option (Int) :=
  letJ (fun _ : Unit =>
   some (-1 : Int)) fun J6 =>
   (iter (AX p0 p1) FUEL (0 : Int)).bind fun o =>
  match o with
  | .inl o1 => J6 o1
  | .inr o1 => some o1
def Aq (p0 : List Ab) (p1 : Ab -> Option Bool) : Option (Bool) :=
   (AQ p0 p1).bind fun x1 =>
  some (decide ((0 : Int) <= x1))
def Gy (p0 : Int) (p1 : Int) : Option (Bool) :=
  cond (p0 == (1 : Int))
   (some (((p1 == (2 : Int)) || (p1 == (4 : Int))) || (p1 == (5 : Int))))
   (cond (p0 == (2 : Int))
    (some ((decide ((2 : Int) <= p1)) && (decide (p1 <= (5 : Int)))))
    (some false))
def De (p0 : Ab) (p1 : Ab) : Option (Bool) :=
   (Gy p1.Kind p0.Kind).bind fun x1 =>
  some (!x1)
def Em (p0 : Ab) : Option (Bool) :=
  letJ (fun a9 : Bool =>
    (letJ (fun v20 : Bool => some v20) fun J19 => cond a9 (J19 true) ((Aq p0.Kids (fun z0 => De z0 p0)).bind fun x21 =>
     J19 x21))) fun J10 =>
  cond (p0.Kind == (1 : Int))
   (J10 ((((p0.Kind != (2 : Int)) && (decide ((0 : Int) < (p0.Attrs.length : Int)))) || (!((p0.Name.URI == (⟨([] : List UInt8), ([] : List UInt8)⟩ : Aa).URI) && ((p0.Name.Local == (⟨([] : List UInt8), ([] : List UInt8)⟩ : Aa).Local) && true)))) || (!(p0.Text == ([] : List UInt8)))))
   (cond (p0.Kind == (2 : Int))
    (J10 (!(p0.Text == ([] : List UInt8))))
    (cond (p0.Kind == (5 : Int))
     (J10 (((p0.Kind != (2 : Int)) && (decide ((0 : Int) < (p0.Attrs.length : Int)))) || (!(p0.Name.URI == ([] : List UInt8)))))
     (J10 (((p0.Kind != (2 : Int)) && (decide ((0 : Int) < (p0.Attrs.length : Int)))) || (!((p0.Name.URI == (⟨([] : List UInt8), ([] : List UInt8)⟩ : Aa).URI) && ((p0.Name.Local == (⟨([] : List UInt8), ([] : List UInt8)⟩ : Aa).Local) && true)))))))
def Ex (rec0 : Ab × Int -> Option Bool) (p0 : Ab) (p1 : Int) : Option (Bool) :=
   (rec0 (p0, p1)).bind fun x1 =>
  some x1
def CB (rec0 : Ab × Int -> Option (Bool)) : Ab × Int -> Option (Bool)
  | (p0, p1) =>
  letJ (fun a4 : Int =>
    (Aq p0.Kids (fun z0 => Ex rec0 z0 a4)).bind fun x10 =>
   some x10) fun J5 =>
  cond (p0.Kind == (2 : Int))
   (cond (decide ((32 : Int) < p1))
    (some true)
    (J5 (IntKind.wrap .i64 (p1 + (1 : Int)))))
   (J5 p1)
def H9 (p0 : Ab) (p1 : Int) : Option (Bool) := iter CB FUEL (p0, p1)
def EY (p0 : Ah) : Option (Bool) :=
  some (decide ((8192 : Int) < (p0.Value.length : Int)))
def Ay (p0 : List Ah) (p1 : Ah -> Option Bool) : Option (Bool) :=
   (Ax p0 p1).bind fun x1 =>
  some (decide ((0 : Int) <= x1))
def Ep (p0 : Ab) : Option (Bool) :=
   (letJ (fun v4 : Bool => some v4) fun J3 => cond ((decide ((64 : Int) < (p0.Attrs.length : Int))) || (decide ((8192 : Int) < (p0.Text.length : Int)))) (J3 true) ((Ay p0.Attrs EY).bind fun x5 =>
    J3 x5))
def Dw (p0 : List UInt8) (rec23 : Nat -> Option (Unit ⊕ Bool)) (a20 : Nat) : Option (Unit ⊕ Bool) :=
  cond (decide (a20 < p0.length))
   ((letJ (fun v27 : Bool => (letJ (fun v31 : Bool => cond v31
        (some (.inr false))
        (rec23 (a20 + wdS p0 a20))) fun J30 => cond v27 (J30 true) ((Dn (rnS p0 a20)).bind fun x32 =>
       J30 (!x32)))) fun J26 => cond (((a20 : Nat) : Int) == (0 : Int)) ((C0 (rnS p0 a20)).bind fun x28 =>
     J26 (!x28)) (J26 false)))
   (some (.inl ()))
def EM (p0 : List UInt8) : Option (Bool) :=
   (letJ (fun v4 : Bool => cond v4
     (some false)
     (letJ (fun _ : Unit =>
      some true) fun J18 =>
      (iter (Dw p0) FUEL (0 : Nat)).bind fun o =>
     match o with
     | .inl o1 => J18 o1
     | .inr o1 => some o1)) fun J3 => cond ((p0 == ([] : List UInt8)) || (decide ((100 : Int) < (p0.length : Int)))) (J3 true) ((L_ValidString p0).bind fun x5 =>
    J3 (!x5)))
def Ew (p0 : Int) : Option (Bool) :=
   (letJ (fun v5 : Bool => some v5) fun J4 => cond (((p0 == (9 : Int)) || (p0 == (10 : Int))) || (p0 == (13 : Int))) (J4 true) ((E6 p0 ([(⟨(32 : Int), (55295 : Int)⟩ : Ao), (⟨(57344 : Int), (65533 : Int)⟩ : Ao), (⟨(65536 : Int), (1114111 : Int)⟩ : Ao)])).bind fun x6 =>
    J4 x6))
def FW (p0 : List UInt8) (p1 : Int) : Option (Int × Int × Int) :=
  cond ((decide (p1 < (0 : Int))) || (decide ((p0.length : Int) <= p1)))
   (some ((0 : Int), (0 : Int), (1 : Int)))
   ((slc p0 p1 (p0.length : Int)).bind fun x3 =>
    (L_DecodeRune x3).bind fun x4 =>
   cond ((x4.1 == (65533 : Int)) && (decide (x4.2 < (3 : Int))))
    (some ((0 : Int), (0 : Int), (20 : Int)))
    ((Ew x4.1).bind fun x7 =>
    cond (!x7)
     (some ((0 : Int), (0 : Int), (21 : Int)))
     (some (x4.1, (IntKind.wrap .i64 (p1 + x4.2)), (0 : Int)))))
def DN (p0 : List UInt8) (rec9 : Int -> Option (Unit ⊕ (Int × Int))) (a6 : Int) : Option (Unit ⊕ (Int × Int)) :=
  cond (decide (a6 < (p0.length : Int)))
   ((FW p0 a6).bind fun x12 =>
   cond (x12.2.2 != (0 : Int))
    (some (.inr (a6, x12.2.2)))
    (rec9 x12.2.1))
   (some (.inl ()))
def Fo (p0 : List UInt8) : Option (Int × Int) :=
  letJ (fun _ : Unit =>
   some ((0 : Int), (0 : Int))) fun J5 =>
   (iter (DN p0) FUEL (0 : Int)).bind fun o =>
  match o with
  | .inl o1 => J5 o1
  | .inr o1 => some o1
def ET (p0 : List UInt8) : Option (Bool) :=
   (Fo p0).bind fun x1 =>
  some (x1.2 != (0 : Int))
def CT (p0 : Aa) : Option (Bool) :=
   (EM p0.Local).bind fun x1 =>
   (letJ (fun v5 : Bool => some (v5 || (p0.URI == ([104, 116, 116, 112, 58, 47, 47, 119, 119, 119, 46, 119, 51, 46, 111, 114, 103, 47, 50, 48, 48, 48, 47, 120, 109, 108, 110, 115, 47] : List UInt8)))) fun J4 => cond ((!x1) || (decide ((100 : Int) < (p0.URI.length : Int)))) (J4 true) ((ET p0.URI).bind fun x6 =>
    J4 x6))
def DX (p0 : Ah) : Option (Bool) :=
   (CT p0.Name).bind fun x1 =>
  some (x1 || ((p0.Name.URI == (⟨([] : List UInt8), ([120, 109, 108, 110, 115] : List UInt8)⟩ : Aa).URI) && ((p0.Name.Local == (⟨([] : List UInt8), ([120, 109, 108, 110, 115] : List UInt8)⟩ : Aa).Local) && true)))
def Bg (a94 : Int) (a95 : Int) (rec112 : Int -> Option (Int)) (a109 : Int) : Option (Int) :=
  cond ((a109 != a94) && (decide (a109 < a95)))
   ((L_SimpleFold a109).bind fun x116 =>
   rec112 x116)
   (some a109)
def A4 (x52 : List UInt8) (rec87 : (List UInt8) × Nat -> Option (((List UInt8)) ⊕ Bool)) : (List UInt8) × Nat -> Option (((List UInt8)) ⊕ Bool)
  | (a83, a84) =>
  cond (decide (a84 < x52.length))
   (cond ((a83.length : Int) == (0 : Int))
    (some (.inr false))
    ((L_DecodeRuneInString a83).bind fun x90 =>
     (slc a83 x90.2 (a83.length : Int)).bind fun x91 =>
    cond (x90.1 == (rnS x52 a84))
     (rec87 (x91, (a84 + wdS x52 a84)))
     (letJ (fun v : Int × Int => match v with
      | (a94, a95) =>
      cond (decide (a95 < (128 : Int)))
       (cond (((decide ((65 : Int) <= a94)) && (decide (a94 <= (90 : Int)))) && (a95 == (IntKind.wrap .i32 ((IntKind.wrap .i32 (a94 + (97 : Int))) - (65 : Int)))))
        (rec87 (x91, (a84 + wdS x52 a84)))
        (some (.inr false)))
       ((L_SimpleFold a94).bind fun x102 =>
       letJ (fun a107 : Int =>
        cond (a107 == a95)
         (rec87 (x91, (a84 + wdS x52 a84)))
         (some (.inr false))) fun J108 =>
        (iter (Bg a94 a95) FUEL x102).bind fun o =>
       J108 o)) fun J96 =>
     cond (decide (x90.1 < (rnS x52 a84)))
      (J96 (x90.1, (rnS x52 a84)))
      (J96 ((rnS x52 a84), x90.1)))))
   (some (.inl a83))
def Br (p0 : List UInt8) (p1 : List UInt8) (rec146 : Int -> Option (Unit ⊕ Int ⊕ Bool)) (a143 : Int) : Option (Unit ⊕ Int ⊕ Bool) :=
  cond (decide (a143 < (if (p1.length : Int) < (p0.length : Int) then (p1.length : Int) else (p0.length : Int))))
   (letJ (fun _ : Unit =>
    rec146 (IntKind.wrap .i64 (a143 + (1 : Int)))) fun J160 =>
    (idx p0 a143).bind fun x161 =>
    (idx p1 a143).bind fun x162 =>
   cond (decide ((128 : Int) <= (ior .u8 (x161.toNat : Int) (x162.toNat : Int))))
    (some (.inr (.inl a143)))
    (cond ((x162.toNat : Int) == (x161.toNat : Int))
     (J160 ())
     (letJ (fun v : Int × Int => match v with
      | (a166, a167) =>
      cond (((decide ((65 : Int) <= a166)) && (decide (a166 <= (90 : Int)))) && (a167 == (IntKind.wrap .u8 ((IntKind.wrap .u8 (a166 + (97 : Int))) - (65 : Int)))))
       (J160 ())
       (some (.inr (.inr false)))) fun J168 =>
     cond (decide ((x162.toNat : Int) < (x161.toNat : Int)))
      (J168 ((x162.toNat : Int), (x161.toNat : Int)))
      (J168 ((x161.toNat : Int), (x162.toNat : Int))))))
   (some (.inl ()))
def CF (p0 : List UInt8) (p1 : List UInt8) : Option (Bool) :=
  letJ (fun a49 : Int =>
    (slc p0 a49 (p0.length : Int)).bind fun x52 =>
    (slc p1 a49 (p1.length : Int)).bind fun x53 =>
   letJ (fun a80 : List UInt8 =>
    some ((a80.length : Int) == (0 : Int))) fun J81 =>
    (iter (A4 x52) FUEL (x53, (0 : Nat))).bind fun o =>
   match o with
   | .inl o1 => J81 o1
   | .inr o1 => some o1) fun J50 =>
  letJ (fun _ : Unit =>
   some ((p0.length : Int) == (p1.length : Int))) fun J142 =>
   (iter (Br p0 p1) FUEL (0 : Int)).bind fun o =>
  match o with
  | .inl o1 => J142 o1
  | .inr (.inl o1) => J50 o1
  | .inr (.inr o1) => some o1
def Cb (p0 : Ab) : Option (Bool) :=
  cond (p0.Kind == (2 : Int))
   ((CT p0.Name).bind fun x2 =>
    (letJ (fun v5 : Bool => some v5) fun J4 => cond x2 (J4 true) ((Ay p0.Attrs DX).bind fun x6 =>
     J4 x6)))
   (cond (p0.Kind == (5 : Int))
    ((EM p0.Name.Local).bind fun x8 =>
     (letJ (fun v11 : Bool => some v11) fun J10 => cond (!x8) (J10 true) ((CF p0.Name.Local ([120, 109, 108] : List UInt8)).bind fun x12 =>
      J10 x12)))
    (some false))
def EA (p0 : Ah) : Option (Bool) :=
   (ET p0.Value).bind fun x1 =>
  some x1
def CV (p0 : Ab) : Option (Bool) :=
   (ET p0.Text).bind fun x1 =>
   (letJ (fun v4 : Bool => some v4) fun J3 => cond x1 (J3 true) ((Ay p0.Attrs EA).bind fun x5 =>
    J3 x5))
def CY (p0 : List UInt8) : Option (Bool) :=
  some (!(p0 == p0))
def BX (p0 : List UInt8) (p1 : List UInt8) : Option (Int) :=
   (CY p0).bind fun x1 =>
   (CY p1).bind fun x2 =>
  cond x1
   (cond x2
    (some (0 : Int))
    (some (-1 : Int)))
   (cond x2
    (some (1 : Int))
    (cond (Op.bytesLess p0 p1)
     (some (-1 : Int))
     (cond (!(Op.bytesLess p0 p1 || p0 == p1))
      (some (1 : Int))
      (some (0 : Int)))))
def Bv (p0 : List Int) (rec9 : Int -> Option (Unit ⊕ Int)) (a6 : Int) : Option (Unit ⊕ Int) :=
  cond (decide (a6 < (p0.length : Int)))
   ((idx p0 a6).bind fun x12 =>
   cond (x12 != (0 : Int))
    (some (.inr x12))
    (rec9 (IntKind.wrap .i64 (a6 + (1 : Int)))))
   (some (.inl ()))
def Fg (p0 : List Int) : Option (Int) :=
  letJ (fun _ : Unit =>
   some (0 : Int)) fun J5 =>
   (iter (Bv p0) FUEL (0 : Int)).bind fun o =>
  match o with
  | .inl o1 => J5 o1
  | .inr o1 => some o1
def Eh (p0 : Aa) (p1 : Aa) : Option (Int) :=
   (BX p0.URI p1.URI).bind fun x1 =>
   (BX p0.Local p1.Local).bind fun x2 =>
   (Fg ([x1, x2])).bind fun x3 =>
  some x3
def CL (p0 : Ab) (rec19 : Int -> Option (Unit ⊕ Bool)) (a16 : Int) : Option (Unit ⊕ Bool) :=
  cond (decide (a16 < (p0.Attrs.length : Int)))
   (letJ (fun a27 : Bool =>
    cond a27
     (some (.inr true))
     (rec19 (IntKind.wrap .i64 (a16 + (1 : Int))))) fun J28 =>
   cond (decide ((0 : Int) < a16))
    ((idx p0.Attrs (IntKind.wrap .i64 (a16 - (1 : Int)))).bind fun x31 =>
     (idx p0.Attrs a16).bind fun x32 =>
     (Eh x31.Name x32.Name).bind fun x33 =>
    J28 (decide ((0 : Int) <= x33)))
    (J28 false))
   (some (.inl ()))
def BH (p0 : Ab) : Option (Bool) :=
  letJ (fun _ : Unit =>
   some false) fun J15 =>
   (iter (CL p0) FUEL (0 : Int)).bind fun o =>
  match o with
  | .inl o1 => J15 o1
  | .inr o1 => some o1
def Cz (p0 : List UInt8) (p1 : List UInt8) : Option (Bool) :=
   (letJ (fun v3 : Bool => some v3) fun J2 => cond (decide ((p1.length : Int) <= (p0.length : Int))) ((slc p0 (IntKind.wrap .i64 ((p0.length : Int) - (p1.length : Int))) (p0.length : Int)).bind fun x4 =>
    J2 (x4 == p1)) (J2 false))
def CK (p0 : List UInt8) (p1 : List UInt8) : Option (Bool) :=
   (Cz p0 p1).bind fun x1 =>
  some x1
def CJ (p0 : Ab) (rec15 : Int -> Option (Unit ⊕ Bool)) (a12 : Int) : Option (Unit ⊕ Bool) :=
  cond (decide (a12 < (p0.Kids.length : Int)))
   ((idx p0.Kids a12).bind fun x18 =>
    (letJ (fun v23 : Bool => cond v23
      (some (.inr true))
      (rec15 (IntKind.wrap .i64 (a12 + (1 : Int))))) fun J22 => cond ((decide ((0 : Int) < a12)) && (x18.Kind == (3 : Int))) ((idx p0.Kids (IntKind.wrap .i64 (a12 - (1 : Int)))).bind fun x24 =>
     J22 (x24.Kind == (3 : Int))) (J22 false)))
   (some (.inl ()))
def BZ (p0 : Ab) : Option (Bool) :=
  letJ (fun _ : Unit =>
   cond (p0.Kind == (3 : Int))
    (some (p0.Text == ([] : List UInt8)))
    (cond (p0.Kind == (4 : Int))
     ((L_Contains p0.Text ([45, 45] : List UInt8)).bind fun x28 =>
      (letJ (fun v31 : Bool => (letJ (fun v35 : Bool => some v35) fun J34 => cond v31 (J34 true) ((L_Contains p0.Text ([13] : List UInt8)).bind fun x36 =>
         J34 x36))) fun J30 => cond x28 (J30 true) ((CK p0.Text ([45] : List UInt8)).bind fun x32 =>
       J30 x32)))
     (cond (p0.Kind == (5 : Int))
      (letJ (fun a45 : Bool =>
       some a45) fun J46 =>
       (L_Contains p0.Text ([63, 62] : List UInt8)).bind fun x47 =>
      cond x47
       (J46 true)
       ((L_Contains p0.Text ([13] : List UInt8)).bind fun x50 =>
       cond x50
        (J46 true)
        ((L_TrimLeft p0.Text ([32, 9, 10] : List UInt8)).bind fun x53 =>
        J46 (!(p0.Text == x53)))))
      (some false)))) fun J11 =>
   (iter (CJ p0) FUEL (0 : Int)).bind fun o =>
  match o with
  | .inl o1 => J11 o1
  | .inr o1 => some o1
def DP (p0 : Ab) (rec40 : Int × Int -> Option (Int)) : Int × Int -> Option (Int)
  | (a36, a37) =>
  cond (decide (a37 < (p0.Kids.length : Int)))
   (letJ (fun a46 : Int =>
    rec40 (a46, (IntKind.wrap .i64 (a37 + (1 : Int))))) fun J47 =>
    (idx p0.Kids a37).bind fun x48 =>
   cond (x48.Kind == (2 : Int))
    (J47 (IntKind.wrap .i64 (a36 + (1 : Int))))
    (J47 a36))
   (some a36)
def DR (p0 : Ab) : Option (Int) :=
   (ER p0 ([] : List Ab)).bind fun x1 =>
   (letJ (fun v6 : Bool => cond v6
     (some (33 : Int))
     ((H9 p0 (0 : Int)).bind fun x9 =>
     cond x9
      (some (31 : Int))
      ((letJ (fun v13 : Bool => cond v13
         (some (5 : Int))
         ((Aq x1 Cb).bind fun x16 =>
         cond x16
          (some (24 : Int))
          ((Aq x1 CV).bind fun x18 =>
          cond x18
           (some (21 : Int))
           ((Aq x1 BH).bind fun x20 =>
           cond x20
            (some (34 : Int))
            ((Aq x1 BZ).bind fun x22 =>
            cond x22
             (some (32 : Int))
             (letJ (fun a34 : Int =>
              cond (a34 != (1 : Int))
               (some (30 : Int))
               (some (0 : Int))) fun J35 =>
              (iter (DP p0) FUEL ((0 : Int), (0 : Int))).bind fun o =>
             J35 o)))))) fun J12 => cond (decide ((2000 : Int) < (IntKind.wrap .i64 ((x1.length : Int) - (1 : Int))))) (J12 true) ((Aq x1 Ep).bind fun x14 =>
        J12 x14))))) fun J5 => cond (p0.Kind != (1 : Int)) (J5 true) ((Aq x1 Em).bind fun x7 =>
    J5 x7))
def Db (p1 : Ak) (x100 : Ag) (rec109 : (List An) × Int -> Option (((List An)))) : (List An) × Int -> Option (((List An)))
  | (a104, a106) =>
  cond (decide (a106 < (x100.node.Attrs.length : Int)))
   (letJ (fun a120 : List An =>
    rec109 (a120, (IntKind.wrap .i64 (a106 + (1 : Int))))) fun J122 =>
    (idx x100.node.Attrs a106).bind fun x123 =>
   cond ((p1.test == ([42] : List UInt8)) || ((x123.Name.URI == p1.name.URI) && ((x123.Name.Local == p1.name.Local) && true)))
    ((L_CloneInts x100.path).bind fun x129 =>
     (app 64 a104 [(⟨x129, true, x123.Name⟩ : An)]).bind fun _ =>
    J122 (a104 ++ [(⟨x129, true, x123.Name⟩ : An)]))
    (J122 a104))
   (some a104)
def DG (p0 : List Ag) (p1 : Ak) (rec68 : (List An) × Int -> Option (((List An)))) : (List An) × Int -> Option (((List An)))
  | (a63, a65) =>
  cond (decide (a65 < (p0.length : Int)))
   (letJ (fun a97 : List An =>
    rec68 (a97, (IntKind.wrap .i64 (a65 + (1 : Int))))) fun J99 =>
    (idx p0 a65).bind fun x100 =>
    (iter (Db p1 x100) FUEL (a63, (0 : Int))).bind fun o =>
   J99 o)
   (some a63)
def Fb (p0 : List Ag) (p1 : Ak) : Option ((List An)) :=
  letJ (fun a60 : List An =>
   some a60) fun J62 =>
   (iter (DG p0 p1) FUEL (([] : List An), (0 : Int))).bind fun o =>
  J62 o
def Bq (p0 : List Int) (p1 : List Int) (rec11 : Int -> Option (Unit ⊕ Bool)) (a8 : Int) : Option (Unit ⊕ Bool) :=
  cond (decide (a8 < (p0.length : Int)))
   ((idx p0 a8).bind fun x14 =>
    (idx p1 a8).bind fun x15 =>
   cond (x14 != x15)
    (some (.inr false))
    (rec11 (IntKind.wrap .i64 (a8 + (1 : Int)))))
   (some (.inl ()))
def B2 (p0 : List Int) (p1 : List Int) : Option (Bool) :=
  cond ((p0.length : Int) != (p1.length : Int))
   (some false)
   (letJ (fun _ : Unit =>
    some true) fun J7 =>
    (iter (Bq p0 p1) FUEL (0 : Int)).bind fun o =>
   match o with
   | .inl o1 => J7 o1
   | .inr o1 => some o1)
def DS (p0 : List Ag) (rec70 : (List Ag) × Int -> Option (((List Ag)))) : (List Ag) × Int -> Option (((List Ag)))
  | (a65, a67) =>
  cond (decide (a67 < (p0.length : Int)))
   (letJ (fun a100 : List Ag =>
    rec70 (a100, (IntKind.wrap .i64 (a67 + (1 : Int))))) fun J102 =>
    (idx p0 a67).bind fun x103 =>
   letJ (fun a116 : Bool =>
    cond a116
     ((app 128 a65 [x103]).bind fun _ =>
     J102 (a65 ++ [x103]))
     (J102 a65)) fun J117 =>
   cond ((a65.length : Int) == (0 : Int))
    (J117 true)
    ((idx a65 (IntKind.wrap .i64 ((a65.length : Int) - (1 : Int)))).bind fun x122 =>
    cond (decide ((x103.path.length : Int) < (x122.path.length : Int)))
     (J117 true)
     ((idx a65 (IntKind.wrap .i64 ((a65.length : Int) - (1 : Int)))).bind fun x125 =>
      (idx a65 (IntKind.wrap .i64 ((a65.length : Int) - (1 : Int)))).bind fun x126 =>
      (slc x103.path (0 : Int) (x126.path.length : Int)).bind fun x127 =>
      (B2 x125.path x127).bind fun x128 =>
     J117 (!x128))))
   (some a65)
def Fh (p0 : List Ag) : Option ((List Ag)) :=
  letJ (fun a62 : List Ag =>
   some a62) fun J64 =>
   (iter (DS p0) FUEL (([] : List Ag), (0 : Int))).bind fun o =>
  J64 o
def Cu (p0 : Ak) (p1 : Ag) (rec0 : Ak × Ag -> Option ((List Ag))) (rec25 : (List Ag) × Int -> Option (((List Ag)))) : (List Ag) × Int -> Option (((List Ag)))
  | (a20, a22) =>
  cond (decide (a22 < (p1.node.Kids.length : Int)))
   ((idx p1.node.Kids a22).bind fun x28 =>
    (app 8 [] p1.path).bind fun x32 =>
    (app 8 x32 [a22]).bind fun _ =>
    (rec0 (p0, (⟨(x32 ++ [a22]), x28⟩ : Ag))).bind fun x36 =>
    (app 128 a20 x36).bind fun _ =>
   rec25 ((a20 ++ x36), (IntKind.wrap .i64 (a22 + (1 : Int)))))
   (some a20)
def Bw (rec0 : Ak × Ag -> Option ((List Ag))) : Ak × Ag -> Option ((List Ag))
  | (p0, p1) =>
   (CD p0 p1).bind fun x1 =>
  letJ (fun a17 : List Ag =>
   some a17) fun J19 =>
   (iter (Cu p0 p1 rec0) FUEL (x1, (0 : Int))).bind fun o =>
  J19 o
def EQ (p0 : Ak) (p1 : Ag) : Option ((List Ag)) := iter Bw FUEL (p0, p1)
def DI (p0 : Int) : Option (Bool) :=
  some (p0 != p0)
def B6 (p0 : Int) (p1 : Int) : Option (Int) :=
   (DI p0).bind fun x1 =>
   (DI p1).bind fun x2 =>
  cond x1
   (cond x2
    (some (0 : Int))
    (some (-1 : Int)))
   (cond x2
    (some (1 : Int))
    (cond (decide (p0 < p1))
     (some (-1 : Int))
     (cond (decide (p1 < p0))
      (some (1 : Int))
      (some (0 : Int)))))
def FX (p0 : List Int) (p1 : List Int) (rec12 : Int -> Option (Unit ⊕ Int)) (a9 : Int) : Option (Unit ⊕ Int) :=
  cond (decide (a9 < (p0.length : Int)))
   ((idx p0 a9).bind fun x15 =>
   cond (decide ((p1.length : Int) <= a9))
    (some (.inr (1 : Int)))
    ((idx p1 a9).bind fun x17 =>
     (B6 x15 x17).bind fun x18 =>
    cond (x18 != (0 : Int))
     (some (.inr x18))
     (rec12 (IntKind.wrap .i64 (a9 + (1 : Int))))))
   (some (.inl ()))
def Gp (p0 : List Int) (p1 : List Int) : Option (Int) :=
  letJ (fun _ : Unit =>
   cond (decide ((p0.length : Int) < (p1.length : Int)))
    (some (-1 : Int))
    (some (0 : Int))) fun J8 =>
   (iter (FX p0 p1) FUEL (0 : Int)).bind fun o =>
  match o with
  | .inl o1 => J8 o1
  | .inr o1 => some o1
def SD (p0 : Ag) (p1 : Ag) : Option (Int) :=
   (Gp p0.path p1.path).bind fun x1 =>
  some x1
def Ds (x221 : Ak) (a228 : List Ag) (rec266 : (List Ag) × Int -> Option (((List Ag)))) : (List Ag) × Int -> Option (((List Ag)))
  | (a262, a263) =>
  cond (decide (a263 < (a228.length : Int)))
   (letJ (fun a280 : List Ag =>
    rec266 (a280, (IntKind.wrap .i64 (a263 + (1 : Int))))) fun J281 =>
    (idx a228 a263).bind fun x282 =>
   cond x221.deep
    ((EQ x221 x282).bind fun x285 =>
     (app 128 a262 x285).bind fun _ =>
     (some (a262 ++ x285)).bind fun a287 =>
    J281 a287)
    ((CD x221 x282).bind fun x288 =>
     (app 128 a262 x288).bind fun _ =>
     (some (a262 ++ x288)).bind fun a291 =>
    J281 a291))
   (some a262)
def Du (x1 : (List Ak) × Int × Int) (rec149 : (List Ag) × Int -> Option (((List Ag)) ⊕ ((List An) × Int × Int))) : (List Ag) × Int -> Option (((List Ag)) ⊕ ((List An) × Int × Int))
  | (a145, a146) =>
  cond (decide (a146 < (x1.1.length : Int)))
   (letJ (fun a219 : List Ag =>
    rec149 (a219, (IntKind.wrap .i64 (a146 + (1 : Int))))) fun J220 =>
    (idx x1.1 a146).bind fun x221 =>
   cond x221.attr
    ((Fb a145 x221).bind fun x224 =>
    some (.inr (x224, (0 : Int), (0 : Int))))
    (letJ (fun a228 : List Ag =>
     letJ (fun a259 : List Ag =>
       (NB HU Fj a259).bind fun x292 =>
      J220 x292) fun J260 =>
      (iter (Ds x221 a228) FUEL (([] : List Ag), (0 : Int))).bind fun o =>
     J260 o) fun J229 =>
    cond x221.deep
     ((Fh a145).bind fun x231 =>
     J229 x231)
     (J229 a145)))
   (some (.inl a145))
def Dv (a143 : List Ag) (rec311 : (List An) × Int -> Option (((List An)))) : (List An) × Int -> Option (((List An)))
  | (a306, a308) =>
  cond (decide (a308 < (a143.length : Int)))
   ((idx a143 a308).bind fun x314 =>
    (app 64 a306 [(⟨x314.path, false, (⟨([] : List UInt8), ([] : List UInt8)⟩ : Aa)⟩ : An)]).bind fun _ =>
   rec311 ((a306 ++ [(⟨x314.path, false, (⟨([] : List UInt8), ([] : List UInt8)⟩ : Aa)⟩ : An)]), (IntKind.wrap .i64 (a308 + (1 : Int)))))
   (some a306)
def Eg (p0 : Ab) (p1 : List UInt8) : Option ((List An) × Int × Int) :=
   (Dg p1).bind fun x1 =>
  cond (x1.2.2 != (0 : Int))
   (some (([] : List An), x1.2.1, x1.2.2))
   ((DR p0).bind fun x3 =>
   cond (x3 != (0 : Int))
    (some (([] : List An), (0 : Int), x3))
    (letJ (fun a143 : List Ag =>
     letJ (fun a303 : List An =>
      some (a303, (0 : Int), (0 : Int))) fun J305 =>
      (iter (Dv a143) FUEL (([] : List An), (0 : Int))).bind fun o =>
     J305 o) fun J144 =>
     (iter (Du x1) FUEL ([(⟨([] : List Int), p0⟩ : Ag)], (0 : Int))).bind fun o =>
    match o with
    | .inl o1 => J144 o1
    | .inr o1 => some o1))
def Hl (p0 : List UInt8) : Option (Int × Int) :=
   (Dg p0).bind fun x1 =>
  some (x1.2.1, x1.2.2)
def D6 (p0 : List Int) (p1 : List Int) (rec11 : Int -> Option (Unit ⊕ Bool)) (a8 : Int) : Option (Unit ⊕ Bool) :=
  cond (decide (a8 < (p0.length : Int)))
   ((idx p0 a8).bind fun x14 =>
    (idx p1 a8).bind fun x15 =>
   cond (x14 != x15)
    (some (.inr false))
    (rec11 (IntKind.wrap .i64 (a8 + (1 : Int)))))
   (some (.inl ()))
def BU (p0 : List Int) (p1 : List Int) : Option (Bool) :=
  cond ((p0.length : Int) != (p1.length : Int))
   (some false)
   (letJ (fun _ : Unit =>
    some true) fun J7 =>
    (iter (D6 p0 p1) FUEL (0 : Int)).bind fun o =>
   match o with
   | .inl o1 => J7 o1
   | .inr o1 => some o1)
def C7 : Option (Bool) :=
   (CX ).bind fun x1 =>
   (Eg x1 ([47, 47, 98, 91, 64, 100, 126, 51, 44, 49, 93] : List UInt8)).bind fun x2 =>
   (CX ).bind fun x3 =>
   (Eg x3 ([47, 97, 47, 98, 47, 64, 42] : List UInt8)).bind fun x4 =>
   (Hl ([47, 97, 91, 48, 93] : List UInt8)).bind fun x5 =>
   (letJ (fun v12 : Bool => (letJ (fun v18 : Bool => (letJ (fun v22 : Bool => some v22) fun J21 => cond v18 ((idx x4.1 (0 : Int)).bind fun x23 =>
        J21 (x23.Name.Local == ([120] : List UInt8))) (J21 false))) fun J17 => cond (v12 && ((x4.1.length : Int) == (2 : Int))) ((idx x4.1 (0 : Int)).bind fun x19 =>
      J17 x19.Attr) (J17 false))) fun J11 => cond (((((x2.2.2 == (0 : Int)) && (x4.2.2 == (0 : Int))) && (x5.2 == (36 : Int))) && (x5.1 == (3 : Int))) && ((x2.1.length : Int) == (1 : Int))) ((idx x2.1 (0 : Int)).bind fun x13 =>
     (BU x13.Steps ([(0 : Int), (1 : Int)])).bind fun x14 =>
    J11 x14) (J11 false))
def Cq (p0 : An) (p1 : An) (rec11 : Int -> Option (Unit ⊕ Int)) (a8 : Int) : Option (Unit ⊕ Int) :=
  cond (decide (a8 < (if (p1.Steps.length : Int) < (p0.Steps.length : Int) then (p1.Steps.length : Int) else (p0.Steps.length : Int))))
   ((idx p0.Steps a8).bind fun x14 =>
    (idx p1.Steps a8).bind fun x15 =>
    (B6 x14 x15).bind fun x16 =>
   cond (x16 != (0 : Int))
    (some (.inr x16))
    (rec11 (IntKind.wrap .i64 (a8 + (1 : Int)))))
   (some (.inl ()))
def DJ (p0 : An) (p1 : An) : Option (Int) :=
  letJ (fun _ : Unit =>
    (B6 (p0.Steps.length : Int) (p1.Steps.length : Int)).bind fun x18 =>
   cond (x18 != (0 : Int))
    (some x18)
    (cond (p0.Attr && p1.Attr)
     ((Eh p0.Name p1.Name).bind fun x22 =>
     some x22)
     (cond p0.Attr
      (some (1 : Int))
      (cond p1.Attr
       (some (-1 : Int))
       (some (0 : Int)))))) fun J7 =>
   (iter (Cq p0 p1) FUEL (0 : Int)).bind fun o =>
  match o with
  | .inl o1 => J7 o1
  | .inr o1 => some o1
def Dr (p0 : Ab) (rec0 : Ab -> Option (Ab)) (rec37 : Int × (List UInt8) × (List UInt8) × (List Ah) × (List Ab) × (List UInt8) × Int -> Option ((Int × (List UInt8) × (List UInt8) × (List Ah) × (List Ab) × (List UInt8)))) : Int × (List UInt8) × (List UInt8) × (List Ah) × (List Ab) × (List UInt8) × Int -> Option ((Int × (List UInt8) × (List UInt8) × (List Ah) × (List Ab) × (List UInt8)))
  | (a27, a28, a29, a30, a31, a33, a34) =>
  cond (decide (a34 < (p0.Kids.length : Int)))
   ((idx p0.Kids a34).bind fun x40 =>
    (rec0 x40).bind fun x42 =>
    (app 104 a31 [x42]).bind fun _ =>
   rec37 (a27, a28, a29, a30, (a31 ++ [x42]), a33, (IntKind.wrap .i64 (a34 + (1 : Int)))))
   (some (a27, a28, a29, a30, a31, a33))
def B9 (rec0 : Ab -> Option (Ab)) : Ab -> Option (Ab)
  | p0 =>
   (app 48 ([] : List Ah) p0.Attrs).bind fun _ =>
  letJ (fun v : Int × (List UInt8) × (List UInt8) × (List Ah) × (List Ab) × (List UInt8) => match v with
   | (a19, a20, a21, a22, a23, a25) =>
   some (⟨a19, (⟨a20, a21⟩ : Aa), a22, a23, a25⟩ : Ab)) fun J26 =>
   (iter (Dr p0 rec0) FUEL (p0.Kind, p0.Name.URI, p0.Name.Local, (([] : List Ah) ++ p0.Attrs), ([] : List Ab), p0.Text, (0 : Int))).bind fun o =>
  J26 o
def H8 (p0 : Ab) : Option (Ab) := iter B9 FUEL p0
def Fi (p1 : List Int) (rec49 : Int × (List UInt8) × (List UInt8) × (List Ah) × (List Ab) × (List UInt8) × Int × (List UInt8) × (List UInt8) × (List Ah) × (List Ab) × (List UInt8) × Int -> Option ((Int × (List UInt8) × (List UInt8) × (List Ah) × (List Ab) × (List UInt8) × Int × (List UInt8) × (List UInt8) × (List Ah) × (List Ab) × (List UInt8)) ⊕ (Ab × Int))) : Int × (List UInt8) × (List UInt8) × (List Ah) × (List Ab) × (List UInt8) × Int × (List UInt8) × (List UInt8) × (List Ah) × (List Ab) × (List UInt8) × Int -> Option ((Int × (List UInt8) × (List UInt8) × (List Ah) × (List Ab) × (List UInt8) × Int × (List UInt8) × (List UInt8) × (List Ah) × (List Ab) × (List UInt8)) ⊕ (Ab × Int))
  | (a34, a35, a36, a37, a38, a39, a40, a41, a42, a43, a44, a45, a46) =>
  cond (decide (a46 < (p1.length : Int)))
   ((idx p1 a46).bind fun x52 =>
   cond ((decide (x52 < (0 : Int))) || (decide ((a38.length : Int) <= x52)))
    (some (.inr ((⟨(0 : Int), (⟨([] : List UInt8), ([] : List UInt8)⟩ : Aa), ([] : List Ah), ([] : List Ab), ([] : List UInt8)⟩ : Ab), (35 : Int))))
    ((idx a38 x52).bind fun x55 =>
    rec49 (x55.Kind, x55.Name.URI, x55.Name.Local, x55.Attrs, x55.Kids, x55.Text, a40, a41, a42, a43, a44, a45, (IntKind.wrap .i64 (a46 + (1 : Int))))))
   (some (.inl (a34, a35, a36, a37, a38, a39, a40, a41, a42, a43, a44, a45)))
def He (p0 : Ab) (p1 : List Int) : Option (Ab × Int) :=
  letJ (fun v : Int × (List UInt8) × (List UInt8) × (List Ah) × (List Ab) × (List UInt8) × Int × (List UInt8) × (List UInt8) × (List Ah) × (List Ab) × (List UInt8) => match v with
   | (a21, a22, a23, a24, a25, a26, a27, a28, a29, a30, a31, a32) =>
    (H8 (⟨a21, (⟨a22, a23⟩ : Aa), a24, a25, a26⟩ : Ab)).bind fun x56 =>
   some (x56, (0 : Int))) fun J33 =>
   (iter (Fi p1) FUEL (p0.Kind, p0.Name.URI, p0.Name.Local, p0.Attrs, p0.Kids, p0.Text, (0 : Int), ([] : List UInt8), ([] : List UInt8), ([] : List Ah), ([] : List Ab), ([] : List UInt8), (0 : Int))).bind fun o =>
  match o with
  | .inl o1 => J33 o1
  | .inr o1 => some o1
def Do (p0 : Ab) (rec0 : Ab -> Option ((List UInt8))) (rec16 : (List UInt8) × Int -> Option (((List UInt8)))) : (List UInt8) × Int -> Option (((List UInt8)))
  | (a12, a13) =>
  cond (decide (a13 < (p0.Kids.length : Int)))
   ((idx p0.Kids a13).bind fun x19 =>
   letJ (fun a22 : List UInt8 =>
     (rec0 x19).bind fun x25 =>
     (cat a22 x25).bind fun _ =>
    rec16 ((a22 ++ x25), (IntKind.wrap .i64 (a13 + (1 : Int))))) fun J23 =>
   cond (x19.Kind == (3 : Int))
    ((cat a12 x19.Text).bind fun _ =>
    J23 (a12 ++ x19.Text))
    (J23 a12))
   (some a12)
def BE (rec0 : Ab -> Option ((List UInt8))) : Ab -> Option ((List UInt8))
  | p0 =>
  letJ (fun a10 : List UInt8 =>
   some a10) fun J11 =>
   (iter (Do p0 rec0) FUEL (([] : List UInt8), (0 : Int))).bind fun o =>
  J11 o
def GJ (p0 : Ab) : Option ((List UInt8)) := iter BE FUEL p0
def Fw (p1 : An) (x1 : Ab × Int) (rec29 : Int -> Option (Unit ⊕ ((List UInt8) × Int))) (a26 : Int) : Option (Unit ⊕ ((List UInt8) × Int)) :=
  cond (decide (a26 < (x1.1.Attrs.length : Int)))
   ((idx x1.1.Attrs a26).bind fun x32 =>
   cond ((x1.1.Kind == (2 : Int)) && ((x32.Name.URI == p1.Name.URI) && ((x32.Name.Local == p1.Name.Local) && true)))
    (some (.inr (x32.Value, (0 : Int))))
    (rec29 (IntKind.wrap .i64 (a26 + (1 : Int)))))
   (some (.inl ()))
def Ey (p0 : Ab) (p1 : An) : Option ((List UInt8) × Int) :=
   (He p0 p1.Steps).bind fun x1 =>
  cond (x1.2 != (0 : Int))
   (some (([] : List UInt8), x1.2))
   (letJ (fun _ : Unit =>
    cond (((x1.1.Kind == (3 : Int)) || (x1.1.Kind == (4 : Int))) || (x1.1.Kind == (5 : Int)))
     (some (x1.1.Text, (0 : Int)))
     ((GJ x1.1).bind fun x39 =>
     some (x39, (0 : Int)))) fun J17 =>
   cond p1.Attr
    (letJ (fun _ : Unit =>
     some (([] : List UInt8), (7 : Int))) fun J25 =>
     (iter (Fw p1 x1) FUEL (0 : Int)).bind fun o =>
    match o with
    | .inl o1 => J25 o1
    | .inr o1 => some o1)
    (J17 ()))
def Bf (p0 : Ab) (x3 : (List An) × Int × Int) (rec27 : Int -> Option (Unit ⊕ Bool)) (a24 : Int) : Option (Unit ⊕ Bool) :=
  cond (decide (a24 < (x3.1.length : Int)))
   ((idx x3.1 a24).bind fun x30 =>
   letJ (fun a36 : Bool =>
    cond a36
     (some (.inr false))
     ((Ey p0 x30).bind fun x43 =>
     cond (x43.2 != (0 : Int))
      (some (.inr false))
      (rec27 (IntKind.wrap .i64 (a24 + (1 : Int)))))) fun J37 =>
   cond (decide ((0 : Int) < a24))
    ((idx x3.1 (IntKind.wrap .i64 (a24 - (1 : Int)))).bind fun x40 =>
     (DJ x40 x30).bind fun x41 =>
    J37 (x41 != (-1 : Int)))
    (J37 false))
   (some (.inl ()))
def BF (p0 : Ab) (p1 : List UInt8) : Option (Bool) :=
   (C7 ).bind fun x1 =>
  cond (!x1)
   (some false)
   ((Eg p0 p1).bind fun x3 =>
   cond (x3.2.2 != (0 : Int))
    (some ((((x3.1.length : Int) == (0 : Int)) && (decide ((0 : Int) <= x3.2.1))) && (decide (x3.2.1 <= (p1.length : Int)))))
    (letJ (fun _ : Unit =>
     some (x3.2.1 == (0 : Int))) fun J23 =>
     (iter (Bf p0 x3) FUEL (0 : Int)).bind fun o =>
    match o with
    | .inl o1 => J23 o1
    | .inr o1 => some o1))
end Go.Proofs.YtmnbjcpikllknaaGreatDoor
