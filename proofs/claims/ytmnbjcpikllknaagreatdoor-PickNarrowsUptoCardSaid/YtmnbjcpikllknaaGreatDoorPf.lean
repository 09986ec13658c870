/- The plain functions. No condition. -/
import Derived.Test.YtmnbjcpikllknaaGreatDoorEA
import Derived.Test.YtmnbjcpikllknaaGreatDoorLg11
set_option linter.unusedVariables false
set_option linter.unusedSimpArgs false
set_option maxRecDepth 20000
set_option maxHeartbeats 8000000
namespace Go.Proofs.YtmnbjcpikllknaaGreatDoor
structure Af where
  q : List By8
  at_ : Int
  deriving DecidableEq, Inhabited
def Ig (x : Af) : List D := [.str x.q, .int .i64 x.at_]
structure Ao where
  lo : Int
  hi : Int
  deriving DecidableEq, Inhabited
def AZ (x : Ao) : List D := [.int .i32 x.lo, .int .i32 x.hi]
structure Aa where
  URI : List By8
  Local : List By8
  deriving DecidableEq, Inhabited
def As (x : Aa) : List D := [.str x.URI, .str x.Local]
structure Ad where
  kind : Int
  k : Int
  name : Aa
  value : List By8
  spot : Nat × Nat
  deriving DecidableEq, Inhabited
def Al (x : Ad) : List D := [.int .u8 x.kind, .int .i64 x.k, .str x.name.URI, .str x.name.Local, .str x.value, .cplx .f64 x.spot.1 x.spot.2]
structure Ai where
  deep : Bool
  attr : Bool
  test : List By8
  name : Aa
  conds : List Ad
  deriving DecidableEq, Inhabited
def Ar (x : Ai) : List D := [.bool x.deep, .bool x.attr, .str x.test, .str x.name.URI, .str x.name.Local, .sl 6 (List.map Al x.conds) 0]
structure Ah where
  Name : Aa
  Value : List By8
  deriving DecidableEq, Inhabited
def An (x : Ah) : List D := [.str x.Name.URI, .str x.Name.Local, .str x.Value]
structure Am where
  Spots : List (Nat × Nat)
  Closed : Bool
  deriving DecidableEq, Inhabited
def A8 (x : Am) : List D := [.sl 1 (List.map FT x.Spots) 0, .bool x.Closed]
structure Az where
  s : List By8
  at_ : Int
  f : List Am
  pen : Nat × Nat
  n : Int
  open_ : Bool
  deriving DecidableEq, Inhabited
def Su (x : Az) : List D := [.str x.s, .int .i64 x.at_, .sl 2 (List.map A8 x.f) 0, .cplx .f64 x.pen.1 x.pen.2, .int .i64 x.n, .bool x.open_]
structure Ab where
  Kind : Int
  Name : Aa
  Attrs : List Ah
  Kids : List Ab
  Text : List By8
  deriving Inhabited
mutual
def Ae : Ab -> List D
  | ⟨Kind, Name, Attrs, Kids, Text⟩ => [.int .i64 Kind, .str Name.URI, .str Name.Local, .sl 3 (List.map An Attrs) 0, .sl 6 (Et Kids) 0, .str Text]
def Et : List Ab -> List (List D)
  | [] => []
  | x :: l => Ae x :: Et l
end
theorem HO : ∀ l : List Ab, Et l = List.map Ae l
  | [] => by simp only [Et, List.map_nil]
  | x :: l => by simp only [Et, List.map_cons, HO l]
theorem Ac (x : Ab) : Ae x = [.int .i64 x.Kind, .str x.Name.URI, .str x.Name.Local, .sl 3 (List.map An x.Attrs) 0, .sl 6 (List.map Ae x.Kids) 0, .str x.Text] := by cases x; simp only [Ae, HO]
theorem FY (x : Ab) : (Ae x).length = 6 := by rw [Ac]; rfl
structure Ag where
  path : List Int
  node : Ab
  deriving Inhabited
def Aj (x : Ag) : List D := [.sl 1 (List.map CH x.path) 0, .int .i64 x.node.Kind, .str x.node.Name.URI, .str x.node.Name.Local, .sl 3 (List.map An x.node.Attrs) 0, .sl 6 (List.map Ae x.node.Kids) 0, .str x.node.Text]
structure Ak where
  Steps : List Int
  Attr : Bool
  Name : Aa
  deriving DecidableEq, Inhabited
def Aq (x : Ak) : List D := [.sl 1 (List.map CH x.Steps) 0, .bool x.Attr, .str x.Name.URI, .str x.Name.Local]
def Au : Am × Option Nat -> List D
  | (x, some r) => [.sl 1 (List.map FT x.Spots) r, .bool x.Closed]
  | (x, none) => [.snil, .bool x.Closed]
theorem B4 : ∀ a, (Au a).length = 2
  | (_, some _) => rfl
  | (_, none) => rfl
theorem Ge (r : Nat) (a : Am) : WdC (Au (a, some r)) (Au (a, some 0)) := .cons (.zero _ _ _) (.cons (.refl _) (.nil))
def Bh (p0 : Af) : Option (Unit ⊕ Unit) := some (.inl ())
def AV (p0 : Af) (p1 : Int) : Option (Bool) :=
  letJ (fun a4 : Bool =>
   some a4) fun J5 =>
  cond (decide (p0.at_ < (p0.q.length : Int)))
   ((idx p0.q p0.at_).bind fun x8 =>
   J5 ((x8.toNat : Int) == p1))
   (J5 false)
def AC (p0 : Af) (p1 : Int) : Option (Af ⊕ Af) :=
  letJ (fun _ : Unit =>
   some (.inr (⟨p0.q, (IntKind.wrap .i64 (p0.at_ + 1))⟩ : Af))) fun J5 =>
   (AV p0 p1).bind fun x6 =>
  cond (!x6)
   ((Bh p0).bind fun x => pnc x (fun x9 =>
    some (.inl p0)) fun x8 =>
   J5 ())
   (J5 ())
def Ay (p0 : Af) (p1 : Int) : Option (Bool × Af) :=
   (AV p0 p1).bind fun x1 =>
  cond x1
   (some (true, (⟨p0.q, (IntKind.wrap .i64 (p0.at_ + 1))⟩ : Af)))
   (some (false, p0))
def Fv (p0 : Int) (p1 : List Ao) (rec10 : Int -> Option (Unit ⊕ Bool)) (a7 : Int) : Option (Unit ⊕ Bool) :=
  cond (decide (a7 < (p1.length : Int)))
   ((idx p1 a7).bind fun x13 =>
   cond (decide (p0 <= x13.hi))
    (some (.inr (decide (x13.lo <= p0))))
    (rec10 (IntKind.wrap .i64 (a7 + 1))))
   (some (.inl ()))
def FQ (p0 : Int) (p1 : List Ao) : Option (Bool) :=
  letJ (fun _ : Unit =>
   some false) fun J6 =>
   (iter (Fv p0 p1) FUEL 0).bind fun o =>
  match o with
  | .inl o1 => J6 o1
  | .inr o1 => some o1
def Dj (p0 : Int) : Option (Bool) :=
  cond (decide (p0 < 128))
   (some ((((decide (97 <= p0)) && (decide (p0 <= 122))) || ((decide (65 <= p0)) && (decide (p0 <= 90)))) || (p0 == 95)))
   ((FQ p0 ([(⟨192, 214⟩ : Ao), (⟨216, 246⟩ : Ao), (⟨248, 767⟩ : Ao), (⟨880, 893⟩ : Ao), (⟨895, 8191⟩ : Ao), (⟨8204, 8205⟩ : Ao), (⟨8304, 8591⟩ : Ao), (⟨11264, 12271⟩ : Ao), (⟨12289, 55295⟩ : Ao), (⟨63744, 64975⟩ : Ao), (⟨65008, 65533⟩ : Ao), (⟨65536, 983039⟩ : Ao)])).bind fun x7 =>
   some x7)
def CQ (p0 : Int) : Option (Bool) :=
   (Dj p0).bind fun x1 =>
   (letJ (fun v10 : Bool => some v10) fun J9 => cond ((((x1 || (p0 == 45)) || (p0 == 46)) || ((decide (48 <= p0)) && (decide (p0 <= 57)))) || (p0 == 183)) (J9 true) ((FQ p0 ([(⟨768, 879⟩ : Ao), (⟨8255, 8256⟩ : Ao)])).bind fun x11 =>
    J9 x11))
def AQ (p0 : Af) (p1 : Int) : Option (Af ⊕ ((List By8) × Af)) :=
   (slc p0.q p0.at_ (p0.q.length : Int)).bind fun x1 =>
   (L_IndexByte x1 p1).bind fun x2 =>
  letJ (fun a6 : Int =>
    (slc p0.q a6 (IntKind.wrap .i64 (a6 + x2))).bind fun x11 =>
   some (.inr (x11, (⟨p0.q, (IntKind.wrap .i64 (a6 + (IntKind.wrap .i64 (x2 + 1))))⟩ : Af)))) fun J7 =>
  cond (decide (x2 < 0))
   ((Bh (⟨p0.q, (p0.q.length : Int)⟩ : Af)).bind fun x => pnc x (fun x10 =>
    some (.inl (⟨p0.q, (p0.q.length : Int)⟩ : Af))) fun x9 =>
   J7 (p0.q.length : Int))
   (J7 p0.at_)
def AL (p0 : Af) (rec27 : (List By8) × Int -> Option (((List By8) × Int))) : (List By8) × Int -> Option (((List By8) × Int))
  | (a23, a24) =>
  cond (decide (a24 < (a23.length : Int)))
   ((slc a23 a24 (a23.length : Int)).bind fun x30 =>
    (L_DecodeRuneInString x30).bind fun x31 =>
    (letJ (fun v35 : Bool => (letJ (fun v39 : Bool => cond v39
        (some (a23, a24))
        (rec27 (a23, (IntKind.wrap .i64 (a24 + x31.2))))) fun J38 => cond v35 (J38 true) ((letJ (fun v42 : Bool => J38 v42) fun J41 => cond (a24 == p0.at_) ((Dj x31.1).bind fun x43 =>
         J41 (!x43)) (J41 false))))) fun J34 => cond ((x31.1 == 65533) && (decide (x31.2 < 3))) (J34 true) ((CQ x31.1).bind fun x36 =>
     J34 (!x36))))
   (some (a23, a24))
def AH (p0 : Af) : Option (Af ⊕ (Aa × Af)) :=
  letJ (fun v : (List By8) × Int => match v with
   | (a20, a21) =>
   letJ (fun _ : Unit =>
     (slc a20 p0.at_ a21).bind fun x52 =>
    letJ (fun v : (List By8) × (List By8) × Int => match v with
     | (a61, a62, a63) =>
     some (.inr ((⟨a61, (⟨[], x52⟩ : Aa).Local⟩ : Aa), (⟨a62, a63⟩ : Af)))) fun J64 =>
     (Ay (⟨a20, a21⟩ : Af) 123).bind fun x65 =>
    cond x65.1
     ((AQ x65.2 125).bind fun x => pnc x (fun x68 =>
      some (.inl x68)) fun x67 =>
     cond (x67.1 == [])
      ((Bh (⟨x67.2.q, (IntKind.wrap .i64 (x67.2.at_ - 1))⟩ : Af)).bind fun x => pnc x (fun x71 =>
       some (.inl (⟨x67.2.q, (IntKind.wrap .i64 (x67.2.at_ - 1))⟩ : Af))) fun x70 =>
      J64 (x67.1, x67.2.q, (IntKind.wrap .i64 (x67.2.at_ - 1))))
      (J64 (x67.1, x67.2.q, x67.2.at_)))
     (J64 ((⟨[], x52⟩ : Aa).URI, x65.2.q, x65.2.at_))) fun J48 =>
   cond (a21 == p0.at_)
    ((Bh (⟨a20, a21⟩ : Af)).bind fun x => pnc x (fun x51 =>
     some (.inl (⟨a20, a21⟩ : Af))) fun x50 =>
    J48 ())
    (J48 ())) fun J22 =>
   (iter (AL p0) FUEL (p0.q, p0.at_)).bind fun o =>
  J22 o
def A9 (p0 : Af) (p1 : Int) (p2 : Bool) (rec44 : (List By8) × Int × Int -> Option (((List By8) × Int × Int))) : (List By8) × Int × Int -> Option (((List By8) × Int × Int))
  | (a39, a40, a41) =>
  letJ (fun a54 : Bool =>
   cond a54
    (letJ (fun a70 : Bool =>
     cond a70
      (some (a39, a40, a41))
      ((idx a39 a40).bind fun x78 =>
      rec44 (a39, (IntKind.wrap .i64 (a40 + 1)), (IntKind.wrap .i64 ((IntKind.wrap .i64 (10 * a41)) + (IntKind.wrap .i64 (IntKind.wrap .u8 ((x78.toNat : Int) - 48)))))))) fun J71 =>
    cond (a40 == p0.at_)
     ((idx a39 a40).bind fun x74 =>
     cond ((x74.toNat : Int) == 48)
      (J71 (!p2))
      (J71 false))
     (J71 false))
    (some (a39, a40, a41))) fun J55 =>
  cond (decide (a40 < (a39.length : Int)))
   (cond (decide (a40 < (IntKind.wrap .i64 (p0.at_ + p1))))
    ((idx a39 a40).bind fun x60 =>
    cond (decide (48 <= (x60.toNat : Int)))
     ((idx a39 a40).bind fun x63 =>
     J55 (decide ((x63.toNat : Int) <= 57)))
     (J55 false))
    (J55 false))
   (J55 false)
def A1 (p0 : Af) (p1 : Int) (p2 : Bool) : Option (Af ⊕ (Int × Af)) :=
  letJ (fun v : (List By8) × Int × Int => match v with
   | (a35, a36, a37) =>
   letJ (fun _ : Unit =>
    some (.inr (a37, (⟨a35, a36⟩ : Af)))) fun J82 =>
   cond (a36 == p0.at_)
    ((Bh (⟨a35, a36⟩ : Af)).bind fun x => pnc x (fun x85 =>
     some (.inl (⟨a35, a36⟩ : Af))) fun x84 =>
    J82 ())
    (J82 ())) fun J38 =>
   (iter (A9 p0 p1 p2) FUEL (p0.q, p0.at_, 0)).bind fun o =>
  J38 o
def Bk (p0 : Af) : Option (Af ⊕ (Nat × Af)) :=
   (Ay p0 45).bind fun x1 =>
  cond x1.1
   ((A1 x1.2 7 true).bind fun x => pnc x (fun x4 =>
    some (.inl x4)) fun x3 =>
   some (.inr ((XP (i2f x3.1)), x3.2)))
   ((A1 x1.2 7 true).bind fun x => pnc x (fun x6 =>
    some (.inl x6)) fun x5 =>
   some (.inr ((i2f x5.1), x5.2)))
def A7 (p0 : Af) : Option (Af ⊕ (Ad × Af)) :=
   (Ay p0 64).bind fun x3 =>
  cond (!x3.1)
   ((A1 x3.2 6 false).bind fun x => pnc x (fun x6 =>
    some (.inl x6)) fun x5 =>
    (AC x5.2 93).bind fun x => pnc x (fun x8 =>
    some (.inl x8)) fun x7 =>
   some (.inr ((⟨(⟨91, 0, (⟨[], []⟩ : Aa), [], ((0, 0) : Nat × Nat)⟩ : Ad).kind, x5.1, (⟨91, 0, (⟨[], []⟩ : Aa), [], ((0, 0) : Nat × Nat)⟩ : Ad).name, (⟨91, 0, (⟨[], []⟩ : Aa), [], ((0, 0) : Nat × Nat)⟩ : Ad).value, (⟨91, 0, (⟨[], []⟩ : Aa), [], ((0, 0) : Nat × Nat)⟩ : Ad).spot⟩ : Ad), x7)))
   ((AH x3.2).bind fun x => pnc x (fun x10 =>
    some (.inl x10)) fun x9 =>
   letJ (fun v : (List By8) × Int × Int × (List By8) × (Nat × Nat) => match v with
    | (a25, a26, a27, a28, a29) =>
     (AC (⟨a25, a26⟩ : Af) 93).bind fun x => pnc x (fun x46 =>
     some (.inl x46)) fun x45 =>
    some (.inr ((⟨a27, (⟨91, 0, (⟨[], []⟩ : Aa), [], ((0, 0) : Nat × Nat)⟩ : Ad).k, x9.1, a28, a29⟩ : Ad), x45))) fun J30 =>
    (Ay x9.2 61).bind fun x31 =>
   cond x31.1
    ((AC x31.2 39).bind fun x => pnc x (fun x34 =>
     some (.inl x34)) fun x33 =>
     (AQ x33 39).bind fun x => pnc x (fun x36 =>
     some (.inl x36)) fun x35 =>
    J30 (x35.2.q, x35.2.at_, 61, x35.1, (⟨91, 0, (⟨[], []⟩ : Aa), [], ((0, 0) : Nat × Nat)⟩ : Ad).spot))
    ((Ay x31.2 126).bind fun x37 =>
    cond x37.1
     ((Bk x37.2).bind fun x => pnc x (fun x40 =>
      some (.inl x40)) fun x39 =>
      (AC x39.2 44).bind fun x => pnc x (fun x42 =>
      some (.inl x42)) fun x41 =>
      (Bk x41).bind fun x => pnc x (fun x44 =>
      some (.inl x44)) fun x43 =>
     J30 (x43.2.q, x43.2.at_, 126, (⟨91, 0, (⟨[], []⟩ : Aa), [], ((0, 0) : Nat × Nat)⟩ : Ad).value, ((x39.1, x43.1) : Nat × Nat)))
     (J30 (x37.2.q, x37.2.at_, 64, (⟨91, 0, (⟨[], []⟩ : Aa), [], ((0, 0) : Nat × Nat)⟩ : Ad).value, (⟨91, 0, (⟨[], []⟩ : Aa), [], ((0, 0) : Nat × Nat)⟩ : Ad).spot))))
def Ax (rec130 : (List By8) × Int × Bool × Bool × (List By8) × (List By8) × (List By8) × (List Ad) -> Option ((Bool × Bool × (List By8) × (List By8) × (List By8) × (List Ad) × (List By8) × Int) ⊕ (Af ⊕ (Ai × Af)))) : (List By8) × Int × Bool × Bool × (List By8) × (List By8) × (List By8) × (List Ad) -> Option ((Bool × Bool × (List By8) × (List By8) × (List By8) × (List Ad) × (List By8) × Int) ⊕ (Af ⊕ (Ai × Af)))
  | (a119, a120, a121, a122, a123, a124, a125, a126) =>
   (Ay (⟨a119, a120⟩ : Af) 91).bind fun x132 =>
  cond x132.1
   ((A7 x132.2).bind fun x => pnc x (fun x135 =>
    some (.inr (.inl x135))) fun x134 =>
    (app 80 a126 [x134.1]).bind fun _ =>
   rec130 (x134.2.q, x134.2.at_, a121, a122, a123, a124, a125, (a126 ++ [x134.1])))
   (some (.inl (a121, a122, a123, a124, a125, a126, x132.2.q, x132.2.at_)))
def AP (p0 : Af) : Option (Af ⊕ (Ai × Af)) :=
   (AC p0 47).bind fun x => pnc x (fun x5 =>
   some (.inl x5)) fun x4 =>
   (Ay x4 47).bind fun x6 =>
  letJ (fun v : (List By8) × Int × Bool => match v with
   | (a10, a11, a12) =>
   cond a12
    (letJ (fun v : (List By8) × (List By8) × (List By8) × (List By8) × Int => match v with
     | (a22, a23, a24, a25, a26) =>
     some (.inr ((⟨x6.1, true, a22, (⟨a23, a24⟩ : Aa), []⟩ : Ai), (⟨a25, a26⟩ : Af)))) fun J27 =>
     (Ay (⟨a10, a11⟩ : Af) 42).bind fun x28 =>
    cond x28.1
     (J27 ([42], [], [], x28.2.q, x28.2.at_))
     ((AH x28.2).bind fun x => pnc x (fun x31 =>
      some (.inl x31)) fun x30 =>
     J27 ([], x30.1.URI, x30.1.Local, x30.2.q, x30.2.at_)))
    (letJ (fun v : (List By8) × Int × (List By8) × (List By8) × (List By8) => match v with
     | (a51, a52, a53, a54, a55) =>
     letJ (fun v : Bool × Bool × (List By8) × (List By8) × (List By8) × (List Ad) × (List By8) × Int => match v with
      | (a109, a110, a111, a112, a113, a114, a116, a117) =>
      some (.inr ((⟨a109, a110, a111, (⟨a112, a113⟩ : Aa), a114⟩ : Ai), (⟨a116, a117⟩ : Af)))) fun J118 =>
      (iter (Ax) FUEL (a51, a52, x6.1, false, a53, a54, a55, [])).bind fun o =>
     match o with
     | .inl o1 => J118 o1
     | .inr o1 => some o1) fun J56 =>
     (Ay (⟨a10, a11⟩ : Af) 42).bind fun x57 =>
    cond x57.1
     (J56 (x57.2.q, x57.2.at_, [42], [], []))
     ((AH x57.2).bind fun x => pnc x (fun x60 =>
      some (.inl x60)) fun x59 =>
      (letJ (fun v64 : Bool => cond (v64 && (((x59.1.Local == [116, 101, 120, 116]) || (x59.1.Local == [99, 111, 109, 109, 101, 110, 116])) || (x59.1.Local == [110, 111, 100, 101])))
        ((AC x59.2 40).bind fun x => pnc x (fun x73 =>
         some (.inl x73)) fun x72 =>
         (AC x72 41).bind fun x => pnc x (fun x75 =>
         some (.inl x75)) fun x74 =>
        J56 (x74.q, x74.at_, x59.1.Local, x59.1.URI, x59.1.Local))
        (J56 (x59.2.q, x59.2.at_, [], x59.1.URI, x59.1.Local))) fun J63 => cond ((x59.1.URI == (⟨[], x59.1.Local⟩ : Aa).URI) && ((x59.1.Local == (⟨[], x59.1.Local⟩ : Aa).Local) && true)) ((AV x59.2 40).bind fun x65 =>
       J63 x65) (J63 false))))) fun J13 =>
  cond (!x6.1)
   ((Ay x6.2 64).bind fun x16 =>
   J13 (x16.2.q, x16.2.at_, x16.1))
   (J13 (x6.2.q, x6.2.at_, false))
def BA (p0 : Ah) (p1 : Ad) : Option (Bool) :=
  some ((p0.Name.URI == p1.name.URI) && ((p0.Name.Local == p1.name.Local) && true))
def Aw (p0 : List Ah) (p1 : Ah -> Option Bool) (rec10 : Int -> Option (Unit ⊕ Int)) (a7 : Int) : Option (Unit ⊕ Int) :=
  cond (decide (a7 < (p0.length : Int)))
   ((idx p0 a7).bind fun x13 =>
    (p1 x13).bind fun x14 =>
   cond x14
    (some (.inr a7))
    (rec10 (IntKind.wrap .i64 (a7 + 1))))
   (some (.inl ()))
def Av (p0 : List Ah) (p1 : Ah -> Option Bool) : Option (Int) :=
  letJ (fun _ : Unit =>
   some (-1 : Int)) fun J6 =>
   (iter (Aw p0 p1) FUEL 0).bind fun o =>
  match o with
  | .inl o1 => J6 o1
  | .inr o1 => some o1
def Cg (p0 : Az) (rec13 : Int -> Option (Int)) (a10 : Int) : Option (Int) :=
   (letJ (fun v17 : Bool => cond v17
     (rec13 (IntKind.wrap .i64 (a10 + 1)))
     (some a10)) fun J16 => cond (decide (a10 < (p0.s.length : Int))) ((idx p0.s a10).bind fun x18 =>
     (L_IndexByte [32, 44, 9, 10, 13] (x18.toNat : Int)).bind fun x19 =>
    J16 (decide (0 <= x19))) (J16 false))
def BT (p0 : Az) (rec54 : Int -> Option (Int)) (a51 : Int) : Option (Int) :=
   (letJ (fun v58 : Bool => (letJ (fun v62 : Bool => cond v62
       (rec54 (IntKind.wrap .i64 (a51 + 1)))
       (some a51)) fun J61 => cond v58 ((idx p0.s a51).bind fun x63 =>
      J61 (decide ((x63.toNat : Int) <= 57))) (J61 false))) fun J57 => cond (decide (a51 < (p0.s.length : Int))) ((idx p0.s a51).bind fun x59 =>
    J57 (decide (48 <= (x59.toNat : Int)))) (J57 false))
def Cl (p0 : Az) : Option (Int × Int × Int) :=
  letJ (fun a8 : Int =>
   cond (a8 == (p0.s.length : Int))
    (some (0, a8, a8))
    ((idx p0.s a8).bind fun x22 =>
     (L_IndexByte [77, 109, 76, 108, 72, 104, 86, 118, 90, 122] (x22.toNat : Int)).bind fun x23 =>
    cond (decide (0 <= x23))
     (some (1, a8, (IntKind.wrap .i64 (a8 + 1))))
     (letJ (fun a31 : Int =>
      letJ (fun a49 : Int =>
       cond ((a49 == a31) || (decide ((IntKind.wrap .i64 (a31 + 7)) < a49)))
        (some (3, a8, a8))
        (some (2, a8, a49))) fun J50 =>
       (iter (BT p0) FUEL a31).bind fun o =>
      J50 o) fun J32 =>
      (idx p0.s a8).bind fun x33 =>
      (letJ (fun v36 : Bool => cond v36
        (J32 (IntKind.wrap .i64 (a8 + 1)))
        (J32 a8)) fun J35 => cond ((x33.toNat : Int) == 45) (J35 true) ((idx p0.s a8).bind fun x37 =>
       J35 ((x37.toNat : Int) == 43)))))) fun J9 =>
   (iter (Cg p0) FUEL p0.at_).bind fun o =>
  J9 o
def B2 (p0 : Az) : Option ((Nat × Int × Bool) × Az) :=
   (Cl p0).bind fun x1 =>
  cond (x1.1 != 2)
   (some (((0 : Nat), x1.2.1, false), p0))
   ((slc p0.s x1.2.1 x1.2.2).bind fun x3 =>
    (L_Atoi x3).bind fun x4 =>
   some (((i2f x4.1), x1.2.1, true), (⟨p0.s, x1.2.2, p0.f, p0.pen, p0.n, p0.open_⟩ : Az)))
def BZ (p0 : Az) (p1 : Int) : Option (((Nat × Nat) × Int × Bool) × Az) :=
   (B2 p0).bind fun x1 =>
  cond (!x1.1.2.2)
   (some ((((0, 0) : Nat × Nat), x1.1.2.1, false), x1.2))
   (cond (p1 == 72)
    (some ((((x1.1.1, x1.2.pen.2) : Nat × Nat), x1.1.2.1, true), x1.2))
    (cond (p1 == 86)
     (some ((((x1.2.pen.1, x1.1.1) : Nat × Nat), x1.1.2.1, true), x1.2))
     (cond (p1 == 118)
      ((UW x1.2.pen (((0 : Nat), x1.1.1) : Nat × Nat)).bind fun x8 =>
      some ((x8, x1.1.2.1, true), x1.2))
      (cond (p1 == 104)
       ((UW x1.2.pen ((x1.1.1, (0 : Nat)) : Nat × Nat)).bind fun x10 =>
       some ((x10, x1.1.2.1, true), x1.2))
       ((B2 x1.2).bind fun x11 =>
       cond (!x11.1.2.2)
        (some ((((0, 0) : Nat × Nat), (IntKind.wrap .i64 ((-1 : Int) - x11.1.2.1)), false), x11.2))
        ((UW ((x1.1.1, (0 : Nat)) : Nat × Nat) (((0 : Nat), x11.1.1) : Nat × Nat)).bind fun x15 =>
        letJ (fun a19 : Nat × Nat =>
         some ((a19, x11.1.2.1, true), x11.2)) fun J20 =>
        cond ((p1 == 109) || (p1 == 108))
         ((UW x15 x11.2.pen).bind fun x23 =>
         J20 x23)
         (J20 x15)))))))
def FL (p0 : Nat) : Option (Nat) :=
   (L_archTrunc p0).bind fun x1 =>
  some x1
def GW (p0 : Nat) : Option (Nat) :=
   (L_bits p0).bind fun x1 =>
   (L_frombits (Ti .u64 x1 9223372036854775808)).bind fun x2 =>
  some x2
def EA (p0 : Nat) : Option (Bool) :=
   (FL p0).bind fun x1 =>
   (letJ (fun v4 : Bool => some v4) fun J3 => cond (feq p0 x1) ((GW p0).bind fun x5 =>
    J3 (fle x5 (4696837146684686336 : Nat))) (J3 false))
def Db (p0 : Nat × Nat) : Option (Bool) :=
   (EA p0.1).bind fun x1 =>
   (letJ (fun v4 : Bool => some v4) fun J3 => cond x1 ((EA p0.2).bind fun x5 =>
    J3 x5) (J3 false))
def Bn (p1 : Int) (rec12 : (List By8) × Int × (List Am) × (Nat × Nat) × Int × Bool × Bool -> Option (((Int × Int) × Az))) : (List By8) × Int × (List Am) × (Nat × Nat) × Int × Bool × Bool -> Option (((Int × Int) × Az))
  | (a1, a2, a4, a6, a7, a8, a9) =>
   (BZ (⟨a1, a2, a4, a6, a7, a8⟩ : Az) p1).bind fun x14 =>
  cond ((!x14.1.2.2) && (a9 || (decide (x14.1.2.1 < 0))))
   (some (((if (IntKind.wrap .i64 ((-1 : Int) - x14.1.2.1)) > x14.1.2.1 then (IntKind.wrap .i64 ((-1 : Int) - x14.1.2.1)) else x14.1.2.1), 37), x14.2))
   (cond (!x14.1.2.2)
    (some ((0, 0), x14.2))
    ((Db x14.1.1).bind fun x22 =>
     (letJ (fun v25 : Bool => cond v25
       (some ((x14.1.2.1, 5), x14.2))
       (letJ (fun v : (List Am) × Bool => match v with
        | (a35, a37) =>
         (lst a35 (IntKind.wrap .i64 ((a35.length : Int) - 1))).bind fun x46 =>
         (app 16 x46.Spots [x14.1.1]).bind fun _ =>
         (some (List.set a35 (Int.toNat (IntKind.wrap .i64 ((a35.length : Int) - 1))) (⟨(x46.Spots ++ [x14.1.1]), x46.Closed⟩ : Am))).bind fun a48 =>
        rec12 (x14.2.s, x14.2.at_, a48, x14.1.1, (IntKind.wrap .i64 (x14.2.n + 1)), a37, false)) fun J38 =>
       cond (a9 && ((p1 == 77) || (p1 == 109)))
        ((app 32 x14.2.f [(⟨[], false⟩ : Am)]).bind fun _ =>
         (some (x14.2.f ++ [(⟨[], false⟩ : Am)])).bind fun a45 =>
        J38 (a45, true))
        (J38 (x14.2.f, x14.2.open_)))) fun J24 => cond (!x22) (J24 true) (J24 (x14.2.n == 500)))))
def BR (p0 : Az) (p1 : Int) : Option ((Int × Int) × Az) :=
   (iter (Bn p1) FUEL (p0.s, p0.at_, p0.f, p0.pen, p0.n, p0.open_, true)).bind fun o =>
  some o
def Cw (p0 : List By8) (rec14 : (List By8) × Int × (List Am) × (Nat × Nat) × Int × Bool -> Option (((List Am) × Int × Int))) : (List By8) × Int × (List Am) × (Nat × Nat) × Int × Bool -> Option (((List Am) × Int × Int))
  | (a4, a5, a7, a9, a10, a11) =>
   (Cl (⟨a4, a5, a7, a9, a10, a11⟩ : Az)).bind fun x16 =>
  cond (x16.1 == 0)
   (some (a7, 0, 0))
   (cond (x16.1 != 1)
    (some ([], x16.2.1, 37))
    ((idx p0 x16.2.1).bind fun x20 =>
     (letJ (fun v24 : Bool => cond v24
       (some ([], x16.2.1, 37))
       (cond (((x20.toNat : Int) == 90) || ((x20.toNat : Int) == 122))
        ((lst a7 (IntKind.wrap .i64 ((a7.length : Int) - 1))).bind fun x28 =>
         (idx x28.Spots 0).bind fun x29 =>
         (some (List.set a7 (Int.toNat (IntKind.wrap .i64 ((a7.length : Int) - 1))) (⟨x28.Spots, true⟩ : Am))).bind fun a30 =>
        rec14 (a4, x16.2.2, a30, x29, a10, false))
        ((BR (⟨a4, x16.2.2, a7, a9, a10, a11⟩ : Az) (x20.toNat : Int)).bind fun x31 =>
        cond (x31.1.2 != 0)
         (some ([], x31.1.1, x31.1.2))
         (rec14 (x31.2.s, x31.2.at_, x31.2.f, x31.2.pen, x31.2.n, x31.2.open_))))) fun J23 => cond (((x20.toNat : Int) != 77) && ((x20.toNat : Int) != 109)) (J23 (!a11)) (J23 false))))
def EJ (p0 : List By8) : Option ((List Am) × Int × Int) :=
   (iter (Cw p0) FUEL (p0, 0, [], ((0, 0) : Nat × Nat), 0, false)).bind fun o =>
  some o
def A0 (p0 : List (Nat × Nat)) (p1 : (Nat × Nat) -> Option Bool) (rec10 : Int -> Option (Unit ⊕ Int)) (a7 : Int) : Option (Unit ⊕ Int) :=
  cond (decide (a7 < (p0.length : Int)))
   ((idx p0 a7).bind fun x13 =>
    (p1 x13).bind fun x14 =>
   cond x14
    (some (.inr a7))
    (rec10 (IntKind.wrap .i64 (a7 + 1))))
   (some (.inl ()))
def AS (p0 : List (Nat × Nat)) (p1 : (Nat × Nat) -> Option Bool) : Option (Int) :=
  letJ (fun _ : Unit =>
   some (-1 : Int)) fun J6 =>
   (iter (A0 p0 p1) FUEL 0).bind fun o =>
  match o with
  | .inl o1 => J6 o1
  | .inr o1 => some o1
def AG (p0 : List (Nat × Nat)) (p1 : (Nat × Nat) -> Option Bool) : Option (Bool) :=
   (AS p0 p1).bind fun x1 =>
  some (decide (0 <= x1))
def Du (p0 : Nat × Nat) : Option (Bool) :=
   (Db p0).bind fun x1 =>
  some (!x1)
def DH (p0 : List Am) (rec17 : Int × Int -> Option (Int ⊕ Bool)) : Int × Int -> Option (Int ⊕ Bool)
  | (a13, a14) =>
  cond (decide (a14 < (p0.length : Int)))
   ((idx p0 a14).bind fun x20 =>
    (letJ (fun v24 : Bool => cond v24
      (some (.inr false))
      (rec17 ((IntKind.wrap .i64 (a13 + (x20.Spots.length : Int))), (IntKind.wrap .i64 (a14 + 1))))) fun J23 => cond ((x20.Spots.length : Int) == 0) (J23 true) ((AG x20.Spots Du).bind fun x25 =>
     J23 x25)))
   (some (.inl a13))
def EX (p0 : List Am) : Option (Bool) :=
  letJ (fun a11 : Int =>
   some (decide (a11 <= 500))) fun J12 =>
   (iter (DH p0) FUEL (0, 0)).bind fun o =>
  match o with
  | .inl o1 => J12 o1
  | .inr o1 => some o1
def ET (p0 : Nat × Nat) (p1 : Nat × Nat) : Option (Nat) :=
   (Ace ((p0.1, (XP p0.2)) : Nat × Nat) p1).bind fun x1 =>
  some x1.2
def Bv (p1 : Nat × Nat) (x166 : Am) (rec172 : Int × Int -> Option (Int ⊕ (Int × Bool × Int))) : Int × Int -> Option (Int ⊕ (Int × Bool × Int))
  | (a168, a169) =>
  cond (decide (a169 < (x166.Spots.length : Int)))
   (letJ (fun a196 : Int =>
    rec172 (a196, (IntKind.wrap .i64 (a169 + 1)))) fun J197 =>
    (idx x166.Spots a169).bind fun x198 =>
   cond (!x166.Closed)
    (some (.inl a168))
    ((W6 x198 p1).bind fun x200 =>
     (nzI (x166.Spots.length : Int)).bind fun _ =>
     (idx x166.Spots (Int.tmod (IntKind.wrap .i64 (a169 + 1)) (x166.Spots.length : Int))).bind fun x201 =>
     (W6 x201 p1).bind fun x202 =>
     (ET x200 x202).bind fun x203 =>
     (letJ (fun v206 : Bool => (letJ (fun v210 : Bool => cond v210
         (some (.inr (0, true, 0)))
         (cond (((fle x200.2 (0 : Nat)) && (fgt x202.2 (0 : Nat))) && (fgt x203 (0 : Nat)))
          (J197 (IntKind.wrap .i64 (a168 + 1)))
          (cond (((fgt x200.2 (0 : Nat)) && (fle x202.2 (0 : Nat))) && (flt x203 (0 : Nat)))
           (J197 (IntKind.wrap .i64 (a168 - 1)))
           (J197 a168)))) fun J209 => cond v206 ((Oj x200.2 x202.2).bind fun x211 =>
        J209 (fle x211 (0 : Nat))) (J209 false))) fun J205 => cond (feq x203 (0 : Nat)) ((Oj x200.1 x202.1).bind fun x207 =>
      J205 (fle x207 (0 : Nat))) (J205 false))))
   (some (.inl a168))
def CV (p0 : List Am) (p1 : Nat × Nat) (rec113 : Int × Int -> Option (Int ⊕ (Int × Bool × Int))) : Int × Int -> Option (Int ⊕ (Int × Bool × Int))
  | (a109, a110) =>
  cond (decide (a110 < (p0.length : Int)))
   (letJ (fun a164 : Int =>
    rec113 (a164, (IntKind.wrap .i64 (a110 + 1)))) fun J165 =>
    (idx p0 a110).bind fun x166 =>
    (iter (Bv p1 x166) FUEL (a109, 0)).bind fun o =>
   match o with
   | .inl o1 => J165 o1
   | .inr o1 => some (.inr o1))
   (some (.inl a109))
def Di (p0 : List Am) (p1 : Nat × Nat) : Option (Int × Bool × Int) :=
   (EX p0).bind fun x1 =>
   (letJ (fun v4 : Bool => cond v4
     (some (0, false, 1))
     (letJ (fun a107 : Int =>
      some (a107, false, 0)) fun J108 =>
      (iter (CV p0 p1) FUEL (0, 0)).bind fun o =>
     match o with
     | .inl o1 => J108 o1
     | .inr o1 => some o1)) fun J3 => cond (!x1) (J3 true) ((Db p1).bind fun x5 =>
    J3 (!x5)))
def BM (p0 : Ad) (p1 : Ab) : Option (Bool) :=
   (Av p1.Attrs (fun z0 => BA z0 p0)).bind fun x1 =>
  cond ((decide (x1 < 0)) || (p1.Kind != 2))
   (some false)
   ((idx p1.Attrs x1).bind fun x4 =>
   cond (p0.kind == 61)
    (some (x4.Value == p0.value))
    (cond (p0.kind == 126)
     ((EJ x4.Value).bind fun x7 =>
      (Di x7.1 p0.spot).bind fun x8 =>
     some (((x7.2.2 == 0) && (x8.2.2 == 0)) && (x8.2.1 || (x8.1 != 0))))
     (some true)))
def C9 (p0 : Ag) (p1 : Ad) : Option (Bool) :=
   (BM p1 p0.node).bind fun x1 =>
  some (!x1)
def CJ (p0 : Ai) (p1 : Ab) : Option (Bool) :=
  cond (p0.test == [42])
   (some (p1.Kind == 2))
   (cond (p0.test == [116, 101, 120, 116])
    (some (p1.Kind == 3))
    (cond (p0.test == [99, 111, 109, 109, 101, 110, 116])
     (some (p1.Kind == 4))
     (cond (p0.test == [110, 111, 100, 101])
      (some true)
      (some ((p1.Kind == 2) && ((p1.Name.URI == p0.name.URI) && ((p1.Name.Local == p0.name.Local) && true)))))))
def A6 (p0 : List Ag) (p1 : Ag -> Option Bool) (rec10 : Int -> Option (Unit ⊕ Int)) (a7 : Int) : Option (Unit ⊕ Int) :=
  cond (decide (a7 < (p0.length : Int)))
   ((idx p0 a7).bind fun x13 =>
    (p1 x13).bind fun x14 =>
   cond x14
    (some (.inr a7))
    (rec10 (IntKind.wrap .i64 (a7 + 1))))
   (some (.inl ()))
def AX (p0 : List Ag) (p1 : Ag -> Option Bool) : Option (Int) :=
  letJ (fun _ : Unit =>
   some (-1 : Int)) fun J6 =>
   (iter (A6 p0 p1) FUEL 0).bind fun o =>
  match o with
  | .inl o1 => J6 o1
  | .inr o1 => some o1
def A3 (p1 : Ag -> Option Bool) (rec33 : (List Ag) × Int × Int -> Option (((List Ag) × Int))) : (List Ag) × Int × Int -> Option (((List Ag) × Int))
  | (a27, a29, a30) =>
  cond (decide (a30 < (a27.length : Int)))
   (letJ (fun v : (List Ag) × Int => match v with
    | (a42, a44) =>
    rec33 (a42, a44, (IntKind.wrap .i64 (a30 + 1)))) fun J45 =>
    (idx a27 a30).bind fun x46 =>
    (p1 x46).bind fun x48 =>
   cond (!x48)
    ((idx a27 a29).bind fun x50 =>
     (some (List.set a27 (Int.toNat a29) x46)).bind fun a51 =>
    J45 (a51, (IntKind.wrap .i64 (a29 + 1))))
    (J45 (a27, a29)))
   (some (a27, a29))
def Bg (p0 : List Ag) (p1 : Ag -> Option Bool) : Option (List Ag) :=
   (AX p0 p1).bind fun x1 =>
  cond (x1 == (-1 : Int))
   (some p0)
   (letJ (fun v : (List Ag) × Int => match v with
    | (a23, a25) =>
     (slc a23 a25 (a23.length : Int)).bind fun x52 =>
     (ltL a25 (List.length a23)).bind fun _ =>
    some (List.take (Int.toNat a25) a23)) fun J26 =>
    (iter (A3 p1) FUEL (p0, x1, (IntKind.wrap .i64 (x1 + 1)))).bind fun o =>
   J26 o)
def HX : List Int -> List Int -> Int
  | [], [] => 0
  | [], _ :: _ => -1
  | _ :: _, [] => 1
  | x :: a, y :: b => if x < y then -1 else if y < x then 1 else HX a b
def IK (a : Ag) : Bool := decide (a.path.length <= 4611686018427387904)
def FC (a b : Ag) : Int := HX a.path b.path
def B9 (p0 : List By8) (rec48 : (List Ai) × (List By8) × Int -> Option (((List Ai)) ⊕ (Int ⊕ ((List Ai) × Int × Int)))) : (List Ai) × (List By8) × Int -> Option (((List Ai)) ⊕ (Int ⊕ ((List Ai) × Int × Int)))
  | (a42, a44, a45) =>
   (letJ (fun v52 : Bool => cond v52
     (letJ (fun _ : Unit =>
       (AP (⟨a44, a45⟩ : Af)).bind fun x => pnc x (fun x70 =>
       some (.inr (.inl x70.at_))) fun x69 =>
       (app 80 a42 [x69.1]).bind fun _ =>
      rec48 ((a42 ++ [x69.1]), x69.2.q, x69.2.at_)) fun J61 =>
      (letJ (fun v64 : Bool => cond v64
        ((Bh (⟨a44, a45⟩ : Af)).bind fun x => pnc x (fun x68 =>
         some (.inr (.inl a45))) fun x67 =>
        J61 ())
        (J61 ())) fun J63 => cond (decide (0 < (a42.length : Int))) ((idx a42 (IntKind.wrap .i64 ((a42.length : Int) - 1))).bind fun x65 =>
       J63 x65.attr) (J63 false)))
     (some (.inl a42))) fun J51 => cond ((a42.length : Int) == 0) (J51 true) (J51 (decide (a45 < (p0.length : Int)))))
def EU (p0 : List By8) : Option (Int ⊕ ((List Ai) × Int × Int)) :=
  letJ (fun a39 : List Ai =>
   cond (decide (20 < (a39.length : Int)))
    (some (.inr ([], 0, 5)))
    (some (.inr (a39, 0, 0)))) fun J41 =>
   (iter (B9 p0) FUEL ([], (⟨p0, 0⟩ : Af).q, (⟨p0, 0⟩ : Af).at_)).bind fun o =>
  match o with
  | .inl o1 => J41 o1
  | .inr o1 => some o1
def rdO : Int ⊕ ((List Ai) × Int × Int) -> (List Ai) × Int × Int
  | .inl a => ([], a, 36)
  | .inr r => r
def BQ (p0 : List By8) : Option ((List Ai) × Int × Int) := (EU p0).bind fun x => some (rdO x)
def Ds (p0 : Ai) (p1 : Ag) (rec40 : (List Ag) × Int -> Option (((List Ag)))) : (List Ag) × Int -> Option (((List Ag)))
  | (a36, a37) =>
  cond (decide (a37 < (p1.node.Kids.length : Int)))
   (letJ (fun a56 : List Ag =>
    rec40 (a56, (IntKind.wrap .i64 (a37 + 1)))) fun J57 =>
    (idx p1.node.Kids a37).bind fun x58 =>
    (CJ p0 x58).bind fun x60 =>
   cond x60
    ((app 8 [] p1.path).bind fun x64 =>
     (app 8 x64 [a37]).bind fun _ =>
     (app 128 a36 [(⟨(x64 ++ [a37]), x58⟩ : Ag)]).bind fun _ =>
     (some (a36 ++ [(⟨(x64 ++ [a37]), x58⟩ : Ag)])).bind fun a69 =>
    J57 a69)
    (J57 a36))
   (some a36)
def Dt (p0 : Ai) (rec102 : (List Ag) × Int -> Option (((List Ag)) ⊕ ((List Ag)))) : (List Ag) × Int -> Option (((List Ag)) ⊕ ((List Ag)))
  | (a98, a99) =>
  cond (decide (a99 < (p0.conds.length : Int)))
   (letJ (fun a115 : List Ag =>
    rec102 (a115, (IntKind.wrap .i64 (a99 + 1)))) fun J116 =>
    (idx p0.conds a99).bind fun x117 =>
   cond (x117.kind != 91)
    ((Bg a98 (fun z0 => C9 z0 x117)).bind fun x122 =>
    J116 x122)
    (cond (decide ((a98.length : Int) < x117.k))
     (some (.inr []))
     ((Ade a98 (IntKind.wrap .i64 (x117.k - 1)) x117.k).bind fun x125 =>
     J116 x125)))
   (some (.inl a98))
def CT (p0 : Ai) (p1 : Ag) : Option ((List Ag)) :=
  letJ (fun a33 : List Ag =>
   letJ (fun a95 : List Ag =>
    some a95) fun J96 =>
    (iter (Dt p0) FUEL (a33, 0)).bind fun o =>
   match o with
   | .inl o1 => J96 o1
   | .inr o1 => some o1) fun J34 =>
   (iter (Ds p0 p1) FUEL ([], 0)).bind fun o =>
  J34 o
def Df : Option (Ab) :=
   (idx [(⟨2, (⟨[], [98]⟩ : Aa), [], [], []⟩ : Ab), (⟨2, (⟨[], [98]⟩ : Aa), [], [], []⟩ : Ab)] 0).bind fun x8 =>
   (some (List.set ([(⟨2, (⟨[], [98]⟩ : Aa), [], [], []⟩ : Ab), (⟨2, (⟨[], [98]⟩ : Aa), [], [], []⟩ : Ab)]) (Int.toNat 0) (⟨x8.Kind, x8.Name, [(⟨(⟨[], [120]⟩ : Aa), [49]⟩ : Ah)], x8.Kids, x8.Text⟩ : Ab))).bind fun a9 =>
   (idx a9 1).bind fun x10 =>
   (some (List.set a9 (Int.toNat 1) (⟨x10.Kind, x10.Name, [(⟨(⟨[], [100]⟩ : Aa), [77, 48, 32, 48, 32, 52, 32, 48, 32, 52, 32, 52, 90]⟩ : Ah)], x10.Kids, x10.Text⟩ : Ab))).bind fun a11 =>
  some (⟨1, (⟨[], []⟩ : Aa), [], [(⟨2, (⟨[], [97]⟩ : Aa), [], a11, []⟩ : Ab)], []⟩ : Ab)
def Er (p0 : Ab) (rec0 : Ab × (List Ab) -> Option ((List Ab))) (rec19 : (List Ab) × Int -> Option (((List Ab)))) : (List Ab) × Int -> Option (((List Ab)))
  | (a14, a16) =>
  cond (decide (a16 < (p0.Kids.length : Int)))
   ((idx p0.Kids a16).bind fun x22 =>
    (rec0 (x22, a14)).bind fun x24 =>
   rec19 (x24, (IntKind.wrap .i64 (a16 + 1))))
   (some a14)
def Cs (rec0 : Ab × (List Ab) -> Option ((List Ab))) : Ab × (List Ab) -> Option ((List Ab))
  | (p0, p1) =>
   (app 104 p1 [p0]).bind fun _ =>
  letJ (fun a11 : List Ab =>
   some a11) fun J13 =>
   (iter (Er p0 rec0) FUEL ((p1 ++ [p0]), 0)).bind fun o =>
  J13 o
def Fk (p0 : Ab) (p1 : List Ab) : Option ((List Ab)) := iter Cs FUEL (p0, p1)
def Bf (p0 : List Ab) (p1 : Ab -> Option Bool) (rec10 : Int -> Option (Unit ⊕ Int)) (a7 : Int) : Option (Unit ⊕ Int) :=
  cond (decide (a7 < (p0.length : Int)))
   ((idx p0 a7).bind fun x13 =>
    (p1 x13).bind fun x14 =>
   cond x14
    (some (.inr a7))
    (rec10 (IntKind.wrap .i64 (a7 + 1))))
   (some (.inl ()))
def A5 (p0 : List Ab) (p1 : Ab -> Option Bool) : Option (Int) :=
  letJ (fun _ : Unit =>
   some (-1 : Int)) fun J6 =>
   (iter (Bf p0 p1) FUEL 0).bind fun o =>
  match o with
  | .inl o1 => J6 o1
  | .inr o1 => some o1
def Ap (p0 : List Ab) (p1 : Ab -> Option Bool) : Option (Bool) :=
   (A5 p0 p1).bind fun x1 =>
  some (decide (0 <= x1))
def Ha (p0 : Int) (p1 : Int) : Option (Bool) :=
  cond (p0 == 1)
   (some (((p1 == 2) || (p1 == 4)) || (p1 == 5)))
   (cond (p0 == 2)
    (some ((decide (2 <= p1)) && (decide (p1 <= 5))))
    (some false))
def Dy (p0 : Ab) (p1 : Ab) : Option (Bool) :=
   (Ha p1.Kind p0.Kind).bind fun x1 =>
  some (!x1)
def EI (p0 : Ab) : Option (Bool) :=
  letJ (fun a9 : Bool =>
    (letJ (fun v20 : Bool => some v20) fun J19 => cond a9 (J19 true) ((Ap p0.Kids (fun z0 => Dy z0 p0)).bind fun x21 =>
     J19 x21))) fun J10 =>
  cond (p0.Kind == 1)
   (J10 ((((p0.Kind != 2) && (decide (0 < (p0.Attrs.length : Int)))) || (!((p0.Name.URI == (⟨[], []⟩ : Aa).URI) && ((p0.Name.Local == (⟨[], []⟩ : Aa).Local) && true)))) || (!(p0.Text == []))))
   (cond (p0.Kind == 2)
    (J10 (!(p0.Text == [])))
    (cond (p0.Kind == 5)
     (J10 (((p0.Kind != 2) && (decide (0 < (p0.Attrs.length : Int)))) || (!(p0.Name.URI == []))))
     (J10 (((p0.Kind != 2) && (decide (0 < (p0.Attrs.length : Int)))) || (!((p0.Name.URI == (⟨[], []⟩ : Aa).URI) && ((p0.Name.Local == (⟨[], []⟩ : Aa).Local) && true)))))))
def EQ (rec0 : Ab × Int -> Option Bool) (p0 : Ab) (p1 : Int) : Option (Bool) :=
   (rec0 (p0, p1)).bind fun x1 =>
  some x1
def CO (rec0 : Ab × Int -> Option (Bool)) : Ab × Int -> Option (Bool)
  | (p0, p1) =>
  letJ (fun a4 : Int =>
    (Ap p0.Kids (fun z0 => EQ rec0 z0 a4)).bind fun x10 =>
   some x10) fun J5 =>
  cond (p0.Kind == 2)
   (cond (decide (32 < p1))
    (some true)
    (J5 (IntKind.wrap .i64 (p1 + 1))))
   (J5 p1)
def IV (p0 : Ab) (p1 : Int) : Option (Bool) := iter CO FUEL (p0, p1)
def Fr (p0 : Ah) : Option (Bool) :=
  some (decide (8192 < (p0.Value.length : Int)))
def AA (p0 : List Ah) (p1 : Ah -> Option Bool) : Option (Bool) :=
   (Av p0 p1).bind fun x1 =>
  some (decide (0 <= x1))
def Ez (p0 : Ab) : Option (Bool) :=
   (letJ (fun v4 : Bool => some v4) fun J3 => cond ((decide (64 < (p0.Attrs.length : Int))) || (decide (8192 < (p0.Text.length : Int)))) (J3 true) ((AA p0.Attrs Fr).bind fun x5 =>
    J3 x5))
def DK (p0 : List By8) (rec23 : Nat -> Option (Unit ⊕ Bool)) (a20 : Nat) : Option (Unit ⊕ Bool) :=
  cond (decide (a20 < p0.length))
   ((letJ (fun v27 : Bool => (letJ (fun v31 : Bool => cond v31
        (some (.inr false))
        (rec23 (a20 + wdS p0 a20))) fun J30 => cond v27 (J30 true) ((CQ (rnS p0 a20)).bind fun x32 =>
       J30 (!x32)))) fun J26 => cond (((a20 : Nat) : Int) == 0) ((Dj (rnS p0 a20)).bind fun x28 =>
     J26 (!x28)) (J26 false)))
   (some (.inl ()))
def Fd (p0 : List By8) : Option (Bool) :=
   (letJ (fun v4 : Bool => cond v4
     (some false)
     (letJ (fun _ : Unit =>
      some true) fun J18 =>
      (iter (DK p0) FUEL (0 : Nat)).bind fun o =>
     match o with
     | .inl o1 => J18 o1
     | .inr o1 => some o1)) fun J3 => cond ((p0 == []) || (decide (100 < (p0.length : Int)))) (J3 true) ((L_ValidString p0).bind fun x5 =>
    J3 (!x5)))
def EP (p0 : Int) : Option (Bool) :=
   (letJ (fun v5 : Bool => some v5) fun J4 => cond (((p0 == 9) || (p0 == 10)) || (p0 == 13)) (J4 true) ((FQ p0 ([(⟨32, 55295⟩ : Ao), (⟨57344, 65533⟩ : Ao), (⟨65536, 1114111⟩ : Ao)])).bind fun x6 =>
    J4 x6))
def Gj (p0 : List By8) (p1 : Int) : Option (Int × Int × Int) :=
  cond ((decide (p1 < 0)) || (decide ((p0.length : Int) <= p1)))
   (some (0, 0, 1))
   ((slc p0 p1 (p0.length : Int)).bind fun x3 =>
    (L_DecodeRune x3).bind fun x4 =>
   cond ((x4.1 == 65533) && (decide (x4.2 < 3)))
    (some (0, 0, 20))
    ((EP x4.1).bind fun x7 =>
    cond (!x7)
     (some (0, 0, 21))
     (some (x4.1, (IntKind.wrap .i64 (p1 + x4.2)), 0))))
def D4 (p0 : List By8) (rec9 : Int -> Option (Unit ⊕ (Int × Int))) (a6 : Int) : Option (Unit ⊕ (Int × Int)) :=
  cond (decide (a6 < (p0.length : Int)))
   ((Gj p0 a6).bind fun x12 =>
   cond (x12.2.2 != 0)
    (some (.inr (a6, x12.2.2)))
    (rec9 x12.2.1))
   (some (.inl ()))
def FE (p0 : List By8) : Option (Int × Int) :=
  letJ (fun _ : Unit =>
   some (0, 0)) fun J5 =>
   (iter (D4 p0) FUEL 0).bind fun o =>
  match o with
  | .inl o1 => J5 o1
  | .inr o1 => some o1
def Fm (p0 : List By8) : Option (Bool) :=
   (FE p0).bind fun x1 =>
  some (x1.2 != 0)
def Da (p0 : Aa) : Option (Bool) :=
   (Fd p0.Local).bind fun x1 =>
   (letJ (fun v5 : Bool => some (v5 || (p0.URI == [104, 116, 116, 112, 58, 47, 47, 119, 119, 119, 46, 119, 51, 46, 111, 114, 103, 47, 50, 48, 48, 48, 47, 120, 109, 108, 110, 115, 47]))) fun J4 => cond ((!x1) || (decide (100 < (p0.URI.length : Int)))) (J4 true) ((Fm p0.URI).bind fun x6 =>
    J4 x6))
def Ek (p0 : Ah) : Option (Bool) :=
   (Da p0.Name).bind fun x1 =>
  some (x1 || ((p0.Name.URI == (⟨[], [120, 109, 108, 110, 115]⟩ : Aa).URI) && ((p0.Name.Local == (⟨[], [120, 109, 108, 110, 115]⟩ : Aa).Local) && true)))
def Bt (a94 : Int) (a95 : Int) (rec112 : Int -> Option (Int)) (a109 : Int) : Option (Int) :=
  cond ((a109 != a94) && (decide (a109 < a95)))
   ((L_SimpleFold a109).bind fun x116 =>
   rec112 x116)
   (some a109)
def Bi (x52 : List By8) (rec87 : (List By8) × Nat -> Option (((List By8)) ⊕ Bool)) : (List By8) × Nat -> Option (((List By8)) ⊕ Bool)
  | (a83, a84) =>
  cond (decide (a84 < x52.length))
   (cond ((a83.length : Int) == 0)
    (some (.inr false))
    ((L_DecodeRuneInString a83).bind fun x90 =>
     (slc a83 x90.2 (a83.length : Int)).bind fun x91 =>
    cond (x90.1 == (rnS x52 a84))
     (rec87 (x91, (a84 + wdS x52 a84)))
     (letJ (fun v : Int × Int => match v with
      | (a94, a95) =>
      cond (decide (a95 < 128))
       (cond (((decide (65 <= a94)) && (decide (a94 <= 90))) && (a95 == (IntKind.wrap .i32 ((IntKind.wrap .i32 (a94 + 97)) - 65))))
        (rec87 (x91, (a84 + wdS x52 a84)))
        (some (.inr false)))
       ((L_SimpleFold a94).bind fun x102 =>
       letJ (fun a107 : Int =>
        cond (a107 == a95)
         (rec87 (x91, (a84 + wdS x52 a84)))
         (some (.inr false))) fun J108 =>
        (iter (Bt a94 a95) FUEL x102).bind fun o =>
       J108 o)) fun J96 =>
     cond (decide (x90.1 < (rnS x52 a84)))
      (J96 (x90.1, (rnS x52 a84)))
      (J96 ((rnS x52 a84), x90.1)))))
   (some (.inl a83))
def BH (p0 : List By8) (p1 : List By8) (rec146 : Int -> Option (Unit ⊕ Int ⊕ Bool)) (a143 : Int) : Option (Unit ⊕ Int ⊕ Bool) :=
  cond (decide (a143 < (if (p1.length : Int) < (p0.length : Int) then (p1.length : Int) else (p0.length : Int))))
   (letJ (fun _ : Unit =>
    rec146 (IntKind.wrap .i64 (a143 + 1))) fun J160 =>
    (idx p0 a143).bind fun x161 =>
    (idx p1 a143).bind fun x162 =>
   cond (decide (128 <= (ior .u8 (x161.toNat : Int) (x162.toNat : Int))))
    (some (.inr (.inl a143)))
    (cond ((x162.toNat : Int) == (x161.toNat : Int))
     (J160 ())
     (letJ (fun v : Int × Int => match v with
      | (a166, a167) =>
      cond (((decide (65 <= a166)) && (decide (a166 <= 90))) && (a167 == (IntKind.wrap .u8 ((IntKind.wrap .u8 (a166 + 97)) - 65))))
       (J160 ())
       (some (.inr (.inr false)))) fun J168 =>
     cond (decide ((x162.toNat : Int) < (x161.toNat : Int)))
      (J168 ((x162.toNat : Int), (x161.toNat : Int)))
      (J168 ((x161.toNat : Int), (x162.toNat : Int))))))
   (some (.inl ()))
def CY (p0 : List By8) (p1 : List By8) : Option (Bool) :=
  letJ (fun a49 : Int =>
    (slc p0 a49 (p0.length : Int)).bind fun x52 =>
    (slc p1 a49 (p1.length : Int)).bind fun x53 =>
   letJ (fun a80 : List By8 =>
    some ((a80.length : Int) == 0)) fun J81 =>
    (iter (Bi x52) FUEL (x53, (0 : Nat))).bind fun o =>
   match o with
   | .inl o1 => J81 o1
   | .inr o1 => some o1) fun J50 =>
  letJ (fun _ : Unit =>
   some ((p0.length : Int) == (p1.length : Int))) fun J142 =>
   (iter (BH p0 p1) FUEL 0).bind fun o =>
  match o with
  | .inl o1 => J142 o1
  | .inr (.inl o1) => J50 o1
  | .inr (.inr o1) => some o1
def Cv (p0 : Ab) : Option (Bool) :=
  cond (p0.Kind == 2)
   ((Da p0.Name).bind fun x2 =>
    (letJ (fun v5 : Bool => some v5) fun J4 => cond x2 (J4 true) ((AA p0.Attrs Ek).bind fun x6 =>
     J4 x6)))
   (cond (p0.Kind == 5)
    ((Fd p0.Name.Local).bind fun x8 =>
     (letJ (fun v11 : Bool => some v11) fun J10 => cond (!x8) (J10 true) ((CY p0.Name.Local [120, 109, 108]).bind fun x12 =>
      J10 x12)))
    (some false))
def EN (p0 : Ah) : Option (Bool) :=
   (Fm p0.Value).bind fun x1 =>
  some x1
def De (p0 : Ab) : Option (Bool) :=
   (Fm p0.Text).bind fun x1 =>
   (letJ (fun v4 : Bool => some v4) fun J3 => cond x1 (J3 true) ((AA p0.Attrs EN).bind fun x5 =>
    J3 x5))
def Dg (p0 : List By8) : Option (Bool) :=
  some (!(p0 == p0))
def Cc (p0 : List By8) (p1 : List By8) : Option (Int) :=
   (Dg p0).bind fun x1 =>
   (Dg p1).bind fun x2 =>
  cond x1
   (cond x2
    (some 0)
    (some (-1 : Int)))
   (cond x2
    (some 1)
    (cond (Op.bytesLess p0 p1)
     (some (-1 : Int))
     (cond (!(Op.bytesLess p0 p1 || p0 == p1))
      (some 1)
      (some 0))))
def BJ (p0 : List Int) (rec9 : Int -> Option (Unit ⊕ Int)) (a6 : Int) : Option (Unit ⊕ Int) :=
  cond (decide (a6 < (p0.length : Int)))
   ((idx p0 a6).bind fun x12 =>
   cond (x12 != 0)
    (some (.inr x12))
    (rec9 (IntKind.wrap .i64 (a6 + 1))))
   (some (.inl ()))
def FS (p0 : List Int) : Option (Int) :=
  letJ (fun _ : Unit =>
   some 0) fun J5 =>
   (iter (BJ p0) FUEL 0).bind fun o =>
  match o with
  | .inl o1 => J5 o1
  | .inr o1 => some o1
def EB (p0 : Aa) (p1 : Aa) : Option (Int) :=
   (Cc p0.URI p1.URI).bind fun x1 =>
   (Cc p0.Local p1.Local).bind fun x2 =>
   (FS ([x1, x2])).bind fun x3 =>
  some x3
def C4 (p0 : Ab) (rec19 : Int -> Option (Unit ⊕ Bool)) (a16 : Int) : Option (Unit ⊕ Bool) :=
  cond (decide (a16 < (p0.Attrs.length : Int)))
   (letJ (fun a27 : Bool =>
    cond a27
     (some (.inr true))
     (rec19 (IntKind.wrap .i64 (a16 + 1)))) fun J28 =>
   cond (decide (0 < a16))
    ((idx p0.Attrs (IntKind.wrap .i64 (a16 - 1))).bind fun x31 =>
     (idx p0.Attrs a16).bind fun x32 =>
     (EB x31.Name x32.Name).bind fun x33 =>
    J28 (decide (0 <= x33)))
    (J28 false))
   (some (.inl ()))
def BW (p0 : Ab) : Option (Bool) :=
  letJ (fun _ : Unit =>
   some false) fun J15 =>
   (iter (C4 p0) FUEL 0).bind fun o =>
  match o with
  | .inl o1 => J15 o1
  | .inr o1 => some o1
def CM (p0 : List By8) (p1 : List By8) : Option (Bool) :=
   (letJ (fun v3 : Bool => some v3) fun J2 => cond (decide ((p1.length : Int) <= (p0.length : Int))) ((slc p0 (IntKind.wrap .i64 ((p0.length : Int) - (p1.length : Int))) (p0.length : Int)).bind fun x4 =>
    J2 (x4 == p1)) (J2 false))
def C5 (p0 : List By8) (p1 : List By8) : Option (Bool) :=
   (CM p0 p1).bind fun x1 =>
  some x1
def C0 (p0 : Ab) (rec15 : Int -> Option (Unit ⊕ Bool)) (a12 : Int) : Option (Unit ⊕ Bool) :=
  cond (decide (a12 < (p0.Kids.length : Int)))
   ((idx p0.Kids a12).bind fun x18 =>
    (letJ (fun v23 : Bool => cond v23
      (some (.inr true))
      (rec15 (IntKind.wrap .i64 (a12 + 1)))) fun J22 => cond ((decide (0 < a12)) && (x18.Kind == 3)) ((idx p0.Kids (IntKind.wrap .i64 (a12 - 1))).bind fun x24 =>
     J22 (x24.Kind == 3)) (J22 false)))
   (some (.inl ()))
def Cd (p0 : Ab) : Option (Bool) :=
  letJ (fun _ : Unit =>
   cond (p0.Kind == 3)
    (some (p0.Text == []))
    (cond (p0.Kind == 4)
     ((L_Contains p0.Text [45, 45]).bind fun x28 =>
      (letJ (fun v31 : Bool => (letJ (fun v35 : Bool => some v35) fun J34 => cond v31 (J34 true) ((L_Contains p0.Text [13]).bind fun x36 =>
         J34 x36))) fun J30 => cond x28 (J30 true) ((C5 p0.Text [45]).bind fun x32 =>
       J30 x32)))
     (cond (p0.Kind == 5)
      (letJ (fun a45 : Bool =>
       some a45) fun J46 =>
       (L_Contains p0.Text [63, 62]).bind fun x47 =>
      cond x47
       (J46 true)
       ((L_Contains p0.Text [13]).bind fun x50 =>
       cond x50
        (J46 true)
        ((L_TrimLeft p0.Text [32, 9, 10]).bind fun x53 =>
        J46 (!(p0.Text == x53)))))
      (some false)))) fun J11 =>
   (iter (C0 p0) FUEL 0).bind fun o =>
  match o with
  | .inl o1 => J11 o1
  | .inr o1 => some o1
def D1 (p0 : Ab) (rec40 : Int × Int -> Option (Int)) : Int × Int -> Option (Int)
  | (a36, a37) =>
  cond (decide (a37 < (p0.Kids.length : Int)))
   (letJ (fun a46 : Int =>
    rec40 (a46, (IntKind.wrap .i64 (a37 + 1)))) fun J47 =>
    (idx p0.Kids a37).bind fun x48 =>
   cond (x48.Kind == 2)
    (J47 (IntKind.wrap .i64 (a36 + 1)))
    (J47 a36))
   (some a36)
def Dd (p0 : Ab) : Option (Int) :=
   (Fk p0 ([] : List Ab)).bind fun x1 =>
   (letJ (fun v6 : Bool => cond v6
     (some 33)
     ((IV p0 0).bind fun x9 =>
     cond x9
      (some 31)
      ((letJ (fun v13 : Bool => cond v13
         (some 5)
         ((Ap x1 Cv).bind fun x16 =>
         cond x16
          (some 24)
          ((Ap x1 De).bind fun x18 =>
          cond x18
           (some 21)
           ((Ap x1 BW).bind fun x20 =>
           cond x20
            (some 34)
            ((Ap x1 Cd).bind fun x22 =>
            cond x22
             (some 32)
             (letJ (fun a34 : Int =>
              cond (a34 != 1)
               (some 30)
               (some 0)) fun J35 =>
              (iter (D1 p0) FUEL (0, 0)).bind fun o =>
             J35 o)))))) fun J12 => cond (decide (2000 < (IntKind.wrap .i64 ((x1.length : Int) - 1)))) (J12 true) ((Ap x1 Ez).bind fun x14 =>
        J12 x14))))) fun J5 => cond (p0.Kind != 1) (J5 true) ((Ap x1 EI).bind fun x7 =>
    J5 x7))
def Dw (p1 : Ai) (x100 : Ag) (rec109 : (List Ak) × Int -> Option (((List Ak)))) : (List Ak) × Int -> Option (((List Ak)))
  | (a104, a106) =>
  cond (decide (a106 < (x100.node.Attrs.length : Int)))
   (letJ (fun a120 : List Ak =>
    rec109 (a120, (IntKind.wrap .i64 (a106 + 1)))) fun J122 =>
    (idx x100.node.Attrs a106).bind fun x123 =>
   cond ((p1.test == [42]) || ((x123.Name.URI == p1.name.URI) && ((x123.Name.Local == p1.name.Local) && true)))
    ((L_CloneInts x100.path).bind fun x129 =>
     (app 64 a104 [(⟨x129, true, x123.Name⟩ : Ak)]).bind fun _ =>
    J122 (a104 ++ [(⟨x129, true, x123.Name⟩ : Ak)]))
    (J122 a104))
   (some a104)
def D0 (p0 : List Ag) (p1 : Ai) (rec68 : (List Ak) × Int -> Option (((List Ak)))) : (List Ak) × Int -> Option (((List Ak)))
  | (a63, a65) =>
  cond (decide (a65 < (p0.length : Int)))
   (letJ (fun a97 : List Ak =>
    rec68 (a97, (IntKind.wrap .i64 (a65 + 1)))) fun J99 =>
    (idx p0 a65).bind fun x100 =>
    (iter (Dw p1 x100) FUEL (a63, 0)).bind fun o =>
   J99 o)
   (some a63)
def FD (p0 : List Ag) (p1 : Ai) : Option ((List Ak)) :=
  letJ (fun a60 : List Ak =>
   some a60) fun J62 =>
   (iter (D0 p0 p1) FUEL ([], 0)).bind fun o =>
  J62 o
def BE (p0 : List Int) (p1 : List Int) (rec11 : Int -> Option (Unit ⊕ Bool)) (a8 : Int) : Option (Unit ⊕ Bool) :=
  cond (decide (a8 < (p0.length : Int)))
   ((idx p0 a8).bind fun x14 =>
    (idx p1 a8).bind fun x15 =>
   cond (x14 != x15)
    (some (.inr false))
    (rec11 (IntKind.wrap .i64 (a8 + 1))))
   (some (.inl ()))
def Ch (p0 : List Int) (p1 : List Int) : Option (Bool) :=
  cond ((p0.length : Int) != (p1.length : Int))
   (some false)
   (letJ (fun _ : Unit =>
    some true) fun J7 =>
    (iter (BE p0 p1) FUEL 0).bind fun o =>
   match o with
   | .inl o1 => J7 o1
   | .inr o1 => some o1)
def D3 (p0 : List Ag) (rec70 : (List Ag) × Int -> Option (((List Ag)))) : (List Ag) × Int -> Option (((List Ag)))
  | (a65, a67) =>
  cond (decide (a67 < (p0.length : Int)))
   (letJ (fun a100 : List Ag =>
    rec70 (a100, (IntKind.wrap .i64 (a67 + 1)))) fun J102 =>
    (idx p0 a67).bind fun x103 =>
   letJ (fun a116 : Bool =>
    cond a116
     ((app 128 a65 [x103]).bind fun _ =>
     J102 (a65 ++ [x103]))
     (J102 a65)) fun J117 =>
   cond ((a65.length : Int) == 0)
    (J117 true)
    ((idx a65 (IntKind.wrap .i64 ((a65.length : Int) - 1))).bind fun x122 =>
    cond (decide ((x103.path.length : Int) < (x122.path.length : Int)))
     (J117 true)
     ((idx a65 (IntKind.wrap .i64 ((a65.length : Int) - 1))).bind fun x125 =>
      (idx a65 (IntKind.wrap .i64 ((a65.length : Int) - 1))).bind fun x126 =>
      (slc x103.path 0 (x126.path.length : Int)).bind fun x127 =>
      (Ch x125.path x127).bind fun x128 =>
     J117 (!x128))))
   (some a65)
def Fy (p0 : List Ag) : Option ((List Ag)) :=
  letJ (fun a62 : List Ag =>
   some a62) fun J64 =>
   (iter (D3 p0) FUEL ([], 0)).bind fun o =>
  J64 o
def CL (p0 : Ai) (p1 : Ag) (rec0 : Ai × Ag -> Option ((List Ag))) (rec25 : (List Ag) × Int -> Option (((List Ag)))) : (List Ag) × Int -> Option (((List Ag)))
  | (a20, a22) =>
  cond (decide (a22 < (p1.node.Kids.length : Int)))
   ((idx p1.node.Kids a22).bind fun x28 =>
    (app 8 [] p1.path).bind fun x32 =>
    (app 8 x32 [a22]).bind fun _ =>
    (rec0 (p0, (⟨(x32 ++ [a22]), x28⟩ : Ag))).bind fun x36 =>
    (app 128 a20 x36).bind fun _ =>
   rec25 ((a20 ++ x36), (IntKind.wrap .i64 (a22 + 1))))
   (some a20)
def BL (rec0 : Ai × Ag -> Option ((List Ag))) : Ai × Ag -> Option ((List Ag))
  | (p0, p1) =>
   (CT p0 p1).bind fun x1 =>
  letJ (fun a17 : List Ag =>
   some a17) fun J19 =>
   (iter (CL p0 p1 rec0) FUEL (x1, 0)).bind fun o =>
  J19 o
def Fh (p0 : Ai) (p1 : Ag) : Option ((List Ag)) := iter BL FUEL (p0, p1)
def Ec (p0 : Int) : Option (Bool) :=
  some (p0 != p0)
def Ck (p0 : Int) (p1 : Int) : Option (Int) :=
   (Ec p0).bind fun x1 =>
   (Ec p1).bind fun x2 =>
  cond x1
   (cond x2
    (some 0)
    (some (-1 : Int)))
   (cond x2
    (some 1)
    (cond (decide (p0 < p1))
     (some (-1 : Int))
     (cond (decide (p1 < p0))
      (some 1)
      (some 0))))
def Gm (p0 : List Int) (p1 : List Int) (rec12 : Int -> Option (Unit ⊕ Int)) (a9 : Int) : Option (Unit ⊕ Int) :=
  cond (decide (a9 < (p0.length : Int)))
   ((idx p0 a9).bind fun x15 =>
   cond (decide ((p1.length : Int) <= a9))
    (some (.inr 1))
    ((idx p1 a9).bind fun x17 =>
     (Ck x15 x17).bind fun x18 =>
    cond (x18 != 0)
     (some (.inr x18))
     (rec12 (IntKind.wrap .i64 (a9 + 1)))))
   (some (.inl ()))
def Hb (p0 : List Int) (p1 : List Int) : Option (Int) :=
  letJ (fun _ : Unit =>
   cond (decide ((p0.length : Int) < (p1.length : Int)))
    (some (-1 : Int))
    (some 0)) fun J8 =>
   (iter (Gm p0 p1) FUEL 0).bind fun o =>
  match o with
  | .inl o1 => J8 o1
  | .inr o1 => some o1
def VH (p0 : Ag) (p1 : Ag) : Option (Int) :=
   (Hb p0.path p1.path).bind fun x1 =>
  some x1
def DJ (x221 : Ai) (a228 : List Ag) (rec266 : (List Ag) × Int -> Option (((List Ag)))) : (List Ag) × Int -> Option (((List Ag)))
  | (a262, a263) =>
  cond (decide (a263 < (a228.length : Int)))
   (letJ (fun a280 : List Ag =>
    rec266 (a280, (IntKind.wrap .i64 (a263 + 1)))) fun J281 =>
    (idx a228 a263).bind fun x282 =>
   cond x221.deep
    ((Fh x221 x282).bind fun x285 =>
     (app 128 a262 x285).bind fun _ =>
     (some (a262 ++ x285)).bind fun a287 =>
    J281 a287)
    ((CT x221 x282).bind fun x288 =>
     (app 128 a262 x288).bind fun _ =>
     (some (a262 ++ x288)).bind fun a291 =>
    J281 a291))
   (some a262)
def DL (x1 : (List Ai) × Int × Int) (rec149 : (List Ag) × Int -> Option (((List Ag)) ⊕ ((List Ak) × Int × Int))) : (List Ag) × Int -> Option (((List Ag)) ⊕ ((List Ak) × Int × Int))
  | (a145, a146) =>
  cond (decide (a146 < (x1.1.length : Int)))
   (letJ (fun a219 : List Ag =>
    rec149 (a219, (IntKind.wrap .i64 (a146 + 1)))) fun J220 =>
    (idx x1.1 a146).bind fun x221 =>
   cond x221.attr
    ((FD a145 x221).bind fun x224 =>
    some (.inr (x224, 0, 0)))
    (letJ (fun a228 : List Ag =>
     letJ (fun a259 : List Ag =>
       (Pq IK FC a259).bind fun x292 =>
      J220 x292) fun J260 =>
      (iter (DJ x221 a228) FUEL ([], 0)).bind fun o =>
     J260 o) fun J229 =>
    cond x221.deep
     ((Fy a145).bind fun x231 =>
     J229 x231)
     (J229 a145)))
   (some (.inl a145))
def DM (a143 : List Ag) (rec311 : (List Ak) × Int -> Option (((List Ak)))) : (List Ak) × Int -> Option (((List Ak)))
  | (a306, a308) =>
  cond (decide (a308 < (a143.length : Int)))
   ((idx a143 a308).bind fun x314 =>
    (app 64 a306 [(⟨x314.path, false, (⟨[], []⟩ : Aa)⟩ : Ak)]).bind fun _ =>
   rec311 ((a306 ++ [(⟨x314.path, false, (⟨[], []⟩ : Aa)⟩ : Ak)]), (IntKind.wrap .i64 (a308 + 1))))
   (some a306)
def CI (p0 : Ab) (p1 : List By8) : Option ((List Ak) × Int × Int) :=
   (BQ p1).bind fun x1 =>
  cond (x1.2.2 != 0)
   (some ([], x1.2.1, x1.2.2))
   ((Dd p0).bind fun x3 =>
   cond (x3 != 0)
    (some ([], 0, x3))
    (letJ (fun a143 : List Ag =>
     letJ (fun a303 : List Ak =>
      some (a303, 0, 0)) fun J305 =>
      (iter (DM a143) FUEL ([], 0)).bind fun o =>
     J305 o) fun J144 =>
     (iter (DL x1) FUEL ([(⟨[], p0⟩ : Ag)], 0)).bind fun o =>
    match o with
    | .inl o1 => J144 o1
    | .inr o1 => some o1))
def Ib (p0 : List By8) : Option (Int × Int) :=
   (BQ p0).bind fun x1 =>
  some (x1.2.1, x1.2.2)
def Em (p0 : List Int) (p1 : List Int) (rec11 : Int -> Option (Unit ⊕ Bool)) (a8 : Int) : Option (Unit ⊕ Bool) :=
  cond (decide (a8 < (p0.length : Int)))
   ((idx p0 a8).bind fun x14 =>
    (idx p1 a8).bind fun x15 =>
   cond (x14 != x15)
    (some (.inr false))
    (rec11 (IntKind.wrap .i64 (a8 + 1))))
   (some (.inl ()))
def Cb (p0 : List Int) (p1 : List Int) : Option (Bool) :=
  cond ((p0.length : Int) != (p1.length : Int))
   (some false)
   (letJ (fun _ : Unit =>
    some true) fun J7 =>
    (iter (Em p0 p1) FUEL 0).bind fun o =>
   match o with
   | .inl o1 => J7 o1
   | .inr o1 => some o1)
def Do : Option (Bool) :=
   (Df ).bind fun x1 =>
   (CI x1 [47, 47, 98, 91, 64, 100, 126, 51, 44, 49, 93]).bind fun x2 =>
   (Df ).bind fun x3 =>
   (CI x3 [47, 97, 47, 98, 47, 64, 42]).bind fun x4 =>
   (Ib [47, 97, 91, 48, 93]).bind fun x5 =>
   (letJ (fun v12 : Bool => (letJ (fun v18 : Bool => (letJ (fun v22 : Bool => some v22) fun J21 => cond v18 ((idx x4.1 0).bind fun x23 =>
        J21 (x23.Name.Local == [120])) (J21 false))) fun J17 => cond (v12 && ((x4.1.length : Int) == 2)) ((idx x4.1 0).bind fun x19 =>
      J17 x19.Attr) (J17 false))) fun J11 => cond (((((x2.2.2 == 0) && (x4.2.2 == 0)) && (x5.2 == 36)) && (x5.1 == 3)) && ((x2.1.length : Int) == 1)) ((idx x2.1 0).bind fun x13 =>
     (Cb x13.Steps ([0, 1])).bind fun x14 =>
    J11 x14) (J11 false))
def BG (p0 : List By8) (p1 : Int) (a9 : Int) (rec33 : Int × Int -> Option (Int ⊕ (Int × Int))) : Int × Int -> Option (Int ⊕ (Int × Int))
  | (a29, a30) =>
  cond (decide (a30 < a9))
   ((idx p0 (IntKind.wrap .i64 (p1 + a30))).bind fun x36 =>
   cond ((decide ((IntKind.wrap .i64 (x36.toNat : Int)) < 128)) || (decide (191 < (IntKind.wrap .i64 (x36.toNat : Int)))))
    (some (.inr (0, 0)))
    (rec33 ((IntKind.wrap .i64 ((IntKind.wrap .i64 ((IntKind.wrap .i64 (64 * a29)) + (IntKind.wrap .i64 (x36.toNat : Int)))) - 128)), (IntKind.wrap .i64 (a30 + 1)))))
   (some (.inl a29))
def BX (p0 : List By8) (p1 : Int) : Option (Int × Int) :=
   (idx p0 p1).bind fun x1 =>
  letJ (fun v : Int × Int × Int => match v with
   | (a9, a10, a11) =>
   cond (decide ((p0.length : Int) < (IntKind.wrap .i64 (p1 + a9))))
    (some (0, 0))
    (letJ (fun a27 : Int =>
     cond (((decide (a27 < a11)) || (decide (1114111 < a27))) || ((decide (55296 <= a27)) && (decide (a27 <= 57343))))
      (some (0, 0))
      (some (a27, a9))) fun J28 =>
     (iter (BG p0 p1 a9) FUEL (a10, 1)).bind fun o =>
    match o with
    | .inl o1 => J28 o1
    | .inr o1 => some o1)) fun J12 =>
  cond (decide ((IntKind.wrap .i64 (x1.toNat : Int)) < 128))
   (some ((IntKind.wrap .i64 (x1.toNat : Int)), 1))
   (cond ((decide (192 <= (IntKind.wrap .i64 (x1.toNat : Int)))) && (decide ((IntKind.wrap .i64 (x1.toNat : Int)) < 224)))
    (J12 (2, (IntKind.wrap .i64 ((IntKind.wrap .i64 (x1.toNat : Int)) - 192)), 128))
    (cond ((decide (224 <= (IntKind.wrap .i64 (x1.toNat : Int)))) && (decide ((IntKind.wrap .i64 (x1.toNat : Int)) < 240)))
     (J12 (3, (IntKind.wrap .i64 ((IntKind.wrap .i64 (x1.toNat : Int)) - 224)), 2048))
     (cond ((decide (240 <= (IntKind.wrap .i64 (x1.toNat : Int)))) && (decide ((IntKind.wrap .i64 (x1.toNat : Int)) < 248)))
      (J12 (4, (IntKind.wrap .i64 ((IntKind.wrap .i64 (x1.toNat : Int)) - 240)), 65536))
      (some (0, 0)))))
def BF (p0 : Int) : Option (Bool) :=
  letJ (fun a5 : Bool =>
   cond a5
    (some true)
    (cond ((decide (192 <= p0)) && (decide (p0 <= 767)))
     (some ((p0 != 215) && (p0 != 247)))
     (cond ((decide (880 <= p0)) && (decide (p0 <= 8191)))
      (some (p0 != 894))
      (letJ (fun a18 : Bool =>
       cond a18
        (some true)
        (letJ (fun a27 : Bool =>
         cond a27
          (some true)
          (cond ((decide (63744 <= p0)) && (decide (p0 <= 65533)))
           (some ((decide (p0 < 64976)) || (decide (65008 <= p0))))
           (some ((decide (65536 <= p0)) && (decide (p0 <= 983039)))))) fun J28 =>
        cond ((decide (8304 <= p0)) && (decide (p0 <= 8591)))
         (J28 ((decide (8304 <= p0)) && (decide (p0 <= 8591))))
         (cond ((decide (11264 <= p0)) && (decide (p0 <= 12271)))
          (J28 ((decide (11264 <= p0)) && (decide (p0 <= 12271))))
          (J28 ((decide (12289 <= p0)) && (decide (p0 <= 55295))))))) fun J19 =>
      cond (p0 == 8204)
       (J19 (p0 == 8204))
       (J19 (p0 == 8205)))))) fun J6 =>
  cond ((decide (65 <= p0)) && (decide (p0 <= 90)))
   (J6 ((decide (65 <= p0)) && (decide (p0 <= 90))))
   (cond (p0 == 95)
    (J6 (p0 == 95))
    (J6 ((decide (97 <= p0)) && (decide (p0 <= 122)))))
def Bl (p0 : Int) : Option (Bool) :=
   (BF p0).bind fun x1 =>
  some (((((((x1 || (p0 == 45)) || (p0 == 46)) || ((decide (48 <= p0)) && (decide (p0 <= 57)))) || (p0 == 183)) || ((decide (768 <= p0)) && (decide (p0 <= 879)))) || (p0 == 8255)) || (p0 == 8256))
def Cj (p0 : List By8) (rec22 : Int -> Option (Unit ⊕ Bool)) (a19 : Int) : Option (Unit ⊕ Bool) :=
  cond (decide (a19 < (p0.length : Int)))
   ((BX p0 a19).bind fun x25 =>
    (letJ (fun v28 : Bool => (letJ (fun v32 : Bool => cond v32
        (some (.inr false))
        (rec22 (IntKind.wrap .i64 (a19 + x25.2)))) fun J31 => cond v28 (J31 true) ((letJ (fun v35 : Bool => J31 v35) fun J34 => cond (a19 == 0) ((BF x25.1).bind fun x36 =>
         J34 (!x36)) (J34 false))))) fun J27 => cond (x25.2 == 0) (J27 true) ((Bl x25.1).bind fun x29 =>
     J27 (!x29))))
   (some (.inl ()))
def B0 (p0 : List By8) : Option (Bool) :=
  cond (((p0.length : Int) == 0) || (decide (100 < (p0.length : Int))))
   (some false)
   (letJ (fun _ : Unit =>
    some true) fun J18 =>
    (iter (Cj p0) FUEL 0).bind fun o =>
   match o with
   | .inl o1 => J18 o1
   | .inr o1 => some o1)
def B7 (p0 : List By8) (p1 : Int) (rec9 : Int -> Option (Unit ⊕ Bool)) (a6 : Int) : Option (Unit ⊕ Bool) :=
  cond (decide (a6 < (p0.length : Int)))
   ((idx p0 a6).bind fun x12 =>
   cond ((x12.toNat : Int) == p1)
    (some (.inr true))
    (rec9 (IntKind.wrap .i64 (a6 + 1))))
   (some (.inl ()))
def By (p0 : List By8) (p1 : Int) : Option (Bool) :=
  letJ (fun _ : Unit =>
   some false) fun J5 =>
   (iter (B7 p0 p1) FUEL 0).bind fun o =>
  match o with
  | .inl o1 => J5 o1
  | .inr o1 => some o1
def DO (p0 : Ab) (rec0 : Ab -> Option (Ab)) (rec37 : Int × (List By8) × (List By8) × (List Ah) × (List Ab) × (List By8) × Int -> Option ((Int × (List By8) × (List By8) × (List Ah) × (List Ab) × (List By8)))) : Int × (List By8) × (List By8) × (List Ah) × (List Ab) × (List By8) × Int -> Option ((Int × (List By8) × (List By8) × (List Ah) × (List Ab) × (List By8)))
  | (a27, a28, a29, a30, a31, a33, a34) =>
  cond (decide (a34 < (p0.Kids.length : Int)))
   ((idx p0.Kids a34).bind fun x40 =>
    (rec0 x40).bind fun x42 =>
    (app 104 a31 [x42]).bind fun _ =>
   rec37 (a27, a28, a29, a30, (a31 ++ [x42]), a33, (IntKind.wrap .i64 (a34 + 1))))
   (some (a27, a28, a29, a30, a31, a33))
def Cr (rec0 : Ab -> Option (Ab)) : Ab -> Option (Ab)
  | p0 =>
   (app 48 ([] : List Ah) p0.Attrs).bind fun _ =>
  letJ (fun v : Int × (List By8) × (List By8) × (List Ah) × (List Ab) × (List By8) => match v with
   | (a19, a20, a21, a22, a23, a25) =>
   some (⟨a19, (⟨a20, a21⟩ : Aa), a22, a23, a25⟩ : Ab)) fun J26 =>
   (iter (DO p0 rec0) FUEL (p0.Kind, p0.Name.URI, p0.Name.Local, ([] ++ p0.Attrs), [], p0.Text, 0)).bind fun o =>
  J26 o
def I6 (p0 : Ab) : Option (Ab) := iter Cr FUEL p0
def FI (p1 : List Int) (rec49 : Int × (List By8) × (List By8) × (List Ah) × (List Ab) × (List By8) × Int × (List By8) × (List By8) × (List Ah) × (List Ab) × (List By8) × Int -> Option ((Int × (List By8) × (List By8) × (List Ah) × (List Ab) × (List By8) × Int × (List By8) × (List By8) × (List Ah) × (List Ab) × (List By8)) ⊕ (Ab × Int))) : Int × (List By8) × (List By8) × (List Ah) × (List Ab) × (List By8) × Int × (List By8) × (List By8) × (List Ah) × (List Ab) × (List By8) × Int -> Option ((Int × (List By8) × (List By8) × (List Ah) × (List Ab) × (List By8) × Int × (List By8) × (List By8) × (List Ah) × (List Ab) × (List By8)) ⊕ (Ab × Int))
  | (a34, a35, a36, a37, a38, a39, a40, a41, a42, a43, a44, a45, a46) =>
  cond (decide (a46 < (p1.length : Int)))
   ((idx p1 a46).bind fun x52 =>
   cond ((decide (x52 < 0)) || (decide ((a38.length : Int) <= x52)))
    (some (.inr ((⟨0, (⟨[], []⟩ : Aa), [], [], []⟩ : Ab), 35)))
    ((idx a38 x52).bind fun x55 =>
    rec49 (x55.Kind, x55.Name.URI, x55.Name.Local, x55.Attrs, x55.Kids, x55.Text, a40, a41, a42, a43, a44, a45, (IntKind.wrap .i64 (a46 + 1)))))
   (some (.inl (a34, a35, a36, a37, a38, a39, a40, a41, a42, a43, a44, a45)))
def HN (p0 : Ab) (p1 : List Int) : Option (Ab × Int) :=
  letJ (fun v : Int × (List By8) × (List By8) × (List Ah) × (List Ab) × (List By8) × Int × (List By8) × (List By8) × (List Ah) × (List Ab) × (List By8) => match v with
   | (a21, a22, a23, a24, a25, a26, a27, a28, a29, a30, a31, a32) =>
    (I6 (⟨a21, (⟨a22, a23⟩ : Aa), a24, a25, a26⟩ : Ab)).bind fun x56 =>
   some (x56, 0)) fun J33 =>
   (iter (FI p1) FUEL (p0.Kind, p0.Name.URI, p0.Name.Local, p0.Attrs, p0.Kids, p0.Text, 0, [], [], [], [], [], 0)).bind fun o =>
  match o with
  | .inl o1 => J33 o1
  | .inr o1 => some o1
def DG (p0 : Ab) (rec0 : Ab -> Option ((List By8))) (rec16 : (List By8) × Int -> Option (((List By8)))) : (List By8) × Int -> Option (((List By8)))
  | (a12, a13) =>
  cond (decide (a13 < (p0.Kids.length : Int)))
   ((idx p0.Kids a13).bind fun x19 =>
   letJ (fun a22 : List By8 =>
     (rec0 x19).bind fun x25 =>
     (cat a22 x25).bind fun _ =>
    rec16 ((a22 ++ x25), (IntKind.wrap .i64 (a13 + 1)))) fun J23 =>
   cond (x19.Kind == 3)
    ((cat a12 x19.Text).bind fun _ =>
    J23 (a12 ++ x19.Text))
    (J23 a12))
   (some a12)
def BU (rec0 : Ab -> Option ((List By8))) : Ab -> Option ((List By8))
  | p0 =>
  letJ (fun a10 : List By8 =>
   some a10) fun J11 =>
   (iter (DG p0 rec0) FUEL ([], 0)).bind fun o =>
  J11 o
def Hu (p0 : Ab) : Option ((List By8)) := iter BU FUEL p0
def F0 (p1 : Ak) (x1 : Ab × Int) (rec29 : Int -> Option (Unit ⊕ ((List By8) × Int))) (a26 : Int) : Option (Unit ⊕ ((List By8) × Int)) :=
  cond (decide (a26 < (x1.1.Attrs.length : Int)))
   ((idx x1.1.Attrs a26).bind fun x32 =>
   cond ((x1.1.Kind == 2) && ((x32.Name.URI == p1.Name.URI) && ((x32.Name.Local == p1.Name.Local) && true)))
    (some (.inr (x32.Value, 0)))
    (rec29 (IntKind.wrap .i64 (a26 + 1))))
   (some (.inl ()))
def E7 (p0 : Ab) (p1 : Ak) : Option ((List By8) × Int) :=
   (HN p0 p1.Steps).bind fun x1 =>
  cond (x1.2 != 0)
   (some ([], x1.2))
   (letJ (fun _ : Unit =>
    cond (((x1.1.Kind == 3) || (x1.1.Kind == 4)) || (x1.1.Kind == 5))
     (some (x1.1.Text, 0))
     ((Hu x1.1).bind fun x39 =>
     some (x39, 0))) fun J17 =>
   cond p1.Attr
    (letJ (fun _ : Unit =>
     some ([], 7)) fun J25 =>
     (iter (F0 p1 x1) FUEL 0).bind fun o =>
    match o with
    | .inl o1 => J25 o1
    | .inr o1 => some o1)
    (J17 ()))
def CG (p0 : Ak) (p1 : Ak) (rec11 : Int -> Option (Unit ⊕ Int)) (a8 : Int) : Option (Unit ⊕ Int) :=
  cond (decide (a8 < (if (p1.Steps.length : Int) < (p0.Steps.length : Int) then (p1.Steps.length : Int) else (p0.Steps.length : Int))))
   ((idx p0.Steps a8).bind fun x14 =>
    (idx p1.Steps a8).bind fun x15 =>
    (Ck x14 x15).bind fun x16 =>
   cond (x16 != 0)
    (some (.inr x16))
    (rec11 (IntKind.wrap .i64 (a8 + 1))))
   (some (.inl ()))
def CW (p0 : Ak) (p1 : Ak) : Option (Int) :=
  letJ (fun _ : Unit =>
    (Ck (p0.Steps.length : Int) (p1.Steps.length : Int)).bind fun x18 =>
   cond (x18 != 0)
    (some x18)
    (cond (p0.Attr && p1.Attr)
     ((EB p0.Name p1.Name).bind fun x22 =>
     some x22)
     (cond p0.Attr
      (some 1)
      (cond p1.Attr
       (some (-1 : Int))
       (some 0))))) fun J7 =>
   (iter (CG p0 p1) FUEL 0).bind fun o =>
  match o with
  | .inl o1 => J7 o1
  | .inr o1 => some o1
def AN (p0 : Ab) (p2 : Aa) (p3 : List By8) (x18 : (List Ak) × Int × Int) (x19 : (List Ak) × Int × Int) (x20 : (List Ak) × Int × Int) (rec103 : Int × Int × Int -> Option ((Int × Int) ⊕ Bool)) : Int × Int × Int -> Option ((Int × Int) ⊕ Bool)
  | (a98, a99, a100) =>
  cond (decide (a100 < (x18.1.length : Int)))
   (letJ (fun v : Int × Int => match v with
    | (a135, a136) =>
    rec103 (a135, a136, (IntKind.wrap .i64 (a100 + 1)))) fun J137 =>
    (idx x18.1 a100).bind fun x138 =>
    (E7 p0 (⟨x138.Steps, true, p2⟩ : Ak)).bind fun x140 =>
   letJ (fun a145 : Bool =>
    letJ (fun a155 : Bool =>
     cond ((!(a145 == (x140.2 == 0))) || (!(a155 == ((x140.2 == 0) && (x140.1 == p3)))))
      (some (.inr false))
      (letJ (fun a166 : Int =>
       cond a155
        (J137 (a166, (IntKind.wrap .i64 (a99 + 1))))
        (J137 (a166, a99))) fun J167 =>
      cond a145
       (J167 (IntKind.wrap .i64 (a98 + 1)))
       (J167 a98))) fun J156 =>
    cond (decide (a99 < (x20.1.length : Int)))
     ((idx x20.1 a99).bind fun x159 =>
      (CW x159 x138).bind fun x160 =>
     J156 (x160 == 0))
     (J156 false)) fun J146 =>
   cond (decide (a98 < (x19.1.length : Int)))
    ((idx x19.1 a98).bind fun x149 =>
     (CW x149 x138).bind fun x150 =>
    J146 (x150 == 0))
    (J146 false))
   (some (.inl (a98, a99)))
def Cf (p0 : Ab) (p1 : List By8) (p2 : Aa) (p3 : List By8) : Option (Bool) :=
   (Do ).bind fun x1 =>
  cond (!x1)
   (some false)
   ((B0 p2.Local).bind fun x3 =>
    (letJ (fun v6 : Bool => (letJ (fun v10 : Bool => cond v10
        (some true)
        ((cat [91, 64] p2.Local).bind fun _ =>
         (cat ([91, 64] ++ p2.Local) [93]).bind fun _ =>
        letJ (fun a14 : List By8 =>
          (slc a14 0 (IntKind.wrap .i64 ((a14.length : Int) - 1))).bind fun x17 =>
          (cat x17 [61, 39]).bind fun _ =>
          (cat (x17 ++ [61, 39]) p3).bind fun _ =>
          (cat ((x17 ++ [61, 39]) ++ p3) [39, 93]).bind fun _ =>
          (CI p0 p1).bind fun x18 =>
          (cat p1 a14).bind fun _ =>
          (CI p0 (p1 ++ a14)).bind fun x19 =>
          (cat p1 (((x17 ++ [61, 39]) ++ p3) ++ [39, 93])).bind fun _ =>
          (CI p0 (p1 ++ (((x17 ++ [61, 39]) ++ p3) ++ [39, 93]))).bind fun x20 =>
          (letJ (fun v25 : Bool => cond v25
            (some true)
            (letJ (fun v : Int × Int => match v with
             | (a95, a96) =>
             some ((a95 == (x19.1.length : Int)) && (a96 == (x20.1.length : Int)))) fun J97 =>
             (iter (AN p0 p2 p3 x18 x19 x20) FUEL (0, 0, 0)).bind fun o =>
            match o with
            | .inl o1 => J97 o1
            | .inr o1 => some o1)) fun J24 => cond (((x18.2.2 != 0) || (x19.2.2 != 0)) || (x20.2.2 != 0)) (J24 true) ((letJ (fun v28 : Bool => J24 v28) fun J27 => cond (decide (0 < (x19.1.length : Int))) ((idx x19.1 0).bind fun x29 =>
             J27 x29.Attr) (J27 false))))) fun J15 =>
        cond (!(p2.URI == []))
         ((cat [91, 64] p2.Local).bind fun _ =>
          (cat ([91, 64] ++ p2.Local) [123]).bind fun _ =>
          (cat (([91, 64] ++ p2.Local) ++ [123]) p2.URI).bind fun _ =>
          (cat ((([91, 64] ++ p2.Local) ++ [123]) ++ p2.URI) [125, 93]).bind fun _ =>
         J15 (((([91, 64] ++ p2.Local) ++ [123]) ++ p2.URI) ++ [125, 93]))
         (J15 (([91, 64] ++ p2.Local) ++ [93])))) fun J9 => cond v6 (J9 true) ((By p3 39).bind fun x11 =>
       J9 x11))) fun J5 => cond (!x3) (J5 true) ((By p2.URI 125).bind fun x7 =>
     J5 x7)))
end Go.Proofs.YtmnbjcpikllknaaGreatDoor
