/- The plain functions. No condition. -/
import Derived.Test.YtmnbjcpikllknaaGreatDoorEA
import Derived.Test.YtmnbjcpikllknaaGreatDoorLg11
set_option linter.unusedVariables false
set_option linter.unusedSimpArgs false
set_option maxRecDepth 20000
set_option maxHeartbeats 8000000
namespace Go.Proofs.YtmnbjcpikllknaaGreatDoor
structure Af where
  q : List By8
  at_ : Int
  deriving DecidableEq, Inhabited
def HU (x : Af) : List D := [.str x.q, .int .i64 x.at_]
structure An where
  lo : Int
  hi : Int
  deriving DecidableEq, Inhabited
def AY (x : An) : List D := [.int .i32 x.lo, .int .i32 x.hi]
structure Aa where
  URI : List By8
  Local : List By8
  deriving DecidableEq, Inhabited
def Au (x : Aa) : List D := [.str x.URI, .str x.Local]
structure Ad where
  kind : Int
  k : Int
  name : Aa
  value : List By8
  spot : Nat × Nat
  deriving DecidableEq, Inhabited
def Al (x : Ad) : List D := [.int .u8 x.kind, .int .i64 x.k, .str x.name.URI, .str x.name.Local, .str x.value, .cplx .f64 x.spot.1 x.spot.2]
structure Ag where
  deep : Bool
  attr : Bool
  test : List By8
  name : Aa
  conds : List Ad
  deriving DecidableEq, Inhabited
def Ap (x : Ag) : List D := [.bool x.deep, .bool x.attr, .str x.test, .str x.name.URI, .str x.name.Local, .sl 6 (List.map Al x.conds) 0]
structure Aj where
  Name : Aa
  Value : List By8
  deriving DecidableEq, Inhabited
def Ar (x : Aj) : List D := [.str x.Name.URI, .str x.Name.Local, .str x.Value]
structure Am where
  Spots : List (Nat × Nat)
  Closed : Bool
  deriving DecidableEq, Inhabited
def A7 (x : Am) : List D := [.sl 1 (List.map FN x.Spots) 0, .bool x.Closed]
structure AA where
  s : List By8
  at_ : Int
  f : List Am
  pen : Nat × Nat
  n : Int
  open_ : Bool
  deriving DecidableEq, Inhabited
def SU (x : AA) : List D := [.str x.s, .int .i64 x.at_, .sl 2 (List.map A7 x.f) 0, .cplx .f64 x.pen.1 x.pen.2, .int .i64 x.n, .bool x.open_]
structure Ab where
  Kind : Int
  Name : Aa
  Attrs : List Aj
  Kids : List Ab
  Text : List By8
  deriving Inhabited
mutual
def Ae : Ab -> List D
  | ⟨Kind, Name, Attrs, Kids, Text⟩ => [.int .i64 Kind, .str Name.URI, .str Name.Local, .sl 3 (List.map Ar Attrs) 0, .sl 6 (EB Kids) 0, .str Text]
def EB : List Ab -> List (List D)
  | [] => []
  | x :: l => Ae x :: EB l
end
theorem If : ∀ l : List Ab, EB l = List.map Ae l
  | [] => by simp only [EB, List.map_nil]
  | x :: l => by simp only [EB, List.map_cons, If l]
theorem Ac (x : Ab) : Ae x = [.int .i64 x.Kind, .str x.Name.URI, .str x.Name.Local, .sl 3 (List.map Ar x.Attrs) 0, .sl 6 (List.map Ae x.Kids) 0, .str x.Text] := by cases x; simp only [Ae, If]
theorem FX (x : Ab) : (Ae x).length = 6 := by rw [Ac]; rfl
structure Ah where
  path : List Int
  node : Ab
  deriving Inhabited
def Ai (x : Ah) : List D := [.sl 1 (List.map BF x.path) 0, .int .i64 x.node.Kind, .str x.node.Name.URI, .str x.node.Name.Local, .sl 3 (List.map Ar x.node.Attrs) 0, .sl 6 (List.map Ae x.node.Kids) 0, .str x.node.Text]
structure Ak where
  Steps : List Int
  Attr : Bool
  Name : Aa
  deriving DecidableEq, Inhabited
def Aq (x : Ak) : List D := [.sl 1 (List.map BF x.Steps) 0, .bool x.Attr, .str x.Name.URI, .str x.Name.Local]
def At : Am × Option Nat -> List D
  | (x, some r) => [.sl 1 (List.map FN x.Spots) r, .bool x.Closed]
  | (x, none) => [.snil, .bool x.Closed]
theorem Cb : ∀ a, (At a).length = 2
  | (_, some _) => rfl
  | (_, none) => rfl
theorem Gd (r : Nat) (a : Am) : WdC (At (a, some r)) (At (a, some 0)) := .cons (.zero _ _ _) (.cons (.refl _) (.nil))
def Bd (p0 : Af) : Option (Unit ⊕ Unit) := some (.inl ())
def AX (p0 : Af) (p1 : Int) : Option (Bool) :=
  letJ (fun a4 : Bool =>
   some a4) fun J5 =>
  cond (decide (p0.at_ < (p0.q.length : Int)))
   ((idx p0.q p0.at_).bind fun x8 =>
   J5 ((x8.toNat : Int) == p1))
   (J5 false)
def Az (p0 : Af) (p1 : Int) : Option (Af ⊕ Af) :=
  letJ (fun _ : Unit =>
   some (.inr (⟨p0.q, (IntKind.wrap .i64 (p0.at_ + 1))⟩ : Af))) fun J5 =>
   (AX p0 p1).bind fun x6 =>
  cond (!x6)
   ((Bd p0).bind fun x => pnc x (fun x9 =>
    some (.inl p0)) fun x8 =>
   J5 ())
   (J5 ())
def Av (p0 : Af) (p1 : Int) : Option (Bool × Af) :=
   (AX p0 p1).bind fun x1 =>
  cond x1
   (some (true, (⟨p0.q, (IntKind.wrap .i64 (p0.at_ + 1))⟩ : Af)))
   (some (false, p0))
def FP (p0 : Int) (p1 : List An) (rec10 : Int -> Option (Unit ⊕ Bool)) (a7 : Int) : Option (Unit ⊕ Bool) :=
  cond (decide (a7 < (p1.length : Int)))
   ((idx p1 a7).bind fun x13 =>
   cond (decide (p0 <= x13.hi))
    (some (.inr (decide (x13.lo <= p0))))
    (rec10 (IntKind.wrap .i64 (a7 + 1))))
   (some (.inl ()))
def FI (p0 : Int) (p1 : List An) : Option (Bool) :=
  letJ (fun _ : Unit =>
   some false) fun J6 =>
   (iter (FP p0 p1) FUEL 0).bind fun o =>
  match o with
  | .inl o1 => J6 o1
  | .inr o1 => some o1
def CC (p0 : Int) : Option (Bool) :=
  cond (decide (p0 < 128))
   (some ((((decide (97 <= p0)) && (decide (p0 <= 122))) || ((decide (65 <= p0)) && (decide (p0 <= 90)))) || (p0 == 95)))
   ((FI p0 ([(⟨192, 214⟩ : An), (⟨216, 246⟩ : An), (⟨248, 767⟩ : An), (⟨880, 893⟩ : An), (⟨895, 8191⟩ : An), (⟨8204, 8205⟩ : An), (⟨8304, 8591⟩ : An), (⟨11264, 12271⟩ : An), (⟨12289, 55295⟩ : An), (⟨63744, 64975⟩ : An), (⟨65008, 65533⟩ : An), (⟨65536, 983039⟩ : An)])).bind fun x7 =>
   some x7)
def CB (p0 : Int) : Option (Bool) :=
   (CC p0).bind fun x1 =>
   (letJ (fun v10 : Bool => some v10) fun J9 => cond ((((x1 || (p0 == 45)) || (p0 == 46)) || ((decide (48 <= p0)) && (decide (p0 <= 57)))) || (p0 == 183)) (J9 true) ((FI p0 ([(⟨768, 879⟩ : An), (⟨8255, 8256⟩ : An)])).bind fun x11 =>
    J9 x11))
def Bn (p0 : Af) (p1 : Int) : Option (Af ⊕ ((List By8) × Af)) :=
   (slc p0.q p0.at_ (p0.q.length : Int)).bind fun x1 =>
   (L_IndexByte x1 p1).bind fun x2 =>
  letJ (fun a6 : Int =>
    (slc p0.q a6 (IntKind.wrap .i64 (a6 + x2))).bind fun x11 =>
   some (.inr (x11, (⟨p0.q, (IntKind.wrap .i64 (a6 + (IntKind.wrap .i64 (x2 + 1))))⟩ : Af)))) fun J7 =>
  cond (decide (x2 < 0))
   ((Bd (⟨p0.q, (p0.q.length : Int)⟩ : Af)).bind fun x => pnc x (fun x10 =>
    some (.inl (⟨p0.q, (p0.q.length : Int)⟩ : Af))) fun x9 =>
   J7 (p0.q.length : Int))
   (J7 p0.at_)
def A3 (p0 : Af) (rec27 : (List By8) × Int -> Option (((List By8) × Int))) : (List By8) × Int -> Option (((List By8) × Int))
  | (a23, a24) =>
  cond (decide (a24 < (a23.length : Int)))
   ((slc a23 a24 (a23.length : Int)).bind fun x30 =>
    (L_DecodeRuneInString x30).bind fun x31 =>
    (letJ (fun v35 : Bool => (letJ (fun v39 : Bool => cond v39
        (some (a23, a24))
        (rec27 (a23, (IntKind.wrap .i64 (a24 + x31.2))))) fun J38 => cond v35 (J38 true) ((letJ (fun v42 : Bool => J38 v42) fun J41 => cond (a24 == p0.at_) ((CC x31.1).bind fun x43 =>
         J41 (!x43)) (J41 false))))) fun J34 => cond ((x31.1 == 65533) && (decide (x31.2 < 3))) (J34 true) ((CB x31.1).bind fun x36 =>
     J34 (!x36))))
   (some (a23, a24))
def AI (p0 : Af) : Option (Af ⊕ (Aa × Af)) :=
  letJ (fun v : (List By8) × Int => match v with
   | (a20, a21) =>
   letJ (fun _ : Unit =>
     (slc a20 p0.at_ a21).bind fun x52 =>
    letJ (fun v : (List By8) × (List By8) × Int => match v with
     | (a61, a62, a63) =>
     some (.inr ((⟨a61, (⟨[], x52⟩ : Aa).Local⟩ : Aa), (⟨a62, a63⟩ : Af)))) fun J64 =>
     (Av (⟨a20, a21⟩ : Af) 123).bind fun x65 =>
    cond x65.1
     ((Bn x65.2 125).bind fun x => pnc x (fun x68 =>
      some (.inl x68)) fun x67 =>
     cond (x67.1 == [])
      ((Bd (⟨x67.2.q, (IntKind.wrap .i64 (x67.2.at_ - 1))⟩ : Af)).bind fun x => pnc x (fun x71 =>
       some (.inl (⟨x67.2.q, (IntKind.wrap .i64 (x67.2.at_ - 1))⟩ : Af))) fun x70 =>
      J64 (x67.1, x67.2.q, (IntKind.wrap .i64 (x67.2.at_ - 1))))
      (J64 (x67.1, x67.2.q, x67.2.at_)))
     (J64 ((⟨[], x52⟩ : Aa).URI, x65.2.q, x65.2.at_))) fun J48 =>
   cond (a21 == p0.at_)
    ((Bd (⟨a20, a21⟩ : Af)).bind fun x => pnc x (fun x51 =>
     some (.inl (⟨a20, a21⟩ : Af))) fun x50 =>
    J48 ())
    (J48 ())) fun J22 =>
   (iter (A3 p0) FUEL (p0.q, p0.at_)).bind fun o =>
  J22 o
def A0 (p0 : Af) (p1 : Int) (p2 : Bool) (rec44 : (List By8) × Int × Int -> Option (((List By8) × Int × Int))) : (List By8) × Int × Int -> Option (((List By8) × Int × Int))
  | (a39, a40, a41) =>
  letJ (fun a54 : Bool =>
   cond a54
    (letJ (fun a70 : Bool =>
     cond a70
      (some (a39, a40, a41))
      ((idx a39 a40).bind fun x78 =>
      rec44 (a39, (IntKind.wrap .i64 (a40 + 1)), (IntKind.wrap .i64 ((IntKind.wrap .i64 (10 * a41)) + (IntKind.wrap .i64 (IntKind.wrap .u8 ((x78.toNat : Int) - 48)))))))) fun J71 =>
    cond (a40 == p0.at_)
     ((idx a39 a40).bind fun x74 =>
     cond ((x74.toNat : Int) == 48)
      (J71 (!p2))
      (J71 false))
     (J71 false))
    (some (a39, a40, a41))) fun J55 =>
  cond (decide (a40 < (a39.length : Int)))
   (cond (decide (a40 < (IntKind.wrap .i64 (p0.at_ + p1))))
    ((idx a39 a40).bind fun x60 =>
    cond (decide (48 <= (x60.toNat : Int)))
     ((idx a39 a40).bind fun x63 =>
     J55 (decide ((x63.toNat : Int) <= 57)))
     (J55 false))
    (J55 false))
   (J55 false)
def AN (p0 : Af) (p1 : Int) (p2 : Bool) : Option (Af ⊕ (Int × Af)) :=
  letJ (fun v : (List By8) × Int × Int => match v with
   | (a35, a36, a37) =>
   letJ (fun _ : Unit =>
    some (.inr (a37, (⟨a35, a36⟩ : Af)))) fun J82 =>
   cond (a36 == p0.at_)
    ((Bd (⟨a35, a36⟩ : Af)).bind fun x => pnc x (fun x85 =>
     some (.inl (⟨a35, a36⟩ : Af))) fun x84 =>
    J82 ())
    (J82 ())) fun J38 =>
   (iter (A0 p0 p1 p2) FUEL (p0.q, p0.at_, 0)).bind fun o =>
  J38 o
def Bh (p0 : Af) : Option (Af ⊕ (Nat × Af)) :=
   (Av p0 45).bind fun x1 =>
  cond x1.1
   ((AN x1.2 7 true).bind fun x => pnc x (fun x4 =>
    some (.inl x4)) fun x3 =>
   some (.inr ((X0 (i2f x3.1)), x3.2)))
   ((AN x1.2 7 true).bind fun x => pnc x (fun x6 =>
    some (.inl x6)) fun x5 =>
   some (.inr ((i2f x5.1), x5.2)))
def A1 (p0 : Af) : Option (Af ⊕ (Ad × Af)) :=
   (Av p0 64).bind fun x3 =>
  cond (!x3.1)
   ((AN x3.2 6 false).bind fun x => pnc x (fun x6 =>
    some (.inl x6)) fun x5 =>
    (Az x5.2 93).bind fun x => pnc x (fun x8 =>
    some (.inl x8)) fun x7 =>
   some (.inr ((⟨(⟨91, 0, (⟨[], []⟩ : Aa), [], ((0, 0) : Nat × Nat)⟩ : Ad).kind, x5.1, (⟨91, 0, (⟨[], []⟩ : Aa), [], ((0, 0) : Nat × Nat)⟩ : Ad).name, (⟨91, 0, (⟨[], []⟩ : Aa), [], ((0, 0) : Nat × Nat)⟩ : Ad).value, (⟨91, 0, (⟨[], []⟩ : Aa), [], ((0, 0) : Nat × Nat)⟩ : Ad).spot⟩ : Ad), x7)))
   ((AI x3.2).bind fun x => pnc x (fun x10 =>
    some (.inl x10)) fun x9 =>
   letJ (fun v : (List By8) × Int × Int × (List By8) × (Nat × Nat) => match v with
    | (a25, a26, a27, a28, a29) =>
     (Az (⟨a25, a26⟩ : Af) 93).bind fun x => pnc x (fun x46 =>
     some (.inl x46)) fun x45 =>
    some (.inr ((⟨a27, (⟨91, 0, (⟨[], []⟩ : Aa), [], ((0, 0) : Nat × Nat)⟩ : Ad).k, x9.1, a28, a29⟩ : Ad), x45))) fun J30 =>
    (Av x9.2 61).bind fun x31 =>
   cond x31.1
    ((Az x31.2 39).bind fun x => pnc x (fun x34 =>
     some (.inl x34)) fun x33 =>
     (Bn x33 39).bind fun x => pnc x (fun x36 =>
     some (.inl x36)) fun x35 =>
    J30 (x35.2.q, x35.2.at_, 61, x35.1, (⟨91, 0, (⟨[], []⟩ : Aa), [], ((0, 0) : Nat × Nat)⟩ : Ad).spot))
    ((Av x31.2 126).bind fun x37 =>
    cond x37.1
     ((Bh x37.2).bind fun x => pnc x (fun x40 =>
      some (.inl x40)) fun x39 =>
      (Az x39.2 44).bind fun x => pnc x (fun x42 =>
      some (.inl x42)) fun x41 =>
      (Bh x41).bind fun x => pnc x (fun x44 =>
      some (.inl x44)) fun x43 =>
     J30 (x43.2.q, x43.2.at_, 126, (⟨91, 0, (⟨[], []⟩ : Aa), [], ((0, 0) : Nat × Nat)⟩ : Ad).value, ((x39.1, x43.1) : Nat × Nat)))
     (J30 (x37.2.q, x37.2.at_, 64, (⟨91, 0, (⟨[], []⟩ : Aa), [], ((0, 0) : Nat × Nat)⟩ : Ad).value, (⟨91, 0, (⟨[], []⟩ : Aa), [], ((0, 0) : Nat × Nat)⟩ : Ad).spot))))
def AO (rec130 : (List By8) × Int × Bool × Bool × (List By8) × (List By8) × (List By8) × (List Ad) -> Option ((Bool × Bool × (List By8) × (List By8) × (List By8) × (List Ad) × (List By8) × Int) ⊕ (Af ⊕ (Ag × Af)))) : (List By8) × Int × Bool × Bool × (List By8) × (List By8) × (List By8) × (List Ad) -> Option ((Bool × Bool × (List By8) × (List By8) × (List By8) × (List Ad) × (List By8) × Int) ⊕ (Af ⊕ (Ag × Af)))
  | (a119, a120, a121, a122, a123, a124, a125, a126) =>
   (Av (⟨a119, a120⟩ : Af) 91).bind fun x132 =>
  cond x132.1
   ((A1 x132.2).bind fun x => pnc x (fun x135 =>
    some (.inr (.inl x135))) fun x134 =>
    (app 80 a126 [x134.1]).bind fun _ =>
   rec130 (x134.2.q, x134.2.at_, a121, a122, a123, a124, a125, (a126 ++ [x134.1])))
   (some (.inl (a121, a122, a123, a124, a125, a126, x132.2.q, x132.2.at_)))
def Ay (p0 : Af) : Option (Af ⊕ (Ag × Af)) :=
   (Az p0 47).bind fun x => pnc x (fun x5 =>
   some (.inl x5)) fun x4 =>
   (Av x4 47).bind fun x6 =>
  letJ (fun v : (List By8) × Int × Bool => match v with
   | (a10, a11, a12) =>
   cond a12
    (letJ (fun v : (List By8) × (List By8) × (List By8) × (List By8) × Int => match v with
     | (a22, a23, a24, a25, a26) =>
     some (.inr ((⟨x6.1, true, a22, (⟨a23, a24⟩ : Aa), []⟩ : Ag), (⟨a25, a26⟩ : Af)))) fun J27 =>
     (Av (⟨a10, a11⟩ : Af) 42).bind fun x28 =>
    cond x28.1
     (J27 ([42], [], [], x28.2.q, x28.2.at_))
     ((AI x28.2).bind fun x => pnc x (fun x31 =>
      some (.inl x31)) fun x30 =>
     J27 ([], x30.1.URI, x30.1.Local, x30.2.q, x30.2.at_)))
    (letJ (fun v : (List By8) × Int × (List By8) × (List By8) × (List By8) => match v with
     | (a51, a52, a53, a54, a55) =>
     letJ (fun v : Bool × Bool × (List By8) × (List By8) × (List By8) × (List Ad) × (List By8) × Int => match v with
      | (a109, a110, a111, a112, a113, a114, a116, a117) =>
      some (.inr ((⟨a109, a110, a111, (⟨a112, a113⟩ : Aa), a114⟩ : Ag), (⟨a116, a117⟩ : Af)))) fun J118 =>
      (iter (AO) FUEL (a51, a52, x6.1, false, a53, a54, a55, [])).bind fun o =>
     match o with
     | .inl o1 => J118 o1
     | .inr o1 => some o1) fun J56 =>
     (Av (⟨a10, a11⟩ : Af) 42).bind fun x57 =>
    cond x57.1
     (J56 (x57.2.q, x57.2.at_, [42], [], []))
     ((AI x57.2).bind fun x => pnc x (fun x60 =>
      some (.inl x60)) fun x59 =>
      (letJ (fun v64 : Bool => cond (v64 && (((x59.1.Local == [116, 101, 120, 116]) || (x59.1.Local == [99, 111, 109, 109, 101, 110, 116])) || (x59.1.Local == [110, 111, 100, 101])))
        ((Az x59.2 40).bind fun x => pnc x (fun x73 =>
         some (.inl x73)) fun x72 =>
         (Az x72 41).bind fun x => pnc x (fun x75 =>
         some (.inl x75)) fun x74 =>
        J56 (x74.q, x74.at_, x59.1.Local, x59.1.URI, x59.1.Local))
        (J56 (x59.2.q, x59.2.at_, [], x59.1.URI, x59.1.Local))) fun J63 => cond ((x59.1.URI == (⟨[], x59.1.Local⟩ : Aa).URI) && ((x59.1.Local == (⟨[], x59.1.Local⟩ : Aa).Local) && true)) ((AX x59.2 40).bind fun x65 =>
       J63 x65) (J63 false))))) fun J13 =>
  cond (!x6.1)
   ((Av x6.2 64).bind fun x16 =>
   J13 (x16.2.q, x16.2.at_, x16.1))
   (J13 (x6.2.q, x6.2.at_, false))
def Da (p0 : Aj) (p1 : Ad) : Option (Bool) :=
  some ((p0.Name.URI == p1.name.URI) && ((p0.Name.Local == p1.name.Local) && true))
def Aw (p0 : List Aj) (p1 : Aj -> Option Bool) (rec10 : Int -> Option (Unit ⊕ Int)) (a7 : Int) : Option (Unit ⊕ Int) :=
  cond (decide (a7 < (p0.length : Int)))
   ((idx p0 a7).bind fun x13 =>
    (p1 x13).bind fun x14 =>
   cond x14
    (some (.inr a7))
    (rec10 (IntKind.wrap .i64 (a7 + 1))))
   (some (.inl ()))
def Ax (p0 : List Aj) (p1 : Aj -> Option Bool) : Option (Int) :=
  letJ (fun _ : Unit =>
   some (-1 : Int)) fun J6 =>
   (iter (Aw p0 p1) FUEL 0).bind fun o =>
  match o with
  | .inl o1 => J6 o1
  | .inr o1 => some o1
def Ct (p0 : AA) (rec13 : Int -> Option (Int)) (a10 : Int) : Option (Int) :=
   (letJ (fun v17 : Bool => cond v17
     (rec13 (IntKind.wrap .i64 (a10 + 1)))
     (some a10)) fun J16 => cond (decide (a10 < (p0.s.length : Int))) ((idx p0.s a10).bind fun x18 =>
     (L_IndexByte [32, 44, 9, 10, 13] (x18.toNat : Int)).bind fun x19 =>
    J16 (decide (0 <= x19))) (J16 false))
def BX (p0 : AA) (rec54 : Int -> Option (Int)) (a51 : Int) : Option (Int) :=
   (letJ (fun v58 : Bool => (letJ (fun v62 : Bool => cond v62
       (rec54 (IntKind.wrap .i64 (a51 + 1)))
       (some a51)) fun J61 => cond v58 ((idx p0.s a51).bind fun x63 =>
      J61 (decide ((x63.toNat : Int) <= 57))) (J61 false))) fun J57 => cond (decide (a51 < (p0.s.length : Int))) ((idx p0.s a51).bind fun x59 =>
    J57 (decide (48 <= (x59.toNat : Int)))) (J57 false))
def Cx (p0 : AA) : Option (Int × Int × Int) :=
  letJ (fun a8 : Int =>
   cond (a8 == (p0.s.length : Int))
    (some (0, a8, a8))
    ((idx p0.s a8).bind fun x22 =>
     (L_IndexByte [77, 109, 76, 108, 72, 104, 86, 118, 90, 122] (x22.toNat : Int)).bind fun x23 =>
    cond (decide (0 <= x23))
     (some (1, a8, (IntKind.wrap .i64 (a8 + 1))))
     (letJ (fun a31 : Int =>
      letJ (fun a49 : Int =>
       cond ((a49 == a31) || (decide ((IntKind.wrap .i64 (a31 + 7)) < a49)))
        (some (3, a8, a8))
        (some (2, a8, a49))) fun J50 =>
       (iter (BX p0) FUEL a31).bind fun o =>
      J50 o) fun J32 =>
      (idx p0.s a8).bind fun x33 =>
      (letJ (fun v36 : Bool => cond v36
        (J32 (IntKind.wrap .i64 (a8 + 1)))
        (J32 a8)) fun J35 => cond ((x33.toNat : Int) == 45) (J35 true) ((idx p0.s a8).bind fun x37 =>
       J35 ((x37.toNat : Int) == 43)))))) fun J9 =>
   (iter (Ct p0) FUEL p0.at_).bind fun o =>
  J9 o
def B8 (p0 : AA) : Option ((Nat × Int × Bool) × AA) :=
   (Cx p0).bind fun x1 =>
  cond (x1.1 != 2)
   (some (((0 : Nat), x1.2.1, false), p0))
   ((slc p0.s x1.2.1 x1.2.2).bind fun x3 =>
    (L_Atoi x3).bind fun x4 =>
   some (((i2f x4.1), x1.2.1, true), (⟨p0.s, x1.2.2, p0.f, p0.pen, p0.n, p0.open_⟩ : AA)))
def B5 (p0 : AA) (p1 : Int) : Option (((Nat × Nat) × Int × Bool) × AA) :=
   (B8 p0).bind fun x1 =>
  cond (!x1.1.2.2)
   (some ((((0, 0) : Nat × Nat), x1.1.2.1, false), x1.2))
   (cond (p1 == 72)
    (some ((((x1.1.1, x1.2.pen.2) : Nat × Nat), x1.1.2.1, true), x1.2))
    (cond (p1 == 86)
     (some ((((x1.2.pen.1, x1.1.1) : Nat × Nat), x1.1.2.1, true), x1.2))
     (cond (p1 == 118)
      ((Vd x1.2.pen (((0 : Nat), x1.1.1) : Nat × Nat)).bind fun x8 =>
      some ((x8, x1.1.2.1, true), x1.2))
      (cond (p1 == 104)
       ((Vd x1.2.pen ((x1.1.1, (0 : Nat)) : Nat × Nat)).bind fun x10 =>
       some ((x10, x1.1.2.1, true), x1.2))
       ((B8 x1.2).bind fun x11 =>
       cond (!x11.1.2.2)
        (some ((((0, 0) : Nat × Nat), (IntKind.wrap .i64 ((-1 : Int) - x11.1.2.1)), false), x11.2))
        ((Vd ((x1.1.1, (0 : Nat)) : Nat × Nat) (((0 : Nat), x11.1.1) : Nat × Nat)).bind fun x15 =>
        letJ (fun a19 : Nat × Nat =>
         some ((a19, x11.1.2.1, true), x11.2)) fun J20 =>
        cond ((p1 == 109) || (p1 == 108))
         ((Vd x15 x11.2.pen).bind fun x23 =>
         J20 x23)
         (J20 x15)))))))
def FJ (p0 : Nat) : Option (Nat) :=
   (L_archTrunc p0).bind fun x1 =>
  some x1
def Hd (p0 : Nat) : Option (Nat) :=
   (L_bits p0).bind fun x1 =>
   (L_frombits (Ti .u64 x1 9223372036854775808)).bind fun x2 =>
  some x2
def ET (p0 : Nat) : Option (Bool) :=
   (FJ p0).bind fun x1 =>
   (letJ (fun v4 : Bool => some v4) fun J3 => cond (feq p0 x1) ((Hd p0).bind fun x5 =>
    J3 (fle x5 (4696837146684686336 : Nat))) (J3 false))
def Dk (p0 : Nat × Nat) : Option (Bool) :=
   (ET p0.1).bind fun x1 =>
   (letJ (fun v4 : Bool => some v4) fun J3 => cond x1 ((ET p0.2).bind fun x5 =>
    J3 x5) (J3 false))
def Bk (p1 : Int) (rec12 : (List By8) × Int × (List Am) × (Nat × Nat) × Int × Bool × Bool -> Option (((Int × Int) × AA))) : (List By8) × Int × (List Am) × (Nat × Nat) × Int × Bool × Bool -> Option (((Int × Int) × AA))
  | (a1, a2, a4, a6, a7, a8, a9) =>
   (B5 (⟨a1, a2, a4, a6, a7, a8⟩ : AA) p1).bind fun x14 =>
  cond ((!x14.1.2.2) && (a9 || (decide (x14.1.2.1 < 0))))
   (some (((if (IntKind.wrap .i64 ((-1 : Int) - x14.1.2.1)) > x14.1.2.1 then (IntKind.wrap .i64 ((-1 : Int) - x14.1.2.1)) else x14.1.2.1), 37), x14.2))
   (cond (!x14.1.2.2)
    (some ((0, 0), x14.2))
    ((Dk x14.1.1).bind fun x22 =>
     (letJ (fun v25 : Bool => cond v25
       (some ((x14.1.2.1, 5), x14.2))
       (letJ (fun v : (List Am) × Bool => match v with
        | (a35, a37) =>
         (lst a35 (IntKind.wrap .i64 ((a35.length : Int) - 1))).bind fun x46 =>
         (app 16 x46.Spots [x14.1.1]).bind fun _ =>
         (some (List.set a35 (Int.toNat (IntKind.wrap .i64 ((a35.length : Int) - 1))) (⟨(x46.Spots ++ [x14.1.1]), x46.Closed⟩ : Am))).bind fun a48 =>
        rec12 (x14.2.s, x14.2.at_, a48, x14.1.1, (IntKind.wrap .i64 (x14.2.n + 1)), a37, false)) fun J38 =>
       cond (a9 && ((p1 == 77) || (p1 == 109)))
        ((app 32 x14.2.f [(⟨[], false⟩ : Am)]).bind fun _ =>
         (some (x14.2.f ++ [(⟨[], false⟩ : Am)])).bind fun a45 =>
        J38 (a45, true))
        (J38 (x14.2.f, x14.2.open_)))) fun J24 => cond (!x22) (J24 true) (J24 (x14.2.n == 500)))))
def BT (p0 : AA) (p1 : Int) : Option ((Int × Int) × AA) :=
   (iter (Bk p1) FUEL (p0.s, p0.at_, p0.f, p0.pen, p0.n, p0.open_, true)).bind fun o =>
  some o
def CK (p0 : List By8) (rec14 : (List By8) × Int × (List Am) × (Nat × Nat) × Int × Bool -> Option (((List Am) × Int × Int))) : (List By8) × Int × (List Am) × (Nat × Nat) × Int × Bool -> Option (((List Am) × Int × Int))
  | (a4, a5, a7, a9, a10, a11) =>
   (Cx (⟨a4, a5, a7, a9, a10, a11⟩ : AA)).bind fun x16 =>
  cond (x16.1 == 0)
   (some (a7, 0, 0))
   (cond (x16.1 != 1)
    (some ([], x16.2.1, 37))
    ((idx p0 x16.2.1).bind fun x20 =>
     (letJ (fun v24 : Bool => cond v24
       (some ([], x16.2.1, 37))
       (cond (((x20.toNat : Int) == 90) || ((x20.toNat : Int) == 122))
        ((lst a7 (IntKind.wrap .i64 ((a7.length : Int) - 1))).bind fun x28 =>
         (idx x28.Spots 0).bind fun x29 =>
         (some (List.set a7 (Int.toNat (IntKind.wrap .i64 ((a7.length : Int) - 1))) (⟨x28.Spots, true⟩ : Am))).bind fun a30 =>
        rec14 (a4, x16.2.2, a30, x29, a10, false))
        ((BT (⟨a4, x16.2.2, a7, a9, a10, a11⟩ : AA) (x20.toNat : Int)).bind fun x31 =>
        cond (x31.1.2 != 0)
         (some ([], x31.1.1, x31.1.2))
         (rec14 (x31.2.s, x31.2.at_, x31.2.f, x31.2.pen, x31.2.n, x31.2.open_))))) fun J23 => cond (((x20.toNat : Int) != 77) && ((x20.toNat : Int) != 109)) (J23 (!a11)) (J23 false))))
def EM (p0 : List By8) : Option ((List Am) × Int × Int) :=
   (iter (CK p0) FUEL (p0, 0, [], ((0, 0) : Nat × Nat), 0, false)).bind fun o =>
  some o
def A2 (p0 : List (Nat × Nat)) (p1 : (Nat × Nat) -> Option Bool) (rec10 : Int -> Option (Unit ⊕ Int)) (a7 : Int) : Option (Unit ⊕ Int) :=
  cond (decide (a7 < (p0.length : Int)))
   ((idx p0 a7).bind fun x13 =>
    (p1 x13).bind fun x14 =>
   cond x14
    (some (.inr a7))
    (rec10 (IntKind.wrap .i64 (a7 + 1))))
   (some (.inl ()))
def AQ (p0 : List (Nat × Nat)) (p1 : (Nat × Nat) -> Option Bool) : Option (Int) :=
  letJ (fun _ : Unit =>
   some (-1 : Int)) fun J6 =>
   (iter (A2 p0 p1) FUEL 0).bind fun o =>
  match o with
  | .inl o1 => J6 o1
  | .inr o1 => some o1
def AD (p0 : List (Nat × Nat)) (p1 : (Nat × Nat) -> Option Bool) : Option (Bool) :=
   (AQ p0 p1).bind fun x1 =>
  some (decide (0 <= x1))
def DA (p0 : Nat × Nat) : Option (Bool) :=
   (Dk p0).bind fun x1 =>
  some (!x1)
def DO (p0 : List Am) (rec17 : Int × Int -> Option (Int ⊕ Bool)) : Int × Int -> Option (Int ⊕ Bool)
  | (a13, a14) =>
  cond (decide (a14 < (p0.length : Int)))
   ((idx p0 a14).bind fun x20 =>
    (letJ (fun v24 : Bool => cond v24
      (some (.inr false))
      (rec17 ((IntKind.wrap .i64 (a13 + (x20.Spots.length : Int))), (IntKind.wrap .i64 (a14 + 1))))) fun J23 => cond ((x20.Spots.length : Int) == 0) (J23 true) ((AD x20.Spots DA).bind fun x25 =>
     J23 x25)))
   (some (.inl a13))
def EW (p0 : List Am) : Option (Bool) :=
  letJ (fun a11 : Int =>
   some (decide (a11 <= 500))) fun J12 =>
   (iter (DO p0) FUEL (0, 0)).bind fun o =>
  match o with
  | .inl o1 => J12 o1
  | .inr o1 => some o1
def E7 (p0 : Nat × Nat) (p1 : Nat × Nat) : Option (Nat) :=
   (Ade ((p0.1, (X0 p0.2)) : Nat × Nat) p1).bind fun x1 =>
  some x1.2
def Bv (p1 : Nat × Nat) (x166 : Am) (rec172 : Int × Int -> Option (Int ⊕ (Int × Bool × Int))) : Int × Int -> Option (Int ⊕ (Int × Bool × Int))
  | (a168, a169) =>
  cond (decide (a169 < (x166.Spots.length : Int)))
   (letJ (fun a196 : Int =>
    rec172 (a196, (IntKind.wrap .i64 (a169 + 1)))) fun J197 =>
    (idx x166.Spots a169).bind fun x198 =>
   cond (!x166.Closed)
    (some (.inl a168))
    ((Xh x198 p1).bind fun x200 =>
     (nzI (x166.Spots.length : Int)).bind fun _ =>
     (idx x166.Spots (Int.tmod (IntKind.wrap .i64 (a169 + 1)) (x166.Spots.length : Int))).bind fun x201 =>
     (Xh x201 p1).bind fun x202 =>
     (E7 x200 x202).bind fun x203 =>
     (letJ (fun v206 : Bool => (letJ (fun v210 : Bool => cond v210
         (some (.inr (0, true, 0)))
         (cond (((fle x200.2 (0 : Nat)) && (fgt x202.2 (0 : Nat))) && (fgt x203 (0 : Nat)))
          (J197 (IntKind.wrap .i64 (a168 + 1)))
          (cond (((fgt x200.2 (0 : Nat)) && (fle x202.2 (0 : Nat))) && (flt x203 (0 : Nat)))
           (J197 (IntKind.wrap .i64 (a168 - 1)))
           (J197 a168)))) fun J209 => cond v206 ((Ow x200.2 x202.2).bind fun x211 =>
        J209 (fle x211 (0 : Nat))) (J209 false))) fun J205 => cond (feq x203 (0 : Nat)) ((Ow x200.1 x202.1).bind fun x207 =>
      J205 (fle x207 (0 : Nat))) (J205 false))))
   (some (.inl a168))
def CZ (p0 : List Am) (p1 : Nat × Nat) (rec113 : Int × Int -> Option (Int ⊕ (Int × Bool × Int))) : Int × Int -> Option (Int ⊕ (Int × Bool × Int))
  | (a109, a110) =>
  cond (decide (a110 < (p0.length : Int)))
   (letJ (fun a164 : Int =>
    rec113 (a164, (IntKind.wrap .i64 (a110 + 1)))) fun J165 =>
    (idx p0 a110).bind fun x166 =>
    (iter (Bv p1 x166) FUEL (a109, 0)).bind fun o =>
   match o with
   | .inl o1 => J165 o1
   | .inr o1 => some (.inr o1))
   (some (.inl a109))
def Dp (p0 : List Am) (p1 : Nat × Nat) : Option (Int × Bool × Int) :=
   (EW p0).bind fun x1 =>
   (letJ (fun v4 : Bool => cond v4
     (some (0, false, 1))
     (letJ (fun a107 : Int =>
      some (a107, false, 0)) fun J108 =>
      (iter (CZ p0 p1) FUEL (0, 0)).bind fun o =>
     match o with
     | .inl o1 => J108 o1
     | .inr o1 => some o1)) fun J3 => cond (!x1) (J3 true) ((Dk p1).bind fun x5 =>
    J3 (!x5)))
def B6 (p0 : Ad) (p1 : Ab) : Option (Bool) :=
   (Ax p1.Attrs (fun z0 => Da z0 p0)).bind fun x1 =>
  cond ((decide (x1 < 0)) || (p1.Kind != 2))
   (some false)
   ((idx p1.Attrs x1).bind fun x4 =>
   cond (p0.kind == 61)
    (some (x4.Value == p0.value))
    (cond (p0.kind == 126)
     ((EM x4.Value).bind fun x7 =>
      (Dp x7.1 p0.spot).bind fun x8 =>
     some (((x7.2.2 == 0) && (x8.2.2 == 0)) && (x8.2.1 || (x8.1 != 0))))
     (some true)))
def Dg (p0 : Ah) (p1 : Ad) : Option (Bool) :=
   (B6 p1 p0.node).bind fun x1 =>
  some (!x1)
def Cl (p0 : Ag) (p1 : Ab) : Option (Bool) :=
  cond (p0.test == [42])
   (some (p1.Kind == 2))
   (cond (p0.test == [116, 101, 120, 116])
    (some (p1.Kind == 3))
    (cond (p0.test == [99, 111, 109, 109, 101, 110, 116])
     (some (p1.Kind == 4))
     (cond (p0.test == [110, 111, 100, 101])
      (some true)
      (some ((p1.Kind == 2) && ((p1.Name.URI == p0.name.URI) && ((p1.Name.Local == p0.name.Local) && true)))))))
def A6 (p0 : List Ah) (p1 : Ah -> Option Bool) (rec10 : Int -> Option (Unit ⊕ Int)) (a7 : Int) : Option (Unit ⊕ Int) :=
  cond (decide (a7 < (p0.length : Int)))
   ((idx p0 a7).bind fun x13 =>
    (p1 x13).bind fun x14 =>
   cond x14
    (some (.inr a7))
    (rec10 (IntKind.wrap .i64 (a7 + 1))))
   (some (.inl ()))
def AV (p0 : List Ah) (p1 : Ah -> Option Bool) : Option (Int) :=
  letJ (fun _ : Unit =>
   some (-1 : Int)) fun J6 =>
   (iter (A6 p0 p1) FUEL 0).bind fun o =>
  match o with
  | .inl o1 => J6 o1
  | .inr o1 => some o1
def A4 (p1 : Ah -> Option Bool) (rec33 : (List Ah) × Int × Int -> Option (((List Ah) × Int))) : (List Ah) × Int × Int -> Option (((List Ah) × Int))
  | (a27, a29, a30) =>
  cond (decide (a30 < (a27.length : Int)))
   (letJ (fun v : (List Ah) × Int => match v with
    | (a42, a44) =>
    rec33 (a42, a44, (IntKind.wrap .i64 (a30 + 1)))) fun J45 =>
    (idx a27 a30).bind fun x46 =>
    (p1 x46).bind fun x48 =>
   cond (!x48)
    ((idx a27 a29).bind fun x50 =>
     (some (List.set a27 (Int.toNat a29) x46)).bind fun a51 =>
    J45 (a51, (IntKind.wrap .i64 (a29 + 1))))
    (J45 (a27, a29)))
   (some (a27, a29))
def Ba (p0 : List Ah) (p1 : Ah -> Option Bool) : Option (List Ah) :=
   (AV p0 p1).bind fun x1 =>
  cond (x1 == (-1 : Int))
   (some p0)
   (letJ (fun v : (List Ah) × Int => match v with
    | (a23, a25) =>
     (slc a23 a25 (a23.length : Int)).bind fun x52 =>
     (ltL a25 (List.length a23)).bind fun _ =>
    some (List.take (Int.toNat a25) a23)) fun J26 =>
    (iter (A4 p1) FUEL (p0, x1, (IntKind.wrap .i64 (x1 + 1)))).bind fun o =>
   J26 o)
def Ii : List Int -> List Int -> Int
  | [], [] => 0
  | [], _ :: _ => -1
  | _ :: _, [] => 1
  | x :: a, y :: b => if x < y then -1 else if y < x then 1 else Ii a b
def IV (a : Ah) : Bool := decide (a.path.length <= 4611686018427387904)
def Fq (a b : Ah) : Int := Ii a.path b.path
def AH (p0 : List By8) (rec48 : (List Ag) × (List By8) × Int -> Option (((List Ag)) ⊕ (Int ⊕ ((List Ag) × Int × Int)))) : (List Ag) × (List By8) × Int -> Option (((List Ag)) ⊕ (Int ⊕ ((List Ag) × Int × Int)))
  | (a42, a44, a45) =>
   (letJ (fun v52 : Bool => cond v52
     (letJ (fun _ : Unit =>
       (Ay (⟨a44, a45⟩ : Af)).bind fun x => pnc x (fun x70 =>
       some (.inr (.inl x70.at_))) fun x69 =>
       (app 80 a42 [x69.1]).bind fun _ =>
      rec48 ((a42 ++ [x69.1]), x69.2.q, x69.2.at_)) fun J61 =>
      (letJ (fun v64 : Bool => cond v64
        ((Bd (⟨a44, a45⟩ : Af)).bind fun x => pnc x (fun x68 =>
         some (.inr (.inl a45))) fun x67 =>
        J61 ())
        (J61 ())) fun J63 => cond (decide (0 < (a42.length : Int))) ((idx a42 (IntKind.wrap .i64 ((a42.length : Int) - 1))).bind fun x65 =>
       J63 x65.attr) (J63 false)))
     (some (.inl a42))) fun J51 => cond ((a42.length : Int) == 0) (J51 true) (J51 (decide (a45 < (p0.length : Int)))))
def EY (p0 : List By8) : Option (Int ⊕ ((List Ag) × Int × Int)) :=
  letJ (fun a39 : List Ag =>
   cond (decide (20 < (a39.length : Int)))
    (some (.inr ([], 0, 5)))
    (some (.inr (a39, 0, 0)))) fun J41 =>
   (iter (AH p0) FUEL ([], (⟨p0, 0⟩ : Af).q, (⟨p0, 0⟩ : Af).at_)).bind fun o =>
  match o with
  | .inl o1 => J41 o1
  | .inr o1 => some o1
def rdO : Int ⊕ ((List Ag) × Int × Int) -> (List Ag) × Int × Int
  | .inl a => ([], a, 36)
  | .inr r => r
def C3 (p0 : List By8) : Option ((List Ag) × Int × Int) := (EY p0).bind fun x => some (rdO x)
def Dz (p0 : Ag) (p1 : Ah) (rec40 : (List Ah) × Int -> Option (((List Ah)))) : (List Ah) × Int -> Option (((List Ah)))
  | (a36, a37) =>
  cond (decide (a37 < (p1.node.Kids.length : Int)))
   (letJ (fun a56 : List Ah =>
    rec40 (a56, (IntKind.wrap .i64 (a37 + 1)))) fun J57 =>
    (idx p1.node.Kids a37).bind fun x58 =>
    (Cl p0 x58).bind fun x60 =>
   cond x60
    ((app 8 [] p1.path).bind fun x64 =>
     (app 8 x64 [a37]).bind fun _ =>
     (app 128 a36 [(⟨(x64 ++ [a37]), x58⟩ : Ah)]).bind fun _ =>
     (some (a36 ++ [(⟨(x64 ++ [a37]), x58⟩ : Ah)])).bind fun a69 =>
    J57 a69)
    (J57 a36))
   (some a36)
def Dx (p0 : Ag) (rec102 : (List Ah) × Int -> Option (((List Ah)) ⊕ ((List Ah)))) : (List Ah) × Int -> Option (((List Ah)) ⊕ ((List Ah)))
  | (a98, a99) =>
  cond (decide (a99 < (p0.conds.length : Int)))
   (letJ (fun a115 : List Ah =>
    rec102 (a115, (IntKind.wrap .i64 (a99 + 1)))) fun J116 =>
    (idx p0.conds a99).bind fun x117 =>
   cond (x117.kind != 91)
    ((Ba a98 (fun z0 => Dg z0 x117)).bind fun x122 =>
    J116 x122)
    (cond (decide ((a98.length : Int) < x117.k))
     (some (.inr []))
     ((Ad7 a98 (IntKind.wrap .i64 (x117.k - 1)) x117.k).bind fun x125 =>
     J116 x125)))
   (some (.inl a98))
def CX (p0 : Ag) (p1 : Ah) : Option ((List Ah)) :=
  letJ (fun a33 : List Ah =>
   letJ (fun a95 : List Ah =>
    some a95) fun J96 =>
    (iter (Dx p0) FUEL (a33, 0)).bind fun o =>
   match o with
   | .inl o1 => J96 o1
   | .inr o1 => some o1) fun J34 =>
   (iter (Dz p0 p1) FUEL ([], 0)).bind fun o =>
  J34 o
def Di : Option (Ab) :=
   (idx [(⟨2, (⟨[], [98]⟩ : Aa), [], [], []⟩ : Ab), (⟨2, (⟨[], [98]⟩ : Aa), [], [], []⟩ : Ab)] 0).bind fun x8 =>
   (some (List.set ([(⟨2, (⟨[], [98]⟩ : Aa), [], [], []⟩ : Ab), (⟨2, (⟨[], [98]⟩ : Aa), [], [], []⟩ : Ab)]) (Int.toNat 0) (⟨x8.Kind, x8.Name, [(⟨(⟨[], [120]⟩ : Aa), [49]⟩ : Aj)], x8.Kids, x8.Text⟩ : Ab))).bind fun a9 =>
   (idx a9 1).bind fun x10 =>
   (some (List.set a9 (Int.toNat 1) (⟨x10.Kind, x10.Name, [(⟨(⟨[], [100]⟩ : Aa), [77, 48, 32, 48, 32, 52, 32, 48, 32, 52, 32, 52, 90]⟩ : Aj)], x10.Kids, x10.Text⟩ : Ab))).bind fun a11 =>
  some (⟨1, (⟨[], []⟩ : Aa), [], [(⟨2, (⟨[], [97]⟩ : Aa), [], a11, []⟩ : Ab)], []⟩ : Ab)
def EG (p0 : Ab) (rec0 : Ab × (List Ab) -> Option ((List Ab))) (rec19 : (List Ab) × Int -> Option (((List Ab)))) : (List Ab) × Int -> Option (((List Ab)))
  | (a14, a16) =>
  cond (decide (a16 < (p0.Kids.length : Int)))
   ((idx p0.Kids a16).bind fun x22 =>
    (rec0 (x22, a14)).bind fun x24 =>
   rec19 (x24, (IntKind.wrap .i64 (a16 + 1))))
   (some a14)
def CA (rec0 : Ab × (List Ab) -> Option ((List Ab))) : Ab × (List Ab) -> Option ((List Ab))
  | (p0, p1) =>
   (app 104 p1 [p0]).bind fun _ =>
  letJ (fun a11 : List Ab =>
   some a11) fun J13 =>
   (iter (EG p0 rec0) FUEL ((p1 ++ [p0]), 0)).bind fun o =>
  J13 o
def FA (p0 : Ab) (p1 : List Ab) : Option ((List Ab)) := iter CA FUEL (p0, p1)
def A9 (p0 : List Ab) (p1 : Ab -> Option Bool) (rec10 : Int -> Option (Unit ⊕ Int)) (a7 : Int) : Option (Unit ⊕ Int) :=
  cond (decide (a7 < (p0.length : Int)))
   ((idx p0 a7).bind fun x13 =>
    (p1 x13).bind fun x14 =>
   cond x14
    (some (.inr a7))
    (rec10 (IntKind.wrap .i64 (a7 + 1))))
   (some (.inl ()))
def A5 (p0 : List Ab) (p1 : Ab -> Option Bool) : Option (Int) :=
  letJ (fun _ : Unit =>
   some (-1 : Int)) fun J6 =>
   (iter (A9 p0 p1) FUEL 0).bind fun o =>
  match o with
  | .inl o1 => J6 o1
  | .inr o1 => some o1
def Ao (p0 : List Ab) (p1 : Ab -> Option Bool) : Option (Bool) :=
   (A5 p0 p1).bind fun x1 =>
  some (decide (0 <= x1))
def He (p0 : Int) (p1 : Int) : Option (Bool) :=
  cond (p0 == 1)
   (some (((p1 == 2) || (p1 == 4)) || (p1 == 5)))
   (cond (p0 == 2)
    (some ((decide (2 <= p1)) && (decide (p1 <= 5))))
    (some false))
def DF (p0 : Ab) (p1 : Ab) : Option (Bool) :=
   (He p1.Kind p0.Kind).bind fun x1 =>
  some (!x1)
def EP (p0 : Ab) : Option (Bool) :=
  letJ (fun a9 : Bool =>
    (letJ (fun v20 : Bool => some v20) fun J19 => cond a9 (J19 true) ((Ao p0.Kids (fun z0 => DF z0 p0)).bind fun x21 =>
     J19 x21))) fun J10 =>
  cond (p0.Kind == 1)
   (J10 ((((p0.Kind != 2) && (decide (0 < (p0.Attrs.length : Int)))) || (!((p0.Name.URI == (⟨[], []⟩ : Aa).URI) && ((p0.Name.Local == (⟨[], []⟩ : Aa).Local) && true)))) || (!(p0.Text == []))))
   (cond (p0.Kind == 2)
    (J10 (!(p0.Text == [])))
    (cond (p0.Kind == 5)
     (J10 (((p0.Kind != 2) && (decide (0 < (p0.Attrs.length : Int)))) || (!(p0.Name.URI == []))))
     (J10 (((p0.Kind != 2) && (decide (0 < (p0.Attrs.length : Int)))) || (!((p0.Name.URI == (⟨[], []⟩ : Aa).URI) && ((p0.Name.Local == (⟨[], []⟩ : Aa).Local) && true)))))))
def EX (rec0 : Ab × Int -> Option Bool) (p0 : Ab) (p1 : Int) : Option (Bool) :=
   (rec0 (p0, p1)).bind fun x1 =>
  some x1
def CU (rec0 : Ab × Int -> Option (Bool)) : Ab × Int -> Option (Bool)
  | (p0, p1) =>
  letJ (fun a4 : Int =>
    (Ao p0.Kids (fun z0 => EX rec0 z0 a4)).bind fun x10 =>
   some x10) fun J5 =>
  cond (p0.Kind == 2)
   (cond (decide (32 < p1))
    (some true)
    (J5 (IntKind.wrap .i64 (p1 + 1))))
   (J5 p1)
def I6 (p0 : Ab) (p1 : Int) : Option (Bool) := iter CU FUEL (p0, p1)
def FF (p0 : Aj) : Option (Bool) :=
  some (decide (8192 < (p0.Value.length : Int)))
def AB (p0 : List Aj) (p1 : Aj -> Option Bool) : Option (Bool) :=
   (Ax p0 p1).bind fun x1 =>
  some (decide (0 <= x1))
def EN (p0 : Ab) : Option (Bool) :=
   (letJ (fun v4 : Bool => some v4) fun J3 => cond ((decide (64 < (p0.Attrs.length : Int))) || (decide (8192 < (p0.Text.length : Int)))) (J3 true) ((AB p0.Attrs FF).bind fun x5 =>
    J3 x5))
def DT (p0 : List By8) (rec23 : Nat -> Option (Unit ⊕ Bool)) (a20 : Nat) : Option (Unit ⊕ Bool) :=
  cond (decide (a20 < p0.length))
   ((letJ (fun v27 : Bool => (letJ (fun v31 : Bool => cond v31
        (some (.inr false))
        (rec23 (a20 + wdS p0 a20))) fun J30 => cond v27 (J30 true) ((CB (rnS p0 a20)).bind fun x32 =>
       J30 (!x32)))) fun J26 => cond (((a20 : Nat) : Int) == 0) ((CC (rnS p0 a20)).bind fun x28 =>
     J26 (!x28)) (J26 false)))
   (some (.inl ()))
def Fu (p0 : List By8) : Option (Bool) :=
   (letJ (fun v4 : Bool => cond v4
     (some false)
     (letJ (fun _ : Unit =>
      some true) fun J18 =>
      (iter (DT p0) FUEL (0 : Nat)).bind fun o =>
     match o with
     | .inl o1 => J18 o1
     | .inr o1 => some o1)) fun J3 => cond ((p0 == []) || (decide (100 < (p0.length : Int)))) (J3 true) ((L_ValidString p0).bind fun x5 =>
    J3 (!x5)))
def EU (p0 : Int) : Option (Bool) :=
   (letJ (fun v5 : Bool => some v5) fun J4 => cond (((p0 == 9) || (p0 == 10)) || (p0 == 13)) (J4 true) ((FI p0 ([(⟨32, 55295⟩ : An), (⟨57344, 65533⟩ : An), (⟨65536, 1114111⟩ : An)])).bind fun x6 =>
    J4 x6))
def Gr (p0 : List By8) (p1 : Int) : Option (Int × Int × Int) :=
  cond ((decide (p1 < 0)) || (decide ((p0.length : Int) <= p1)))
   (some (0, 0, 1))
   ((slc p0 p1 (p0.length : Int)).bind fun x3 =>
    (L_DecodeRune x3).bind fun x4 =>
   cond ((x4.1 == 65533) && (decide (x4.2 < 3)))
    (some (0, 0, 20))
    ((EU x4.1).bind fun x7 =>
    cond (!x7)
     (some (0, 0, 21))
     (some (x4.1, (IntKind.wrap .i64 (p1 + x4.2)), 0))))
def Eh (p0 : List By8) (rec9 : Int -> Option (Unit ⊕ (Int × Int))) (a6 : Int) : Option (Unit ⊕ (Int × Int)) :=
  cond (decide (a6 < (p0.length : Int)))
   ((Gr p0 a6).bind fun x12 =>
   cond (x12.2.2 != 0)
    (some (.inr (a6, x12.2.2)))
    (rec9 x12.2.1))
   (some (.inl ()))
def EL (p0 : List By8) : Option (Int × Int) :=
  letJ (fun _ : Unit =>
   some (0, 0)) fun J5 =>
   (iter (Eh p0) FUEL 0).bind fun o =>
  match o with
  | .inl o1 => J5 o1
  | .inr o1 => some o1
def Fx (p0 : List By8) : Option (Bool) :=
   (EL p0).bind fun x1 =>
  some (x1.2 != 0)
def Df (p0 : Aa) : Option (Bool) :=
   (Fu p0.Local).bind fun x1 =>
   (letJ (fun v5 : Bool => some (v5 || (p0.URI == [104, 116, 116, 112, 58, 47, 47, 119, 119, 119, 46, 119, 51, 46, 111, 114, 103, 47, 50, 48, 48, 48, 47, 120, 109, 108, 110, 115, 47]))) fun J4 => cond ((!x1) || (decide (100 < (p0.URI.length : Int)))) (J4 true) ((Fx p0.URI).bind fun x6 =>
    J4 x6))
def Ew (p0 : Aj) : Option (Bool) :=
   (Df p0.Name).bind fun x1 =>
  some (x1 || ((p0.Name.URI == (⟨[], [120, 109, 108, 110, 115]⟩ : Aa).URI) && ((p0.Name.Local == (⟨[], [120, 109, 108, 110, 115]⟩ : Aa).Local) && true)))
def Bu (a94 : Int) (a95 : Int) (rec112 : Int -> Option (Int)) (a109 : Int) : Option (Int) :=
  cond ((a109 != a94) && (decide (a109 < a95)))
   ((L_SimpleFold a109).bind fun x116 =>
   rec112 x116)
   (some a109)
def Be (x52 : List By8) (rec87 : (List By8) × Nat -> Option (((List By8)) ⊕ Bool)) : (List By8) × Nat -> Option (((List By8)) ⊕ Bool)
  | (a83, a84) =>
  cond (decide (a84 < x52.length))
   (cond ((a83.length : Int) == 0)
    (some (.inr false))
    ((L_DecodeRuneInString a83).bind fun x90 =>
     (slc a83 x90.2 (a83.length : Int)).bind fun x91 =>
    cond (x90.1 == (rnS x52 a84))
     (rec87 (x91, (a84 + wdS x52 a84)))
     (letJ (fun v : Int × Int => match v with
      | (a94, a95) =>
      cond (decide (a95 < 128))
       (cond (((decide (65 <= a94)) && (decide (a94 <= 90))) && (a95 == (IntKind.wrap .i32 ((IntKind.wrap .i32 (a94 + 97)) - 65))))
        (rec87 (x91, (a84 + wdS x52 a84)))
        (some (.inr false)))
       ((L_SimpleFold a94).bind fun x102 =>
       letJ (fun a107 : Int =>
        cond (a107 == a95)
         (rec87 (x91, (a84 + wdS x52 a84)))
         (some (.inr false))) fun J108 =>
        (iter (Bu a94 a95) FUEL x102).bind fun o =>
       J108 o)) fun J96 =>
     cond (decide (x90.1 < (rnS x52 a84)))
      (J96 (x90.1, (rnS x52 a84)))
      (J96 ((rnS x52 a84), x90.1)))))
   (some (.inl a83))
def BL (p0 : List By8) (p1 : List By8) (rec146 : Int -> Option (Unit ⊕ Int ⊕ Bool)) (a143 : Int) : Option (Unit ⊕ Int ⊕ Bool) :=
  cond (decide (a143 < (if (p1.length : Int) < (p0.length : Int) then (p1.length : Int) else (p0.length : Int))))
   (letJ (fun _ : Unit =>
    rec146 (IntKind.wrap .i64 (a143 + 1))) fun J160 =>
    (idx p0 a143).bind fun x161 =>
    (idx p1 a143).bind fun x162 =>
   cond (decide (128 <= (ior .u8 (x161.toNat : Int) (x162.toNat : Int))))
    (some (.inr (.inl a143)))
    (cond ((x162.toNat : Int) == (x161.toNat : Int))
     (J160 ())
     (letJ (fun v : Int × Int => match v with
      | (a166, a167) =>
      cond (((decide (65 <= a166)) && (decide (a166 <= 90))) && (a167 == (IntKind.wrap .u8 ((IntKind.wrap .u8 (a166 + 97)) - 65))))
       (J160 ())
       (some (.inr (.inr false)))) fun J168 =>
     cond (decide ((x162.toNat : Int) < (x161.toNat : Int)))
      (J168 ((x162.toNat : Int), (x161.toNat : Int)))
      (J168 ((x161.toNat : Int), (x162.toNat : Int))))))
   (some (.inl ()))
def Db (p0 : List By8) (p1 : List By8) : Option (Bool) :=
  letJ (fun a49 : Int =>
    (slc p0 a49 (p0.length : Int)).bind fun x52 =>
    (slc p1 a49 (p1.length : Int)).bind fun x53 =>
   letJ (fun a80 : List By8 =>
    some ((a80.length : Int) == 0)) fun J81 =>
    (iter (Be x52) FUEL (x53, (0 : Nat))).bind fun o =>
   match o with
   | .inl o1 => J81 o1
   | .inr o1 => some o1) fun J50 =>
  letJ (fun _ : Unit =>
   some ((p0.length : Int) == (p1.length : Int))) fun J142 =>
   (iter (BL p0 p1) FUEL 0).bind fun o =>
  match o with
  | .inl o1 => J142 o1
  | .inr (.inl o1) => J50 o1
  | .inr (.inr o1) => some o1
def CG (p0 : Ab) : Option (Bool) :=
  cond (p0.Kind == 2)
   ((Df p0.Name).bind fun x2 =>
    (letJ (fun v5 : Bool => some v5) fun J4 => cond x2 (J4 true) ((AB p0.Attrs Ew).bind fun x6 =>
     J4 x6)))
   (cond (p0.Kind == 5)
    ((Fu p0.Name.Local).bind fun x8 =>
     (letJ (fun v11 : Bool => some v11) fun J10 => cond (!x8) (J10 true) ((Db p0.Name.Local [120, 109, 108]).bind fun x12 =>
      J10 x12)))
    (some false))
def E8 (p0 : Aj) : Option (Bool) :=
   (Fx p0.Value).bind fun x1 =>
  some x1
def Dl (p0 : Ab) : Option (Bool) :=
   (Fx p0.Text).bind fun x1 =>
   (letJ (fun v4 : Bool => some v4) fun J3 => cond x1 (J3 true) ((AB p0.Attrs E8).bind fun x5 =>
    J3 x5))
def Dm (p0 : List By8) : Option (Bool) :=
  some (!(p0 == p0))
def Ci (p0 : List By8) (p1 : List By8) : Option (Int) :=
   (Dm p0).bind fun x1 =>
   (Dm p1).bind fun x2 =>
  cond x1
   (cond x2
    (some 0)
    (some (-1 : Int)))
   (cond x2
    (some 1)
    (cond (Op.bytesLess p0 p1)
     (some (-1 : Int))
     (cond (!(Op.bytesLess p0 p1 || p0 == p1))
      (some 1)
      (some 0))))
def BP (p0 : List Int) (rec9 : Int -> Option (Unit ⊕ Int)) (a6 : Int) : Option (Unit ⊕ Int) :=
  cond (decide (a6 < (p0.length : Int)))
   ((idx p0 a6).bind fun x12 =>
   cond (x12 != 0)
    (some (.inr x12))
    (rec9 (IntKind.wrap .i64 (a6 + 1))))
   (some (.inl ()))
def FL (p0 : List Int) : Option (Int) :=
  letJ (fun _ : Unit =>
   some 0) fun J5 =>
   (iter (BP p0) FUEL 0).bind fun o =>
  match o with
  | .inl o1 => J5 o1
  | .inr o1 => some o1
def ER (p0 : Aa) (p1 : Aa) : Option (Int) :=
   (Ci p0.URI p1.URI).bind fun x1 =>
   (Ci p0.Local p1.Local).bind fun x2 =>
   (FL ([x1, x2])).bind fun x3 =>
  some x3
def C5 (p0 : Ab) (rec19 : Int -> Option (Unit ⊕ Bool)) (a16 : Int) : Option (Unit ⊕ Bool) :=
  cond (decide (a16 < (p0.Attrs.length : Int)))
   (letJ (fun a27 : Bool =>
    cond a27
     (some (.inr true))
     (rec19 (IntKind.wrap .i64 (a16 + 1)))) fun J28 =>
   cond (decide (0 < a16))
    ((idx p0.Attrs (IntKind.wrap .i64 (a16 - 1))).bind fun x31 =>
     (idx p0.Attrs a16).bind fun x32 =>
     (ER x31.Name x32.Name).bind fun x33 =>
    J28 (decide (0 <= x33)))
    (J28 false))
   (some (.inl ()))
def B1 (p0 : Ab) : Option (Bool) :=
  letJ (fun _ : Unit =>
   some false) fun J15 =>
   (iter (C5 p0) FUEL 0).bind fun o =>
  match o with
  | .inl o1 => J15 o1
  | .inr o1 => some o1
def CS (p0 : List By8) (p1 : List By8) : Option (Bool) :=
   (letJ (fun v3 : Bool => some v3) fun J2 => cond (decide ((p1.length : Int) <= (p0.length : Int))) ((slc p0 (IntKind.wrap .i64 ((p0.length : Int) - (p1.length : Int))) (p0.length : Int)).bind fun x4 =>
    J2 (x4 == p1)) (J2 false))
def C6 (p0 : List By8) (p1 : List By8) : Option (Bool) :=
   (CS p0 p1).bind fun x1 =>
  some x1
def C8 (p0 : Ab) (rec15 : Int -> Option (Unit ⊕ Bool)) (a12 : Int) : Option (Unit ⊕ Bool) :=
  cond (decide (a12 < (p0.Kids.length : Int)))
   ((idx p0.Kids a12).bind fun x18 =>
    (letJ (fun v23 : Bool => cond v23
      (some (.inr true))
      (rec15 (IntKind.wrap .i64 (a12 + 1)))) fun J22 => cond ((decide (0 < a12)) && (x18.Kind == 3)) ((idx p0.Kids (IntKind.wrap .i64 (a12 - 1))).bind fun x24 =>
     J22 (x24.Kind == 3)) (J22 false)))
   (some (.inl ()))
def Ck (p0 : Ab) : Option (Bool) :=
  letJ (fun _ : Unit =>
   cond (p0.Kind == 3)
    (some (p0.Text == []))
    (cond (p0.Kind == 4)
     ((L_Contains p0.Text [45, 45]).bind fun x28 =>
      (letJ (fun v31 : Bool => (letJ (fun v35 : Bool => some v35) fun J34 => cond v31 (J34 true) ((L_Contains p0.Text [13]).bind fun x36 =>
         J34 x36))) fun J30 => cond x28 (J30 true) ((C6 p0.Text [45]).bind fun x32 =>
       J30 x32)))
     (cond (p0.Kind == 5)
      (letJ (fun a45 : Bool =>
       some a45) fun J46 =>
       (L_Contains p0.Text [63, 62]).bind fun x47 =>
      cond x47
       (J46 true)
       ((L_Contains p0.Text [13]).bind fun x50 =>
       cond x50
        (J46 true)
        ((L_TrimLeft p0.Text [32, 9, 10]).bind fun x53 =>
        J46 (!(p0.Text == x53)))))
      (some false)))) fun J11 =>
   (iter (C8 p0) FUEL 0).bind fun o =>
  match o with
  | .inl o1 => J11 o1
  | .inr o1 => some o1
def Ei (p0 : Ab) (rec40 : Int × Int -> Option (Int)) : Int × Int -> Option (Int)
  | (a36, a37) =>
  cond (decide (a37 < (p0.Kids.length : Int)))
   (letJ (fun a46 : Int =>
    rec40 (a46, (IntKind.wrap .i64 (a37 + 1)))) fun J47 =>
    (idx p0.Kids a37).bind fun x48 =>
   cond (x48.Kind == 2)
    (J47 (IntKind.wrap .i64 (a36 + 1)))
    (J47 a36))
   (some a36)
def DE (p0 : Ab) : Option (Int) :=
   (FA p0 ([] : List Ab)).bind fun x1 =>
   (letJ (fun v6 : Bool => cond v6
     (some 33)
     ((I6 p0 0).bind fun x9 =>
     cond x9
      (some 31)
      ((letJ (fun v13 : Bool => cond v13
         (some 5)
         ((Ao x1 CG).bind fun x16 =>
         cond x16
          (some 24)
          ((Ao x1 Dl).bind fun x18 =>
          cond x18
           (some 21)
           ((Ao x1 B1).bind fun x20 =>
           cond x20
            (some 34)
            ((Ao x1 Ck).bind fun x22 =>
            cond x22
             (some 32)
             (letJ (fun a34 : Int =>
              cond (a34 != 1)
               (some 30)
               (some 0)) fun J35 =>
              (iter (Ei p0) FUEL (0, 0)).bind fun o =>
             J35 o)))))) fun J12 => cond (decide (2000 < (IntKind.wrap .i64 ((x1.length : Int) - 1)))) (J12 true) ((Ao x1 EN).bind fun x14 =>
        J12 x14))))) fun J5 => cond (p0.Kind != 1) (J5 true) ((Ao x1 EP).bind fun x7 =>
    J5 x7))
def DC (p1 : Ag) (x100 : Ah) (rec109 : (List Ak) × Int -> Option (((List Ak)))) : (List Ak) × Int -> Option (((List Ak)))
  | (a104, a106) =>
  cond (decide (a106 < (x100.node.Attrs.length : Int)))
   (letJ (fun a120 : List Ak =>
    rec109 (a120, (IntKind.wrap .i64 (a106 + 1)))) fun J122 =>
    (idx x100.node.Attrs a106).bind fun x123 =>
   cond ((p1.test == [42]) || ((x123.Name.URI == p1.name.URI) && ((x123.Name.Local == p1.name.Local) && true)))
    ((L_CloneInts x100.path).bind fun x129 =>
     (app 64 a104 [(⟨x129, true, x123.Name⟩ : Ak)]).bind fun _ =>
    J122 (a104 ++ [(⟨x129, true, x123.Name⟩ : Ak)]))
    (J122 a104))
   (some a104)
def Ee (p0 : List Ah) (p1 : Ag) (rec68 : (List Ak) × Int -> Option (((List Ak)))) : (List Ak) × Int -> Option (((List Ak)))
  | (a63, a65) =>
  cond (decide (a65 < (p0.length : Int)))
   (letJ (fun a97 : List Ak =>
    rec68 (a97, (IntKind.wrap .i64 (a65 + 1)))) fun J99 =>
    (idx p0 a65).bind fun x100 =>
    (iter (DC p1 x100) FUEL (a63, 0)).bind fun o =>
   J99 o)
   (some a63)
def FU (p0 : List Ah) (p1 : Ag) : Option ((List Ak)) :=
  letJ (fun a60 : List Ak =>
   some a60) fun J62 =>
   (iter (Ee p0 p1) FUEL ([], 0)).bind fun o =>
  J62 o
def BJ (p0 : List Int) (p1 : List Int) (rec11 : Int -> Option (Unit ⊕ Bool)) (a8 : Int) : Option (Unit ⊕ Bool) :=
  cond (decide (a8 < (p0.length : Int)))
   ((idx p0 a8).bind fun x14 =>
    (idx p1 a8).bind fun x15 =>
   cond (x14 != x15)
    (some (.inr false))
    (rec11 (IntKind.wrap .i64 (a8 + 1))))
   (some (.inl ()))
def Cs (p0 : List Int) (p1 : List Int) : Option (Bool) :=
  cond ((p0.length : Int) != (p1.length : Int))
   (some false)
   (letJ (fun _ : Unit =>
    some true) fun J7 =>
    (iter (BJ p0 p1) FUEL 0).bind fun o =>
   match o with
   | .inl o1 => J7 o1
   | .inr o1 => some o1)
def Ed (p0 : List Ah) (rec70 : (List Ah) × Int -> Option (((List Ah)))) : (List Ah) × Int -> Option (((List Ah)))
  | (a65, a67) =>
  cond (decide (a67 < (p0.length : Int)))
   (letJ (fun a100 : List Ah =>
    rec70 (a100, (IntKind.wrap .i64 (a67 + 1)))) fun J102 =>
    (idx p0 a67).bind fun x103 =>
   letJ (fun a116 : Bool =>
    cond a116
     ((app 128 a65 [x103]).bind fun _ =>
     J102 (a65 ++ [x103]))
     (J102 a65)) fun J117 =>
   cond ((a65.length : Int) == 0)
    (J117 true)
    ((idx a65 (IntKind.wrap .i64 ((a65.length : Int) - 1))).bind fun x122 =>
    cond (decide ((x103.path.length : Int) < (x122.path.length : Int)))
     (J117 true)
     ((idx a65 (IntKind.wrap .i64 ((a65.length : Int) - 1))).bind fun x125 =>
      (idx a65 (IntKind.wrap .i64 ((a65.length : Int) - 1))).bind fun x126 =>
      (slc x103.path 0 (x126.path.length : Int)).bind fun x127 =>
      (Cs x125.path x127).bind fun x128 =>
     J117 (!x128))))
   (some a65)
def FT (p0 : List Ah) : Option ((List Ah)) :=
  letJ (fun a62 : List Ah =>
   some a62) fun J64 =>
   (iter (Ed p0) FUEL ([], 0)).bind fun o =>
  J64 o
def CR (p0 : Ag) (p1 : Ah) (rec0 : Ag × Ah -> Option ((List Ah))) (rec25 : (List Ah) × Int -> Option (((List Ah)))) : (List Ah) × Int -> Option (((List Ah)))
  | (a20, a22) =>
  cond (decide (a22 < (p1.node.Kids.length : Int)))
   ((idx p1.node.Kids a22).bind fun x28 =>
    (app 8 [] p1.path).bind fun x32 =>
    (app 8 x32 [a22]).bind fun _ =>
    (rec0 (p0, (⟨(x32 ++ [a22]), x28⟩ : Ah))).bind fun x36 =>
    (app 128 a20 x36).bind fun _ =>
   rec25 ((a20 ++ x36), (IntKind.wrap .i64 (a22 + 1))))
   (some a20)
def BO (rec0 : Ag × Ah -> Option ((List Ah))) : Ag × Ah -> Option ((List Ah))
  | (p0, p1) =>
   (CX p0 p1).bind fun x1 =>
  letJ (fun a17 : List Ah =>
   some a17) fun J19 =>
   (iter (CR p0 p1 rec0) FUEL (x1, 0)).bind fun o =>
  J19 o
def Fz (p0 : Ag) (p1 : Ah) : Option ((List Ah)) := iter BO FUEL (p0, p1)
def Ej (p0 : Int) : Option (Bool) :=
  some (p0 != p0)
def Cu (p0 : Int) (p1 : Int) : Option (Int) :=
   (Ej p0).bind fun x1 =>
   (Ej p1).bind fun x2 =>
  cond x1
   (cond x2
    (some 0)
    (some (-1 : Int)))
   (cond x2
    (some 1)
    (cond (decide (p0 < p1))
     (some (-1 : Int))
     (cond (decide (p1 < p0))
      (some 1)
      (some 0))))
def Gj (p0 : List Int) (p1 : List Int) (rec12 : Int -> Option (Unit ⊕ Int)) (a9 : Int) : Option (Unit ⊕ Int) :=
  cond (decide (a9 < (p0.length : Int)))
   ((idx p0 a9).bind fun x15 =>
   cond (decide ((p1.length : Int) <= a9))
    (some (.inr 1))
    ((idx p1 a9).bind fun x17 =>
     (Cu x15 x17).bind fun x18 =>
    cond (x18 != 0)
     (some (.inr x18))
     (rec12 (IntKind.wrap .i64 (a9 + 1)))))
   (some (.inl ()))
def GY (p0 : List Int) (p1 : List Int) : Option (Int) :=
  letJ (fun _ : Unit =>
   cond (decide ((p0.length : Int) < (p1.length : Int)))
    (some (-1 : Int))
    (some 0)) fun J8 =>
   (iter (Gj p0 p1) FUEL 0).bind fun o =>
  match o with
  | .inl o1 => J8 o1
  | .inr o1 => some o1
def Wm (p0 : Ah) (p1 : Ah) : Option (Int) :=
   (GY p0.path p1.path).bind fun x1 =>
  some x1
def DS (x221 : Ag) (a228 : List Ah) (rec266 : (List Ah) × Int -> Option (((List Ah)))) : (List Ah) × Int -> Option (((List Ah)))
  | (a262, a263) =>
  cond (decide (a263 < (a228.length : Int)))
   (letJ (fun a280 : List Ah =>
    rec266 (a280, (IntKind.wrap .i64 (a263 + 1)))) fun J281 =>
    (idx a228 a263).bind fun x282 =>
   cond x221.deep
    ((Fz x221 x282).bind fun x285 =>
     (app 128 a262 x285).bind fun _ =>
     (some (a262 ++ x285)).bind fun a287 =>
    J281 a287)
    ((CX x221 x282).bind fun x288 =>
     (app 128 a262 x288).bind fun _ =>
     (some (a262 ++ x288)).bind fun a291 =>
    J281 a291))
   (some a262)
def DV (x1 : (List Ag) × Int × Int) (rec149 : (List Ah) × Int -> Option (((List Ah)) ⊕ ((List Ak) × Int × Int))) : (List Ah) × Int -> Option (((List Ah)) ⊕ ((List Ak) × Int × Int))
  | (a145, a146) =>
  cond (decide (a146 < (x1.1.length : Int)))
   (letJ (fun a219 : List Ah =>
    rec149 (a219, (IntKind.wrap .i64 (a146 + 1)))) fun J220 =>
    (idx x1.1 a146).bind fun x221 =>
   cond x221.attr
    ((FU a145 x221).bind fun x224 =>
    some (.inr (x224, 0, 0)))
    (letJ (fun a228 : List Ah =>
     letJ (fun a259 : List Ah =>
       (Pr IV Fq a259).bind fun x292 =>
      J220 x292) fun J260 =>
      (iter (DS x221 a228) FUEL ([], 0)).bind fun o =>
     J260 o) fun J229 =>
    cond x221.deep
     ((FT a145).bind fun x231 =>
     J229 x231)
     (J229 a145)))
   (some (.inl a145))
def DR (a143 : List Ah) (rec311 : (List Ak) × Int -> Option (((List Ak)))) : (List Ak) × Int -> Option (((List Ak)))
  | (a306, a308) =>
  cond (decide (a308 < (a143.length : Int)))
   ((idx a143 a308).bind fun x314 =>
    (app 64 a306 [(⟨x314.path, false, (⟨[], []⟩ : Aa)⟩ : Ak)]).bind fun _ =>
   rec311 ((a306 ++ [(⟨x314.path, false, (⟨[], []⟩ : Aa)⟩ : Ak)]), (IntKind.wrap .i64 (a308 + 1))))
   (some a306)
def B4 (p0 : Ab) (p1 : List By8) : Option ((List Ak) × Int × Int) :=
   (C3 p1).bind fun x1 =>
  cond (x1.2.2 != 0)
   (some ([], x1.2.1, x1.2.2))
   ((DE p0).bind fun x3 =>
   cond (x3 != 0)
    (some ([], 0, x3))
    (letJ (fun a143 : List Ah =>
     letJ (fun a303 : List Ak =>
      some (a303, 0, 0)) fun J305 =>
      (iter (DR a143) FUEL ([], 0)).bind fun o =>
     J305 o) fun J144 =>
     (iter (DV x1) FUEL ([(⟨[], p0⟩ : Ah)], 0)).bind fun o =>
    match o with
    | .inl o1 => J144 o1
    | .inr o1 => some o1))
def Ie (p0 : List By8) : Option (Int × Int) :=
   (C3 p0).bind fun x1 =>
  some (x1.2.1, x1.2.2)
def Ex (p0 : List Int) (p1 : List Int) (rec11 : Int -> Option (Unit ⊕ Bool)) (a8 : Int) : Option (Unit ⊕ Bool) :=
  cond (decide (a8 < (p0.length : Int)))
   ((idx p0 a8).bind fun x14 =>
    (idx p1 a8).bind fun x15 =>
   cond (x14 != x15)
    (some (.inr false))
    (rec11 (IntKind.wrap .i64 (a8 + 1))))
   (some (.inl ()))
def Ch (p0 : List Int) (p1 : List Int) : Option (Bool) :=
  cond ((p0.length : Int) != (p1.length : Int))
   (some false)
   (letJ (fun _ : Unit =>
    some true) fun J7 =>
    (iter (Ex p0 p1) FUEL 0).bind fun o =>
   match o with
   | .inl o1 => J7 o1
   | .inr o1 => some o1)
def Dt : Option (Bool) :=
   (Di ).bind fun x1 =>
   (B4 x1 [47, 47, 98, 91, 64, 100, 126, 51, 44, 49, 93]).bind fun x2 =>
   (Di ).bind fun x3 =>
   (B4 x3 [47, 97, 47, 98, 47, 64, 42]).bind fun x4 =>
   (Ie [47, 97, 91, 48, 93]).bind fun x5 =>
   (letJ (fun v12 : Bool => (letJ (fun v18 : Bool => (letJ (fun v22 : Bool => some v22) fun J21 => cond v18 ((idx x4.1 0).bind fun x23 =>
        J21 (x23.Name.Local == [120])) (J21 false))) fun J17 => cond (v12 && ((x4.1.length : Int) == 2)) ((idx x4.1 0).bind fun x19 =>
      J17 x19.Attr) (J17 false))) fun J11 => cond (((((x2.2.2 == 0) && (x4.2.2 == 0)) && (x5.2 == 36)) && (x5.1 == 3)) && ((x2.1.length : Int) == 1)) ((idx x2.1 0).bind fun x13 =>
     (Ch x13.Steps ([0, 1])).bind fun x14 =>
    J11 x14) (J11 false))
def Cr (p0 : Ab) (rec0 : Ab -> Option ((List Ab))) (rec18 : (List Ab) × Int -> Option (((List Ab)))) : (List Ab) × Int -> Option (((List Ab)))
  | (a13, a15) =>
  cond (decide (a15 < (p0.Kids.length : Int)))
   ((idx p0.Kids a15).bind fun x21 =>
    (rec0 x21).bind fun x23 =>
    (app 104 a13 x23).bind fun _ =>
   rec18 ((a13 ++ x23), (IntKind.wrap .i64 (a15 + 1))))
   (some a13)
def BA (rec0 : Ab -> Option ((List Ab))) : Ab -> Option ((List Ab))
  | p0 =>
  letJ (fun a10 : List Ab =>
   some a10) fun J12 =>
   (iter (Cr p0 rec0) FUEL ([p0], 0)).bind fun o =>
  J12 o
def C9 (p0 : Ab) : Option ((List Ab)) := iter BA FUEL p0
def BK (p0 : Ab) (p1 : Int) : Option (Bool) :=
   (C9 p0).bind fun x1 =>
  some (decide ((x1.length : Int) <= p1))
def Cq (p0 : Ab) (rec0 : Ab -> Option (Int)) (rec13 : Int × Int -> Option (Int)) : Int × Int -> Option (Int)
  | (a9, a10) =>
  cond (decide (a10 < (p0.Kids.length : Int)))
   ((idx p0.Kids a10).bind fun x16 =>
    (rec0 x16).bind fun x18 =>
   rec13 ((if x18 > a9 then x18 else a9), (IntKind.wrap .i64 (a10 + 1))))
   (some a9)
def BB (rec0 : Ab -> Option (Int)) : Ab -> Option (Int)
  | p0 =>
  letJ (fun a7 : Int =>
   some (IntKind.wrap .i64 (a7 + 1))) fun J8 =>
   (iter (Cq p0 rec0) FUEL (0, 0)).bind fun o =>
  J8 o
def Cw (p0 : Ab) : Option (Int) := iter BB FUEL p0
def Cg (a35 : Int) (x57 : (List (List Int))) (rec63 : (List (List Int)) × Int -> Option (((List (List Int))))) : (List (List Int)) × Int -> Option (((List (List Int))))
  | (a58, a60) =>
  cond (decide (a60 < (x57.length : Int)))
   ((idx x57 a60).bind fun x66 =>
    (app 8 [a35] x66).bind fun _ =>
    (app 24 a58 [([a35] ++ x66)]).bind fun _ =>
   rec63 ((a58 ++ [([a35] ++ x66)]), (IntKind.wrap .i64 (a60 + 1))))
   (some a58)
def Ce (p0 : Ab) (rec0 : Ab -> Option ((List (List Int)))) (rec38 : (List (List Int)) × Int -> Option (((List (List Int))))) : (List (List Int)) × Int -> Option (((List (List Int))))
  | (a33, a35) =>
  cond (decide (a35 < (p0.Kids.length : Int)))
   (letJ (fun a52 : List (List Int) =>
    rec38 (a52, (IntKind.wrap .i64 (a35 + 1)))) fun J54 =>
    (idx p0.Kids a35).bind fun x55 =>
    (rec0 x55).bind fun x57 =>
    (iter (Cg a35 x57) FUEL (a33, 0)).bind fun o =>
   J54 o)
   (some a33)
def Bt (rec0 : Ab -> Option ((List (List Int)))) : Ab -> Option ((List (List Int)))
  | p0 =>
  letJ (fun a30 : List (List Int) =>
   some a30) fun J32 =>
   (iter (Ce p0 rec0) FUEL ([[]], 0)).bind fun o =>
  J32 o
def BS (p0 : Ab) : Option ((List (List Int))) := iter Bt FUEL p0
def ES (rec11 : Int × (List By8) -> Option (((List By8)))) : Int × (List By8) -> Option (((List By8)))
  | (a7, a8) =>
  cond (decide (0 < a7))
   ((u8 (IntKind.wrap .u8 (IntKind.wrap .i64 (48 + (Int.tmod a7 10))))).bind fun b14 =>
    (cat [b14] a8).bind fun _ =>
   rec11 ((IntKind.wrap .i64 (Int.tdiv a7 10)), ([b14] ++ a8)))
   (some a8)
def BC (p0 : Int) : Option ((List By8)) :=
  letJ (fun a5 : List By8 =>
   some a5) fun J6 =>
   (iter (ES) FUEL (p0, [])).bind fun o =>
  J6 o
def BZ (p0 : List Int) (rec12 : (List By8) × Int -> Option (((List By8)))) : (List By8) × Int -> Option (((List By8)))
  | (a8, a9) =>
  cond (decide (a9 < (p0.length : Int)))
   ((idx p0 a9).bind fun x15 =>
    (cat a8 [47, 110, 111, 100, 101, 40, 41, 91]).bind fun _ =>
    (BC (IntKind.wrap .i64 (x15 + 1))).bind fun x16 =>
    (cat (a8 ++ [47, 110, 111, 100, 101, 40, 41, 91]) x16).bind fun _ =>
    (cat ((a8 ++ [47, 110, 111, 100, 101, 40, 41, 91]) ++ x16) [93]).bind fun _ =>
   rec12 ((((a8 ++ [47, 110, 111, 100, 101, 40, 41, 91]) ++ x16) ++ [93]), (IntKind.wrap .i64 (a9 + 1))))
   (some a8)
def Cp (p0 : List Int) : Option ((List By8)) :=
  letJ (fun a6 : List By8 =>
   some a6) fun J7 =>
   (iter (BZ p0) FUEL ([], 0)).bind fun o =>
  J7 o
def CO (p0 : Ak) (p1 : Ak) (rec11 : Int -> Option (Unit ⊕ Int)) (a8 : Int) : Option (Unit ⊕ Int) :=
  cond (decide (a8 < (if (p1.Steps.length : Int) < (p0.Steps.length : Int) then (p1.Steps.length : Int) else (p0.Steps.length : Int))))
   ((idx p0.Steps a8).bind fun x14 =>
    (idx p1.Steps a8).bind fun x15 =>
    (Cu x14 x15).bind fun x16 =>
   cond (x16 != 0)
    (some (.inr x16))
    (rec11 (IntKind.wrap .i64 (a8 + 1))))
   (some (.inl ()))
def Eg (p0 : Ak) (p1 : Ak) : Option (Int) :=
  letJ (fun _ : Unit =>
    (Cu (p0.Steps.length : Int) (p1.Steps.length : Int)).bind fun x18 =>
   cond (x18 != 0)
    (some x18)
    (cond (p0.Attr && p1.Attr)
     ((ER p0.Name p1.Name).bind fun x22 =>
     some x22)
     (cond p0.Attr
      (some 1)
      (cond p1.Attr
       (some (-1 : Int))
       (some 0))))) fun J7 =>
   (iter (CO p0 p1) FUEL 0).bind fun o =>
  match o with
  | .inl o1 => J7 o1
  | .inr o1 => some o1
def BY (p0 : List By8) (rec9 : Int -> Option (Unit ⊕ Bool)) (a6 : Int) : Option (Unit ⊕ Bool) :=
  cond (decide (a6 < (p0.length : Int)))
   ((idx p0 a6).bind fun x12 =>
   cond ((x12.toNat : Int) == 47)
    (some (.inr false))
    (rec9 (IntKind.wrap .i64 (a6 + 1))))
   (some (.inl ()))
def Bf (p0 : List By8) : Option (Bool) :=
  letJ (fun _ : Unit =>
   some true) fun J5 =>
   (iter (BY p0) FUEL 0).bind fun o =>
  match o with
  | .inl o1 => J5 o1
  | .inr o1 => some o1
def BE (x3 : (List Ak) × Int × Int) (x471 : Ak) (rec488 : Bool × Int -> Option (Bool)) : Bool × Int -> Option (Bool)
  | (a484, a485) =>
  cond (decide (a485 < (x3.1.length : Int)))
   ((idx x3.1 a485).bind fun x491 =>
    (letJ (fun v495 : Bool => rec488 (v495, (IntKind.wrap .i64 (a485 + 1)))) fun J494 => cond a484 (J494 true) ((Eg x471 x491).bind fun x496 =>
     J494 (x496 == 0))))
   (some a484)
def BD (p1 : List By8) (x3 : (List Ak) × Int × Int) (x380 : (List Ak) × Int × Int) (rec441 : Int -> Option (Unit ⊕ Bool)) (a438 : Int) : Option (Unit ⊕ Bool) :=
  cond (decide (a438 < (x380.1.length : Int)))
   (letJ (fun _ : Unit =>
    rec441 (IntKind.wrap .i64 (a438 + 1))) fun J470 =>
    (idx x380.1 a438).bind fun x471 =>
   letJ (fun a482 : Bool =>
     (letJ (fun v499 : Bool => cond v499
       (some (.inr false))
       (J470 ())) fun J498 => cond (!a482) ((Bf p1).bind fun x500 =>
      J498 x500) (J498 false))) fun J483 =>
    (iter (BE x3 x471) FUEL (false, 0)).bind fun o =>
   J483 o)
   (some (.inl ()))
def Bi (p0 : Ab) (p1 : List By8) (x3 : (List Ak) × Int × Int) (x255 : (List (List Int))) (rec260 : Int × Int -> Option (Int ⊕ Bool)) : Int × Int -> Option (Int ⊕ Bool)
  | (a256, a257) =>
  cond (decide (a257 < (x255.length : Int)))
   (letJ (fun a376 : Int =>
    rec260 (a376, (IntKind.wrap .i64 (a257 + 1)))) fun J377 =>
    (idx x255 a257).bind fun x378 =>
    (Cp x378).bind fun x379 =>
    (cat x379 [47]).bind fun _ =>
    (cat (x379 ++ [47]) p1).bind fun _ =>
    (B4 p0 ((x379 ++ [47]) ++ p1)).bind fun x380 =>
   cond (x380.2.2 != 0)
    (some (.inr ((decide (17 < (x378.length : Int))) || (x380.2.2 == 5))))
    (letJ (fun _ : Unit =>
     J377 (IntKind.wrap .i64 (a256 + (x380.1.length : Int)))) fun J437 =>
     (iter (BD p1 x3 x380) FUEL 0).bind fun o =>
    match o with
    | .inl o1 => J437 o1
    | .inr o1 => some (.inr o1)))
   (some (.inl a256))
def BR (p0 : Ab) (p1 : List By8) : Option (Bool) :=
   (Dt ).bind fun x1 =>
  cond (!x1)
   (some false)
   ((cat [47, 47] p1).bind fun _ =>
    (B4 p0 ([47, 47] ++ p1)).bind fun x3 =>
    (cat [47] p1).bind fun _ =>
    (B4 p0 ([47] ++ p1)).bind fun x4 =>
   cond (x3.2.2 != x4.2.2)
    (some (x3.2.2 == 36))
    ((letJ (fun v8 : Bool => (letJ (fun v12 : Bool => (letJ (fun v16 : Bool => cond v16
           (some true)
           (letJ (fun a253 : Int =>
             (Bf p1).bind fun x502 =>
            some ((!x502) || (a253 == (x3.1.length : Int)))) fun J254 =>
            (BS p0).bind fun x255 =>
            (iter (Bi p0 p1 x3 x255) FUEL (0, 0)).bind fun o =>
           match o with
           | .inl o1 => J254 o1
           | .inr o1 => some o1)) fun J15 => cond v12 (J15 true) ((letJ (fun v19 : Bool => J15 v19) fun J18 => cond (decide (0 < (x4.1.length : Int))) ((idx x4.1 0).bind fun x20 =>
            J18 x20.Attr) (J18 false))))) fun J11 => cond v8 (J11 true) ((Cw p0).bind fun x13 =>
        J11 (decide (18 < x13))))) fun J7 => cond (x3.2.2 != 0) (J7 true) ((BK p0 61).bind fun x9 =>
      J7 (!x9)))))
end Go.Proofs.YtmnbjcpikllknaaGreatDoor
