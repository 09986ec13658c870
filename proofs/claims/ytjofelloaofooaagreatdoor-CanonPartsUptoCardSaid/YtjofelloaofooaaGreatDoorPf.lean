/- The plain functions. No condition. -/
import Derived.Test.YtjofelloaofooaaGreatDoorEA
import Derived.Test.YtjofelloaofooaaGreatDoorK2
set_option linter.unusedVariables false
set_option linter.unusedSimpArgs false
set_option maxRecDepth 20000
set_option maxHeartbeats 8000000
namespace Go.Proofs.YtjofelloaofooaaGreatDoor
structure Ac where
  URI : List By8
  Local : List By8
  deriving DecidableEq, Inhabited
def AB (x : Ac) : List D := [.str x.URI, .str x.Local]
structure Ae where
  Name : Ac
  Value : List By8
  deriving DecidableEq, Inhabited
def Aj (x : Ae) : List D := [.str x.Name.URI, .str x.Name.Local, .str x.Value]
structure Aa where
  Kind : Int
  Name : Ac
  Attrs : List Ae
  Kids : List Aa
  Text : List By8
  deriving Inhabited
mutual
def Ad : Aa -> List D
  | ⟨Kind, Name, Attrs, Kids, Text⟩ => [.int .i64 Kind, .str Name.URI, .str Name.Local, .sl 3 (List.map Aj Attrs) 0, .sl 6 (DN Kids) 0, .str Text]
def DN : List Aa -> List (List D)
  | [] => []
  | x :: l => Ad x :: DN l
end
theorem Gg : ∀ l : List Aa, DN l = List.map Ad l
  | [] => by simp only [DN, List.map_nil]
  | x :: l => by simp only [DN, List.map_cons, Gg l]
theorem Ab (x : Aa) : Ad x = [.int .i64 x.Kind, .str x.Name.URI, .str x.Name.Local, .sl 3 (List.map Aj x.Attrs) 0, .sl 6 (List.map Ad x.Kids) 0, .str x.Text] := by cases x; simp only [Ad, Gg]
structure Af where
  lo : Int
  hi : Int
  deriving DecidableEq, Inhabited
def Av (x : Af) : List D := [.int .i32 x.lo, .int .i32 x.hi]
structure Ai where
  addr : Unit
  buf : List By8
  deriving DecidableEq, Inhabited
def Mb (x : Ai) : List D := [.nilp, .sl 1 (List.map IY x.buf) 0]
structure Ah where
  Builder : Ai
  prefixes : List (List By8)
  deriving DecidableEq, Inhabited
def N3 (x : Ah) : List D := [.nilp, .sl 1 (List.map IY x.Builder.buf) 0, .sl 1 (List.map Am x.prefixes) 0]
def DK (p0 : Aa) (rec0 : Aa × (List Aa) -> Option ((List Aa))) (rec19 : (List Aa) × Int -> Option (((List Aa)))) : (List Aa) × Int -> Option (((List Aa)))
  | (a14, a16) =>
  cond (decide (a16 < (p0.Kids.length : Int)))
   ((idx p0.Kids a16).bind fun x22 =>
    (rec0 (x22, a14)).bind fun x24 =>
   rec19 (x24, (IntKind.wrap .i64 (a16 + 1))))
   (some a14)
def BL (rec0 : Aa × (List Aa) -> Option ((List Aa))) : Aa × (List Aa) -> Option ((List Aa))
  | (p0, p1) =>
   (app 104 p1 [p0]).bind fun _ =>
  AA (fun a11 : List Aa =>
   some a11) fun J13 =>
   (iter (DK p0 rec0) FUEL ((p1 ++ [p0]), 0)).bind fun o =>
  J13 o
def Ej (p0 : Aa) (p1 : List Aa) : Option ((List Aa)) := iter BL FUEL (p0, p1)
def AF (p0 : List Aa) (p1 : Aa -> Option Bool) (rec10 : Int -> Option (Unit ⊕ Int)) (a7 : Int) : Option (Unit ⊕ Int) :=
  cond (decide (a7 < (p0.length : Int)))
   ((idx p0 a7).bind fun x13 =>
    (p1 x13).bind fun x14 =>
   cond x14
    (some (.inr a7))
    (rec10 (IntKind.wrap .i64 (a7 + 1))))
   (some (.inl ()))
def Ay (p0 : List Aa) (p1 : Aa -> Option Bool) : Option (Int) :=
  AA (fun _ : Unit =>
   some (-1 : Int)) fun J6 =>
   (iter (AF p0 p1) FUEL 0).bind fun o =>
  match o with
  | .inl o1 => J6 o1
  | .inr o1 => some o1
def Ag (p0 : List Aa) (p1 : Aa -> Option Bool) : Option (Bool) :=
   (Ay p0 p1).bind fun x1 =>
  some (decide (0 <= x1))
def El (p0 : Int) (p1 : Int) : Option (Bool) :=
  cond (p0 == 1)
   (some (((p1 == 2) || (p1 == 4)) || (p1 == 5)))
   (cond (p0 == 2)
    (some ((decide (2 <= p1)) && (decide (p1 <= 5))))
    (some false))
def Cd (p0 : Aa) (p1 : Aa) : Option (Bool) :=
   (El p1.Kind p0.Kind).bind fun x1 =>
  some (!x1)
def CW (p0 : Aa) : Option (Bool) :=
  AA (fun a9 : Bool =>
    (AA (fun v20 : Bool => some v20) fun J19 => cond a9 (J19 true) ((Ag p0.Kids (fun z0 => Cd z0 p0)).bind fun x21 =>
     J19 x21))) fun J10 =>
  cond (p0.Kind == 1)
   (J10 ((((p0.Kind != 2) && (decide (0 < (p0.Attrs.length : Int)))) || (!((p0.Name.URI == (⟨[], []⟩ : Ac).URI) && ((p0.Name.Local == (⟨[], []⟩ : Ac).Local) && true)))) || (!(p0.Text == []))))
   (cond (p0.Kind == 2)
    (J10 (!(p0.Text == [])))
    (cond (p0.Kind == 5)
     (J10 (((p0.Kind != 2) && (decide (0 < (p0.Attrs.length : Int)))) || (!(p0.Name.URI == []))))
     (J10 (((p0.Kind != 2) && (decide (0 < (p0.Attrs.length : Int)))) || (!((p0.Name.URI == (⟨[], []⟩ : Ac).URI) && ((p0.Name.Local == (⟨[], []⟩ : Ac).Local) && true)))))))
def BN (rec0 : Aa × Int -> Option Bool) (p0 : Aa) (p1 : Int) : Option (Bool) :=
   (rec0 (p0, p1)).bind fun x1 =>
  some x1
def Bi (rec0 : Aa × Int -> Option (Bool)) : Aa × Int -> Option (Bool)
  | (p0, p1) =>
  AA (fun a4 : Int =>
    (Ag p0.Kids (fun z0 => BN rec0 z0 a4)).bind fun x10 =>
   some x10) fun J5 =>
  cond (p0.Kind == 2)
   (cond (decide (32 < p1))
    (some true)
    (J5 (IntKind.wrap .i64 (p1 + 1))))
   (J5 p1)
def FD (p0 : Aa) (p1 : Int) : Option (Bool) := iter Bi FUEL (p0, p1)
def Dg (p0 : Ae) : Option (Bool) :=
  some (decide (8192 < (p0.Value.length : Int)))
def AE (p0 : List Ae) (p1 : Ae -> Option Bool) (rec10 : Int -> Option (Unit ⊕ Int)) (a7 : Int) : Option (Unit ⊕ Int) :=
  cond (decide (a7 < (p0.length : Int)))
   ((idx p0 a7).bind fun x13 =>
    (p1 x13).bind fun x14 =>
   cond x14
    (some (.inr a7))
    (rec10 (IntKind.wrap .i64 (a7 + 1))))
   (some (.inl ()))
def Az (p0 : List Ae) (p1 : Ae -> Option Bool) : Option (Int) :=
  AA (fun _ : Unit =>
   some (-1 : Int)) fun J6 =>
   (iter (AE p0 p1) FUEL 0).bind fun o =>
  match o with
  | .inl o1 => J6 o1
  | .inr o1 => some o1
def Al (p0 : List Ae) (p1 : Ae -> Option Bool) : Option (Bool) :=
   (Az p0 p1).bind fun x1 =>
  some (decide (0 <= x1))
def CE (p0 : Aa) : Option (Bool) :=
   (AA (fun v4 : Bool => some v4) fun J3 => cond ((decide (64 < (p0.Attrs.length : Int))) || (decide (8192 < (p0.Text.length : Int)))) (J3 true) ((Al p0.Attrs Dg).bind fun x5 =>
    J3 x5))
def CZ (p0 : Int) (p1 : List Af) (rec10 : Int -> Option (Unit ⊕ Bool)) (a7 : Int) : Option (Unit ⊕ Bool) :=
  cond (decide (a7 < (p1.length : Int)))
   ((idx p1 a7).bind fun x13 =>
   cond (decide (p0 <= x13.hi))
    (some (.inr (decide (x13.lo <= p0))))
    (rec10 (IntKind.wrap .i64 (a7 + 1))))
   (some (.inl ()))
def Dt (p0 : Int) (p1 : List Af) : Option (Bool) :=
  AA (fun _ : Unit =>
   some false) fun J6 =>
   (iter (CZ p0 p1) FUEL 0).bind fun o =>
  match o with
  | .inl o1 => J6 o1
  | .inr o1 => some o1
def Ce (p0 : Int) : Option (Bool) :=
  cond (decide (p0 < 128))
   (some ((((decide (97 <= p0)) && (decide (p0 <= 122))) || ((decide (65 <= p0)) && (decide (p0 <= 90)))) || (p0 == 95)))
   ((Dt p0 ([(⟨192, 214⟩ : Af), (⟨216, 246⟩ : Af), (⟨248, 767⟩ : Af), (⟨880, 893⟩ : Af), (⟨895, 8191⟩ : Af), (⟨8204, 8205⟩ : Af), (⟨8304, 8591⟩ : Af), (⟨11264, 12271⟩ : Af), (⟨12289, 55295⟩ : Af), (⟨63744, 64975⟩ : Af), (⟨65008, 65533⟩ : Af), (⟨65536, 983039⟩ : Af)])).bind fun x7 =>
   some x7)
def CC (p0 : Int) : Option (Bool) :=
   (Ce p0).bind fun x1 =>
   (AA (fun v10 : Bool => some v10) fun J9 => cond ((((x1 || (p0 == 45)) || (p0 == 46)) || ((decide (48 <= p0)) && (decide (p0 <= 57)))) || (p0 == 183)) (J9 true) ((Dt p0 ([(⟨768, 879⟩ : Af), (⟨8255, 8256⟩ : Af)])).bind fun x11 =>
    J9 x11))
def BO (p0 : List By8) (rec23 : Nat -> Option (Unit ⊕ Bool)) (a20 : Nat) : Option (Unit ⊕ Bool) :=
  cond (decide (a20 < p0.length))
   ((AA (fun v27 : Bool => (AA (fun v31 : Bool => cond v31
        (some (.inr false))
        (rec23 (a20 + wdS p0 a20))) fun J30 => cond v27 (J30 true) ((CC (rnS p0 a20)).bind fun x32 =>
       J30 (!x32)))) fun J26 => cond (((a20 : Nat) : Int) == 0) ((Ce (rnS p0 a20)).bind fun x28 =>
     J26 (!x28)) (J26 false)))
   (some (.inl ()))
def Dw (p0 : List By8) : Option (Bool) :=
   (AA (fun v4 : Bool => cond v4
     (some false)
     (AA (fun _ : Unit =>
      some true) fun J18 =>
      (iter (BO p0) FUEL (0 : Nat)).bind fun o =>
     match o with
     | .inl o1 => J18 o1
     | .inr o1 => some o1)) fun J3 => cond ((p0 == []) || (decide (100 < (p0.length : Int)))) (J3 true) ((L_ValidString p0).bind fun x5 =>
    J3 (!x5)))
def C0 (p0 : Int) : Option (Bool) :=
   (AA (fun v5 : Bool => some v5) fun J4 => cond (((p0 == 9) || (p0 == 10)) || (p0 == 13)) (J4 true) ((Dt p0 ([(⟨32, 55295⟩ : Af), (⟨57344, 65533⟩ : Af), (⟨65536, 1114111⟩ : Af)])).bind fun x6 =>
    J4 x6))
def DX (p0 : List By8) (p1 : Int) : Option (Int × Int × Int) :=
  cond ((decide (p1 < 0)) || (decide ((p0.length : Int) <= p1)))
   (some (0, 0, 1))
   ((slc p0 p1 (p0.length : Int)).bind fun x3 =>
    (L_DecodeRune x3).bind fun x4 =>
   cond ((x4.1 == 65533) && (decide (x4.2 < 3)))
    (some (0, 0, 20))
    ((C0 x4.1).bind fun x7 =>
    cond (!x7)
     (some (0, 0, 21))
     (some (x4.1, (IntKind.wrap .i64 (p1 + x4.2)), 0))))
def Ch (p0 : List By8) (rec9 : Int -> Option (Unit ⊕ (Int × Int))) (a6 : Int) : Option (Unit ⊕ (Int × Int)) :=
  cond (decide (a6 < (p0.length : Int)))
   ((DX p0 a6).bind fun x12 =>
   cond (x12.2.2 != 0)
    (some (.inr (a6, x12.2.2)))
    (rec9 x12.2.1))
   (some (.inl ()))
def CY (p0 : List By8) : Option (Int × Int) :=
  AA (fun _ : Unit =>
   some (0, 0)) fun J5 =>
   (iter (Ch p0) FUEL 0).bind fun o =>
  match o with
  | .inl o1 => J5 o1
  | .inr o1 => some o1
def DD (p0 : List By8) : Option (Bool) :=
   (CY p0).bind fun x1 =>
  some (x1.2 != 0)
def Bz (p0 : Ac) : Option (Bool) :=
   (Dw p0.Local).bind fun x1 =>
   (AA (fun v5 : Bool => some (v5 || (p0.URI == [104, 116, 116, 112, 58, 47, 47, 119, 119, 119, 46, 119, 51, 46, 111, 114, 103, 47, 50, 48, 48, 48, 47, 120, 109, 108, 110, 115, 47]))) fun J4 => cond ((!x1) || (decide (100 < (p0.URI.length : Int)))) (J4 true) ((DD p0.URI).bind fun x6 =>
    J4 x6))
def Cf (p0 : Ae) : Option (Bool) :=
   (Bz p0.Name).bind fun x1 =>
  some (x1 || ((p0.Name.URI == (⟨[], [120, 109, 108, 110, 115]⟩ : Ac).URI) && ((p0.Name.Local == (⟨[], [120, 109, 108, 110, 115]⟩ : Ac).Local) && true)))
def AU (a94 : Int) (a95 : Int) (rec112 : Int -> Option (Int)) (a109 : Int) : Option (Int) :=
  cond ((a109 != a94) && (decide (a109 < a95)))
   ((L_SimpleFold a109).bind fun x116 =>
   rec112 x116)
   (some a109)
def At (x52 : List By8) (rec87 : (List By8) × Nat -> Option (((List By8)) ⊕ Bool)) : (List By8) × Nat -> Option (((List By8)) ⊕ Bool)
  | (a83, a84) =>
  cond (decide (a84 < x52.length))
   (cond ((a83.length : Int) == 0)
    (some (.inr false))
    ((L_DecodeRuneInString a83).bind fun x90 =>
     (slc a83 x90.2 (a83.length : Int)).bind fun x91 =>
    cond (x90.1 == (rnS x52 a84))
     (rec87 (x91, (a84 + wdS x52 a84)))
     (AA (fun v : Int × Int => match v with
      | (a94, a95) =>
      cond (decide (a95 < 128))
       (cond (((decide (65 <= a94)) && (decide (a94 <= 90))) && (a95 == (IntKind.wrap .i32 ((IntKind.wrap .i32 (a94 + 97)) - 65))))
        (rec87 (x91, (a84 + wdS x52 a84)))
        (some (.inr false)))
       ((L_SimpleFold a94).bind fun x102 =>
       AA (fun a107 : Int =>
        cond (a107 == a95)
         (rec87 (x91, (a84 + wdS x52 a84)))
         (some (.inr false))) fun J108 =>
        (iter (AU a94 a95) FUEL x102).bind fun o =>
       J108 o)) fun J96 =>
     cond (decide (x90.1 < (rnS x52 a84)))
      (J96 (x90.1, (rnS x52 a84)))
      (J96 ((rnS x52 a84), x90.1)))))
   (some (.inl a83))
def As (p0 : List By8) (p1 : List By8) (rec146 : Int -> Option (Unit ⊕ Int ⊕ Bool)) (a143 : Int) : Option (Unit ⊕ Int ⊕ Bool) :=
  cond (decide (a143 < (if (p1.length : Int) < (p0.length : Int) then (p1.length : Int) else (p0.length : Int))))
   (AA (fun _ : Unit =>
    rec146 (IntKind.wrap .i64 (a143 + 1))) fun J160 =>
    (idx p0 a143).bind fun x161 =>
    (idx p1 a143).bind fun x162 =>
   cond (decide (128 <= (ior .u8 (x161.toNat : Int) (x162.toNat : Int))))
    (some (.inr (.inl a143)))
    (cond ((x162.toNat : Int) == (x161.toNat : Int))
     (J160 ())
     (AA (fun v : Int × Int => match v with
      | (a166, a167) =>
      cond (((decide (65 <= a166)) && (decide (a166 <= 90))) && (a167 == (IntKind.wrap .u8 ((IntKind.wrap .u8 (a166 + 97)) - 65))))
       (J160 ())
       (some (.inr (.inr false)))) fun J168 =>
     cond (decide ((x162.toNat : Int) < (x161.toNat : Int)))
      (J168 ((x162.toNat : Int), (x161.toNat : Int)))
      (J168 ((x161.toNat : Int), (x162.toNat : Int))))))
   (some (.inl ()))
def Bk (p0 : List By8) (p1 : List By8) : Option (Bool) :=
  AA (fun a49 : Int =>
    (slc p0 a49 (p0.length : Int)).bind fun x52 =>
    (slc p1 a49 (p1.length : Int)).bind fun x53 =>
   AA (fun a80 : List By8 =>
    some ((a80.length : Int) == 0)) fun J81 =>
    (iter (At x52) FUEL (x53, (0 : Nat))).bind fun o =>
   match o with
   | .inl o1 => J81 o1
   | .inr o1 => some o1) fun J50 =>
  AA (fun _ : Unit =>
   some ((p0.length : Int) == (p1.length : Int))) fun J142 =>
   (iter (As p0 p1) FUEL 0).bind fun o =>
  match o with
  | .inl o1 => J142 o1
  | .inr (.inl o1) => J50 o1
  | .inr (.inr o1) => some o1
def A5 (p0 : Aa) : Option (Bool) :=
  cond (p0.Kind == 2)
   ((Bz p0.Name).bind fun x2 =>
    (AA (fun v5 : Bool => some v5) fun J4 => cond x2 (J4 true) ((Al p0.Attrs Cf).bind fun x6 =>
     J4 x6)))
   (cond (p0.Kind == 5)
    ((Dw p0.Name.Local).bind fun x8 =>
     (AA (fun v11 : Bool => some v11) fun J10 => cond (!x8) (J10 true) ((Bk p0.Name.Local [120, 109, 108]).bind fun x12 =>
      J10 x12)))
    (some false))
def CV (p0 : Ae) : Option (Bool) :=
   (DD p0.Value).bind fun x1 =>
  some x1
def Bt (p0 : Aa) : Option (Bool) :=
   (DD p0.Text).bind fun x1 =>
   (AA (fun v4 : Bool => some v4) fun J3 => cond x1 (J3 true) ((Al p0.Attrs CV).bind fun x5 =>
    J3 x5))
def Bb (p0 : List By8) : Option (Bool) :=
  some (!(p0 == p0))
def By (p0 : List By8) (p1 : List By8) : Option (Int) :=
   (Bb p0).bind fun x1 =>
   (Bb p1).bind fun x2 =>
  cond x1
   (cond x2
    (some 0)
    (some (-1 : Int)))
   (cond x2
    (some 1)
    (cond (Op.bytesLess p0 p1)
     (some (-1 : Int))
     (cond (!(Op.bytesLess p0 p1 || p0 == p1))
      (some 1)
      (some 0))))
def A6 (p0 : List Int) (rec9 : Int -> Option (Unit ⊕ Int)) (a6 : Int) : Option (Unit ⊕ Int) :=
  cond (decide (a6 < (p0.length : Int)))
   ((idx p0 a6).bind fun x12 =>
   cond (x12 != 0)
    (some (.inr x12))
    (rec9 (IntKind.wrap .i64 (a6 + 1))))
   (some (.inl ()))
def Ew (p0 : List Int) : Option (Int) :=
  AA (fun _ : Unit =>
   some 0) fun J5 =>
   (iter (A6 p0) FUEL 0).bind fun o =>
  match o with
  | .inl o1 => J5 o1
  | .inr o1 => some o1
def Et (p0 : Ac) (p1 : Ac) : Option (Int) :=
   (By p0.URI p1.URI).bind fun x1 =>
   (By p0.Local p1.Local).bind fun x2 =>
   (Ew ([x1, x2])).bind fun x3 =>
  some x3
def A3 (p0 : Aa) (rec19 : Int -> Option (Unit ⊕ Bool)) (a16 : Int) : Option (Unit ⊕ Bool) :=
  cond (decide (a16 < (p0.Attrs.length : Int)))
   (AA (fun a27 : Bool =>
    cond a27
     (some (.inr true))
     (rec19 (IntKind.wrap .i64 (a16 + 1)))) fun J28 =>
   cond (decide (0 < a16))
    ((idx p0.Attrs (IntKind.wrap .i64 (a16 - 1))).bind fun x31 =>
     (idx p0.Attrs a16).bind fun x32 =>
     (Et x31.Name x32.Name).bind fun x33 =>
    J28 (decide (0 <= x33)))
    (J28 false))
   (some (.inl ()))
def AW (p0 : Aa) : Option (Bool) :=
  AA (fun _ : Unit =>
   some false) fun J15 =>
   (iter (A3 p0) FUEL 0).bind fun o =>
  match o with
  | .inl o1 => J15 o1
  | .inr o1 => some o1
def Bu (p0 : List By8) (p1 : List By8) : Option (Bool) :=
   (AA (fun v3 : Bool => some v3) fun J2 => cond (decide ((p1.length : Int) <= (p0.length : Int))) ((slc p0 (IntKind.wrap .i64 ((p0.length : Int) - (p1.length : Int))) (p0.length : Int)).bind fun x4 =>
    J2 (x4 == p1)) (J2 false))
def Bj (p0 : List By8) (p1 : List By8) : Option (Bool) :=
   (Bu p0 p1).bind fun x1 =>
  some x1
def A4 (p0 : Aa) (rec15 : Int -> Option (Unit ⊕ Bool)) (a12 : Int) : Option (Unit ⊕ Bool) :=
  cond (decide (a12 < (p0.Kids.length : Int)))
   ((idx p0.Kids a12).bind fun x18 =>
    (AA (fun v23 : Bool => cond v23
      (some (.inr true))
      (rec15 (IntKind.wrap .i64 (a12 + 1)))) fun J22 => cond ((decide (0 < a12)) && (x18.Kind == 3)) ((idx p0.Kids (IntKind.wrap .i64 (a12 - 1))).bind fun x24 =>
     J22 (x24.Kind == 3)) (J22 false)))
   (some (.inl ()))
def AY (p0 : Aa) : Option (Bool) :=
  AA (fun _ : Unit =>
   cond (p0.Kind == 3)
    (some (p0.Text == []))
    (cond (p0.Kind == 4)
     ((L_Contains p0.Text [45, 45]).bind fun x28 =>
      (AA (fun v31 : Bool => (AA (fun v35 : Bool => some v35) fun J34 => cond v31 (J34 true) ((L_Contains p0.Text [13]).bind fun x36 =>
         J34 x36))) fun J30 => cond x28 (J30 true) ((Bj p0.Text [45]).bind fun x32 =>
       J30 x32)))
     (cond (p0.Kind == 5)
      (AA (fun a45 : Bool =>
       some a45) fun J46 =>
       (L_Contains p0.Text [63, 62]).bind fun x47 =>
      cond x47
       (J46 true)
       ((L_Contains p0.Text [13]).bind fun x50 =>
       cond x50
        (J46 true)
        ((L_TrimLeft p0.Text [32, 9, 10]).bind fun x53 =>
        J46 (!(p0.Text == x53)))))
      (some false)))) fun J11 =>
   (iter (A4 p0) FUEL 0).bind fun o =>
  match o with
  | .inl o1 => J11 o1
  | .inr o1 => some o1
def AL (p0 : Aa) (rec40 : Int × Int -> Option (Int)) : Int × Int -> Option (Int)
  | (a36, a37) =>
  cond (decide (a37 < (p0.Kids.length : Int)))
   (AA (fun a46 : Int =>
    rec40 (a46, (IntKind.wrap .i64 (a37 + 1)))) fun J47 =>
    (idx p0.Kids a37).bind fun x48 =>
   cond (x48.Kind == 2)
    (J47 (IntKind.wrap .i64 (a36 + 1)))
    (J47 a36))
   (some a36)
def AX (p0 : Aa) : Option (Int) :=
   (Ej p0 ([] : List Aa)).bind fun x1 =>
   (AA (fun v6 : Bool => cond v6
     (some 33)
     ((FD p0 0).bind fun x9 =>
     cond x9
      (some 31)
      ((AA (fun v13 : Bool => cond v13
         (some 5)
         ((Ag x1 A5).bind fun x16 =>
         cond x16
          (some 24)
          ((Ag x1 Bt).bind fun x18 =>
          cond x18
           (some 21)
           ((Ag x1 AW).bind fun x20 =>
           cond x20
            (some 34)
            ((Ag x1 AY).bind fun x22 =>
            cond x22
             (some 32)
             (AA (fun a34 : Int =>
              cond (a34 != 1)
               (some 30)
               (some 0)) fun J35 =>
              (iter (AL p0) FUEL (0, 0)).bind fun o =>
             J35 o)))))) fun J12 => cond (decide (2000 < (IntKind.wrap .i64 ((x1.length : Int) - 1)))) (J12 true) ((Ag x1 CE).bind fun x14 =>
        J12 x14))))) fun J5 => cond (p0.Kind != 1) (J5 true) ((Ag x1 CW).bind fun x7 =>
    J5 x7))
def Cw (p0 : Aa) (rec34 : (List (List By8)) × Int -> Option (((List (List By8))))) : (List (List By8)) × Int -> Option (((List (List By8))))
  | (a30, a31) =>
  cond (decide (a31 < (p0.Attrs.length : Int)))
   (AA (fun a43 : List (List By8) =>
    rec34 (a43, (IntKind.wrap .i64 (a31 + 1)))) fun J44 =>
    (idx p0.Attrs a31).bind fun x45 =>
   cond (!(x45.Name.URI == []))
    ((app 16 a30 [x45.Name.URI]).bind fun _ =>
     (some (a30 ++ [x45.Name.URI])).bind fun a49 =>
    J44 a49)
    (J44 a30))
   (some a30)
def Cx (p0 : Aa) (rec0 : Aa × (List (List By8)) -> Option ((List (List By8)))) (rec66 : (List (List By8)) × Int -> Option (((List (List By8))))) : (List (List By8)) × Int -> Option (((List (List By8))))
  | (a62, a63) =>
  cond (decide (a63 < (p0.Kids.length : Int)))
   ((idx p0.Kids a63).bind fun x69 =>
    (rec0 (x69, a62)).bind fun x71 =>
   rec66 (x71, (IntKind.wrap .i64 (a63 + 1))))
   (some a62)
def Bf (rec0 : Aa × (List (List By8)) -> Option ((List (List By8)))) : Aa × (List (List By8)) -> Option ((List (List By8)))
  | (p0, p1) =>
  AA (fun a5 : List (List By8) =>
   AA (fun a27 : List (List By8) =>
    AA (fun a59 : List (List By8) =>
     some a59) fun J60 =>
     (iter (Cx p0 rec0) FUEL (a27, 0)).bind fun o =>
    J60 o) fun J28 =>
    (iter (Cw p0) FUEL (a5, 0)).bind fun o =>
   J28 o) fun J6 =>
  cond (!(p0.Name.URI == []))
   ((app 16 p1 [p0.Name.URI]).bind fun _ =>
    (some (p1 ++ [p0.Name.URI])).bind fun a9 =>
   J6 a9)
   (J6 p1)
def DB (p0 : Aa) (p1 : List (List By8)) : Option ((List (List By8))) := iter Bf FUEL (p0, p1)
def C7 (p0 : Aa) : Option ((List (List By8))) :=
   (DB p0 ([] : List (List By8))).bind fun x2 =>
   (gdL (List.length x2)).bind fun _ =>
   (some (FN x2)).bind fun a4 =>
   (gdL (List.length a4)).bind fun _ =>
   (some (Lib.compact a4)).bind fun a7 =>
  some a7
def AN (p0 : List (List By8)) (p1 : (List By8) -> Option Bool) (rec10 : Int -> Option (Unit ⊕ Int)) (a7 : Int) : Option (Unit ⊕ Int) :=
  cond (decide (a7 < (p0.length : Int)))
   ((idx p0 a7).bind fun x13 =>
    (p1 x13).bind fun x14 =>
   cond x14
    (some (.inr a7))
    (rec10 (IntKind.wrap .i64 (a7 + 1))))
   (some (.inl ()))
def AI (p0 : List (List By8)) (p1 : (List By8) -> Option Bool) : Option (Int) :=
  AA (fun _ : Unit =>
   some (-1 : Int)) fun J6 =>
   (iter (AN p0 p1) FUEL 0).bind fun o =>
  match o with
  | .inl o1 => J6 o1
  | .inr o1 => some o1
def AK (p1 : (List By8) -> Option Bool) (rec31 : (List (List By8)) × Int × Int -> Option (((List (List By8)) × Int))) : (List (List By8)) × Int × Int -> Option (((List (List By8)) × Int))
  | (a25, a27, a28) =>
  cond (decide (a28 < (a25.length : Int)))
   (AA (fun v : (List (List By8)) × Int => match v with
    | (a39, a41) =>
    rec31 (a39, a41, (IntKind.wrap .i64 (a28 + 1)))) fun J42 =>
    (idx a25 a28).bind fun x43 =>
    (p1 x43).bind fun x44 =>
   cond (!x44)
    ((idx a25 a27).bind fun x46 =>
     (some (List.set a25 (Int.toNat a27) x43)).bind fun a47 =>
    J42 (a47, (IntKind.wrap .i64 (a27 + 1))))
    (J42 (a25, a27)))
   (some (a25, a27))
def AQ (p0 : List (List By8)) (p1 : (List By8) -> Option Bool) : Option (List (List By8)) :=
   (AI p0 p1).bind fun x1 =>
  cond (x1 == (-1 : Int))
   (some p0)
   (AA (fun v : (List (List By8)) × Int => match v with
    | (a21, a23) =>
     (slc a21 a23 (a21.length : Int)).bind fun x48 =>
     (ltL a23 (List.length a21)).bind fun _ =>
    some (List.take (Int.toNat a23) a21)) fun J24 =>
    (iter (AK p1) FUEL (p0, x1, (IntKind.wrap .i64 (x1 + 1)))).bind fun o =>
   J24 o)
def Dp (p0 : List By8) : Option (Bool) :=
  some (p0 == [104, 116, 116, 112, 58, 47, 47, 119, 119, 119, 46, 119, 51, 46, 111, 114, 103, 47, 88, 77, 76, 47, 49, 57, 57, 56, 47, 110, 97, 109, 101, 115, 112, 97, 99, 101])
def B5 (p0 : Aa) : Option ((List (List By8))) :=
   (C7 p0).bind fun x1 =>
   (AQ x1 Dp).bind fun x3 =>
  some x3
def BR (p1 : List (List By8)) (rec6 : (List By8) × Int -> Option (((List By8)))) : (List By8) × Int -> Option (((List By8)))
  | (a2, a3) =>
  cond (decide (a3 < (p1.length : Int)))
   ((idx p1 a3).bind fun x9 =>
    (gdL (List.length a2 + List.length x9)).bind fun _ =>
    (some (a2 ++ x9)).bind fun a12 =>
   rec6 (a12, (IntKind.wrap .i64 (a3 + 1))))
   (some a2)
def Ar (p0 : Ah) (p1 : List (List By8)) : Option ((List By8)) :=
   (iter (BR p1) FUEL (p0.Builder.buf, 0)).bind fun o =>
  some o
def CU (p0 : List By8) (p1 : List By8) : Option (Bool) :=
   (Bb p0).bind fun x1 =>
   (AA (fun v4 : Bool => some (v4 || (Op.bytesLess p0 p1))) fun J3 => cond x1 ((Bb p1).bind fun x5 =>
    J3 (!x5)) (J3 false))
def CD (p0 : List By8) : Option (Bool) :=
  some (!(p0 == p0))
def Au (p0 : List (List By8)) (p1 : List By8) (rec13 : Int × Int -> Option (Int)) : Int × Int -> Option (Int)
  | (a9, a10) =>
  cond (decide (a9 < a10))
   ((idx p0 (IntKind.wrap .i64 (RI .u64 (IntKind.wrap .u64 (IntKind.wrap .i64 (a9 + a10))) 1))).bind fun x16 =>
    (CU x16 p1).bind fun x17 =>
   cond x17
    (rec13 ((IntKind.wrap .i64 ((IntKind.wrap .i64 (RI .u64 (IntKind.wrap .u64 (IntKind.wrap .i64 (a9 + a10))) 1)) + 1)), a10))
    (rec13 (a9, (IntKind.wrap .i64 (RI .u64 (IntKind.wrap .u64 (IntKind.wrap .i64 (a9 + a10))) 1)))))
   (some a9)
def AM (p0 : List (List By8)) (p1 : List By8) : Option (Int × Bool) :=
  AA (fun a7 : Int =>
    (AA (fun v21 : Bool => some (a7, v21)) fun J20 => cond (decide (a7 < (p0.length : Int))) ((idx p0 a7).bind fun x22 =>
      (AA (fun v25 : Bool => J20 v25) fun J24 => cond (x22 == p1) (J24 true) ((idx p0 a7).bind fun x26 =>
        (CD x26).bind fun x27 =>
        (AA (fun v30 : Bool => J24 v30) fun J29 => cond x27 ((CD p1).bind fun x31 =>
         J29 x31) (J29 false))))) (J20 false))) fun J8 =>
   (iter (Au p0 p1) FUEL (0, (p0.length : Int))).bind fun o =>
  J8 o
def Dh (p0 : Int) : Option ((List By8)) :=
   (L_Itoa (IntKind.wrap .i64 (p0 + 1))).bind fun x1 =>
   (cat [110] x1).bind fun _ =>
  some ([110] ++ x1)
def BG (p0 : Ah) (p1 : Ac) : Option ((List By8)) :=
  cond (p1.URI == [])
   (some p1.Local)
   (cond (p1.URI == [104, 116, 116, 112, 58, 47, 47, 119, 119, 119, 46, 119, 51, 46, 111, 114, 103, 47, 88, 77, 76, 47, 49, 57, 57, 56, 47, 110, 97, 109, 101, 115, 112, 97, 99, 101])
    ((cat [120, 109, 108, 58] p1.Local).bind fun _ =>
    some ([120, 109, 108, 58] ++ p1.Local))
    ((AM p0.prefixes p1.URI).bind fun x3 =>
     (Dh x3.1).bind fun x4 =>
     (cat x4 [58]).bind fun _ =>
     (cat (x4 ++ [58]) p1.Local).bind fun _ =>
    some ((x4 ++ [58]) ++ p1.Local)))
def A0 (p0 : Ah) (p2 : Bool) (rec30 : (List By8) × Int -> Option (((List By8)))) : (List By8) × Int -> Option (((List By8)))
  | (a26, a27) =>
  cond (decide (a27 < (p0.prefixes.length : Int)))
   (AA (fun a40 : List By8 =>
    rec30 (a40, (IntKind.wrap .i64 (a27 + 1)))) fun J41 =>
    (idx p0.prefixes a27).bind fun x42 =>
   cond p2
    ((Dh a27).bind fun x44 =>
     (L_referQuote x42).bind fun x45 =>
     (Ar (⟨(⟨(), a26⟩ : Ai), p0.prefixes⟩ : Ah) ([[32, 120, 109, 108, 110, 115, 58], x44, [61, 34], x45, [34]])).bind fun x46 =>
    J41 x46)
    (J41 a26))
   (some a26)
def A2 (p0 : Ah) (p1 : Aa) (rec70 : (List By8) × Int -> Option (((List By8)))) : (List By8) × Int -> Option (((List By8)))
  | (a66, a67) =>
  cond (decide (a67 < (p1.Attrs.length : Int)))
   ((idx p1.Attrs a67).bind fun x73 =>
    (BG (⟨(⟨(), a66⟩ : Ai), p0.prefixes⟩ : Ah) x73.Name).bind fun x75 =>
    (L_referQuote x73.Value).bind fun x76 =>
    (Ar (⟨(⟨(), a66⟩ : Ai), p0.prefixes⟩ : Ah) ([[32], x75, [61, 34], x76, [34]])).bind fun x77 =>
   rec70 (x77, (IntKind.wrap .i64 (a67 + 1))))
   (some a66)
def A1 (p0 : Ah) (p1 : Aa) (rec0 : Ah × Aa × Bool -> Option ((List By8))) (rec101 : (List By8) × Int -> Option (((List By8)))) : (List By8) × Int -> Option (((List By8)))
  | (a97, a98) =>
  cond (decide (a98 < (p1.Kids.length : Int)))
   ((idx p1.Kids a98).bind fun x104 =>
    (rec0 ((⟨(⟨(), a97⟩ : Ai), p0.prefixes⟩ : Ah), x104, false)).bind fun x106 =>
   rec101 (x106, (IntKind.wrap .i64 (a98 + 1))))
   (some a97)
def Bd (rec0 : Ah × Aa × Bool -> Option ((List By8))) (p0 : Ah) (p1 : Aa) (p2 : Bool) : Option ((List By8)) :=
   (BG (⟨(⟨(), p0.Builder.buf⟩ : Ai), p0.prefixes⟩ : Ah) p1.Name).bind fun x1 =>
   (Ar (⟨(⟨(), p0.Builder.buf⟩ : Ai), p0.prefixes⟩ : Ah) ([[60], x1])).bind fun x2 =>
  AA (fun a23 : List By8 =>
   AA (fun a63 : List By8 =>
     (Ar (⟨(⟨(), a63⟩ : Ai), p0.prefixes⟩ : Ah) ([[62]])).bind fun x83 =>
    AA (fun a94 : List By8 =>
      (Ar (⟨(⟨(), a94⟩ : Ai), p0.prefixes⟩ : Ah) ([[60, 47], x1, [62]])).bind fun x108 =>
     some x108) fun J95 =>
     (iter (A1 p0 p1 rec0) FUEL (x83, 0)).bind fun o =>
    J95 o) fun J64 =>
    (iter (A2 p0 p1) FUEL (a23, 0)).bind fun o =>
   J64 o) fun J24 =>
   (iter (A0 p0 p2) FUEL (x2, 0)).bind fun o =>
  J24 o
def Aw (rec0 : Ah × Aa × Bool -> Option ((List By8))) : Ah × Aa × Bool -> Option ((List By8))
  | (p0, p1, p2) =>
  cond (p1.Kind == 3)
   ((L_referText p1.Text).bind fun x2 =>
    (Ar (⟨(⟨(), p0.Builder.buf⟩ : Ai), p0.prefixes⟩ : Ah) ([x2])).bind fun x3 =>
   some x3)
   (cond (p1.Kind == 4)
    ((Ar (⟨(⟨(), p0.Builder.buf⟩ : Ai), p0.prefixes⟩ : Ah) ([[60, 33, 45, 45], p1.Text, [45, 45, 62]])).bind fun x6 =>
    some x6)
    (cond (p1.Kind == 5)
     ((Ar (⟨(⟨(), p0.Builder.buf⟩ : Ai), p0.prefixes⟩ : Ah) ([[60, 63], p1.Name.Local])).bind fun x9 =>
     AA (fun a15 : List By8 =>
       (Ar (⟨(⟨(), a15⟩ : Ai), p0.prefixes⟩ : Ah) ([[63, 62]])).bind fun x20 =>
      some x20) fun J16 =>
     cond (!(p1.Text == []))
      ((Ar (⟨(⟨(), x9⟩ : Ai), p0.prefixes⟩ : Ah) ([[32], p1.Text])).bind fun x18 =>
      J16 x18)
      (J16 x9))
     (cond (p1.Kind == 2)
      ((Bd rec0 (⟨(⟨(), p0.Builder.buf⟩ : Ai), p0.prefixes⟩ : Ah) p1 p2).bind fun x23 =>
      some x23)
      (some p0.Builder.buf))))
def Cj (p0 : Ah) (p1 : Aa) (p2 : Bool) : Option ((List By8)) := iter Aw FUEL (p0, p1, p2)
def Cv (p0 : Aa) (x3 : (List (List By8))) (rec25 : (List By8) × Int -> Option (((List By8)))) : (List By8) × Int -> Option (((List By8)))
  | (a21, a22) =>
  cond (decide (a22 < (p0.Kids.length : Int)))
   ((idx p0.Kids a22).bind fun x28 =>
    (Cj (⟨(⟨(), a21⟩ : Ai), x3⟩ : Ah) x28 true).bind fun x30 =>
    (gdL (List.length x30 + 1)).bind fun _ =>
    (some (x30 ++ [(10 : By8)])).bind fun a34 =>
   rec25 (a34, (IntKind.wrap .i64 (a22 + 1))))
   (some a21)
def C6 (p0 : Aa) : Option ((List By8) × Int) :=
   (AX p0).bind fun x1 =>
  cond (x1 != 0)
   (some ([], x1))
   ((B5 p0).bind fun x3 =>
   AA (fun a18 : List By8 =>
    cond (decide (65536 < (a18.length : Int)))
     (some ([], 6))
     ((gdN a18).bind fun _ =>
     some (a18, 0))) fun J19 =>
    (iter (Cv p0 x3) FUEL ([], 0)).bind fun o =>
   J19 o)
def CN : Option (Bool) :=
   (C6 (⟨1, (⟨[], []⟩ : Ac), [], [(⟨2, (⟨[117], [97]⟩ : Ac), [(⟨(⟨[], [98]⟩ : Ac), [49, 60]⟩ : Ae)], [(⟨2, (⟨[], [99]⟩ : Ac), [], [], []⟩ : Aa)], []⟩ : Aa)], []⟩ : Aa)).bind fun x2 =>
  some ((x2.2 == 0) && (x2.1 == [60, 110, 49, 58, 97, 32, 120, 109, 108, 110, 115, 58, 110, 49, 61, 34, 117, 34, 32, 98, 61, 34, 49, 38, 108, 116, 59, 34, 62, 60, 99, 62, 60, 47, 99, 62, 60, 47, 110, 49, 58, 97, 62, 10]))
def BH (p0 : List By8) (p1 : List By8) : Option (Bool) :=
  some (p0 == p1)
def BJ (p0 : Aa) (p1 : List By8) : Option (Bool) :=
   (CN ).bind fun x1 =>
  cond (!x1)
   (some false)
   ((C6 p0).bind fun x3 =>
   cond (x3.2 != 0)
    (some true)
    ((app 104 [(⟨4, (⟨[], []⟩ : Ac), [], [], p1⟩ : Aa)] p0.Kids).bind fun _ =>
     (C6 (⟨1, (⟨[], []⟩ : Ac), [], ([(⟨4, (⟨[], []⟩ : Ac), [], [], p1⟩ : Aa)] ++ p0.Kids), []⟩ : Aa)).bind fun x9 =>
    cond (x9.2 != 0)
     ((AX (⟨1, (⟨[], []⟩ : Ac), [], ([(⟨4, (⟨[], []⟩ : Ac), [], [], p1⟩ : Aa)] ++ p0.Kids), []⟩ : Aa)).bind fun x11 =>
     some ((x11 != 0) || ((x9.2 == 6) && (decide (65536 < (IntKind.wrap .i64 ((IntKind.wrap .i64 ((x3.1.length : Int) + (p1.length : Int))) + 8)))))))
     ((cat [60, 33, 45, 45] p1).bind fun _ =>
      (cat ([60, 33, 45, 45] ++ p1) [45, 45, 62, 10]).bind fun _ =>
      (app 1 (([60, 33, 45, 45] ++ p1) ++ [45, 45, 62, 10]) x3.1).bind fun _ =>
      (BH x9.1 ((([60, 33, 45, 45] ++ p1) ++ [45, 45, 62, 10]) ++ x3.1)).bind fun x17 =>
     some x17)))
def Cl (p0 : Aa) (rec0 : Aa -> Option ((List Aa))) (rec18 : (List Aa) × Int -> Option (((List Aa)))) : (List Aa) × Int -> Option (((List Aa)))
  | (a13, a15) =>
  cond (decide (a15 < (p0.Kids.length : Int)))
   ((idx p0.Kids a15).bind fun x21 =>
    (rec0 x21).bind fun x23 =>
    (app 104 a13 x23).bind fun _ =>
   rec18 ((a13 ++ x23), (IntKind.wrap .i64 (a15 + 1))))
   (some a13)
def Cy (rec0 : Aa -> Option ((List Aa))) : Aa -> Option ((List Aa))
  | p0 =>
  AA (fun a10 : List Aa =>
   some a10) fun J12 =>
   (iter (Cl p0 rec0) FUEL ([p0], 0)).bind fun o =>
  J12 o
def DZ (p0 : Aa) : Option ((List Aa)) := iter Cy FUEL p0
def Co (p0 : Aa) (rec0 : Aa × Int -> Option (Bool)) (a3 : Int) (rec17 : Int -> Option (Unit ⊕ Bool)) (a14 : Int) : Option (Unit ⊕ Bool) :=
  cond (decide (a14 < (p0.Kids.length : Int)))
   ((idx p0.Kids a14).bind fun x20 =>
    (rec0 (x20, a3)).bind fun x22 =>
   cond x22
    (some (.inr true))
    (rec17 (IntKind.wrap .i64 (a14 + 1))))
   (some (.inl ()))
def CA (rec0 : Aa × Int -> Option (Bool)) : Aa × Int -> Option (Bool)
  | (p0, p1) =>
  AA (fun a3 : Int =>
   AA (fun _ : Unit =>
    some false) fun J13 =>
    (iter (Co p0 rec0 a3) FUEL 0).bind fun o =>
   match o with
   | .inl o1 => J13 o1
   | .inr o1 => some o1) fun J4 =>
  cond (p0.Kind == 2)
   (cond (decide (p1 < 0))
    (some true)
    (J4 (IntKind.wrap .i64 (p1 - 1))))
   (J4 p1)
def EL (p0 : Aa) (p1 : Int) : Option (Bool) := iter CA FUEL (p0, p1)
def Ct (p0 : Aa) (rec20 : Int -> Option (Unit ⊕ Bool)) (a17 : Int) : Option (Unit ⊕ Bool) :=
  cond (decide (a17 < (p0.Kids.length : Int)))
   ((idx p0.Kids a17).bind fun x23 =>
   cond ((!((p0.Kind == 1) && (((x23.Kind == 2) || (x23.Kind == 4)) || (x23.Kind == 5)))) && (!((p0.Kind == 2) && ((((x23.Kind == 2) || (x23.Kind == 4)) || (x23.Kind == 5)) || (x23.Kind == 3)))))
    (some (.inr false))
    (rec20 (IntKind.wrap .i64 (a17 + 1))))
   (some (.inl ()))
def DQ (p0 : Aa) : Option (Bool) :=
  AA (fun _ : Unit =>
   cond (p0.Kind == 1)
    (some ((((p0.Name.URI == (⟨[], []⟩ : Ac).URI) && ((p0.Name.Local == (⟨[], []⟩ : Ac).Local) && true)) && (p0.Text == [])) && ((p0.Attrs.length : Int) == 0)))
    (cond (p0.Kind == 2)
     (some (p0.Text == []))
     (AA (fun a41 : Bool =>
      cond a41
       (some ((((p0.Name.URI == (⟨[], []⟩ : Ac).URI) && ((p0.Name.Local == (⟨[], []⟩ : Ac).Local) && true)) && ((p0.Attrs.length : Int) == 0)) && ((p0.Kids.length : Int) == 0)))
       (cond (p0.Kind == 5)
        (some (((p0.Name.URI == []) && ((p0.Attrs.length : Int) == 0)) && ((p0.Kids.length : Int) == 0)))
        (some false))) fun J42 =>
     cond (p0.Kind == 3)
      (J42 (p0.Kind == 3))
      (J42 (p0.Kind == 4))))) fun J16 =>
   (iter (Ct p0) FUEL 0).bind fun o =>
  match o with
  | .inl o1 => J16 o1
  | .inr o1 => some o1
def Cq (p0 : Aa) (rec10 : Int -> Option (Unit ⊕ Bool)) (a7 : Int) : Option (Unit ⊕ Bool) :=
  cond (decide (a7 < (p0.Attrs.length : Int)))
   ((idx p0.Attrs a7).bind fun x13 =>
   cond (decide (8192 < (x13.Value.length : Int)))
    (some (.inr false))
    (rec10 (IntKind.wrap .i64 (a7 + 1))))
   (some (.inl ()))
def DY (p0 : Aa) : Option (Bool) :=
  AA (fun _ : Unit =>
   some ((decide ((p0.Attrs.length : Int) <= 64)) && (decide ((p0.Text.length : Int) <= 8192)))) fun J6 =>
   (iter (Cq p0) FUEL 0).bind fun o =>
  match o with
  | .inl o1 => J6 o1
  | .inr o1 => some o1
def Ak (p0 : List By8) (p1 : Int) (a9 : Int) (rec33 : Int × Int -> Option (Int ⊕ (Int × Int))) : Int × Int -> Option (Int ⊕ (Int × Int))
  | (a29, a30) =>
  cond (decide (a30 < a9))
   ((idx p0 (IntKind.wrap .i64 (p1 + a30))).bind fun x36 =>
   cond ((decide ((IntKind.wrap .i64 (x36.toNat : Int)) < 128)) || (decide (191 < (IntKind.wrap .i64 (x36.toNat : Int)))))
    (some (.inr (0, 0)))
    (rec33 ((IntKind.wrap .i64 ((IntKind.wrap .i64 ((IntKind.wrap .i64 (64 * a29)) + (IntKind.wrap .i64 (x36.toNat : Int)))) - 128)), (IntKind.wrap .i64 (a30 + 1)))))
   (some (.inl a29))
def Ci (p0 : List By8) (p1 : Int) : Option (Int × Int) :=
   (idx p0 p1).bind fun x1 =>
  AA (fun v : Int × Int × Int => match v with
   | (a9, a10, a11) =>
   cond (decide ((p0.length : Int) < (IntKind.wrap .i64 (p1 + a9))))
    (some (0, 0))
    (AA (fun a27 : Int =>
     cond (((decide (a27 < a11)) || (decide (1114111 < a27))) || ((decide (55296 <= a27)) && (decide (a27 <= 57343))))
      (some (0, 0))
      (some (a27, a9))) fun J28 =>
     (iter (Ak p0 p1 a9) FUEL (a10, 1)).bind fun o =>
    match o with
    | .inl o1 => J28 o1
    | .inr o1 => some o1)) fun J12 =>
  cond (decide ((IntKind.wrap .i64 (x1.toNat : Int)) < 128))
   (some ((IntKind.wrap .i64 (x1.toNat : Int)), 1))
   (cond ((decide (192 <= (IntKind.wrap .i64 (x1.toNat : Int)))) && (decide ((IntKind.wrap .i64 (x1.toNat : Int)) < 224)))
    (J12 (2, (IntKind.wrap .i64 ((IntKind.wrap .i64 (x1.toNat : Int)) - 192)), 128))
    (cond ((decide (224 <= (IntKind.wrap .i64 (x1.toNat : Int)))) && (decide ((IntKind.wrap .i64 (x1.toNat : Int)) < 240)))
     (J12 (3, (IntKind.wrap .i64 ((IntKind.wrap .i64 (x1.toNat : Int)) - 224)), 2048))
     (cond ((decide (240 <= (IntKind.wrap .i64 (x1.toNat : Int)))) && (decide ((IntKind.wrap .i64 (x1.toNat : Int)) < 248)))
      (J12 (4, (IntKind.wrap .i64 ((IntKind.wrap .i64 (x1.toNat : Int)) - 240)), 65536))
      (some (0, 0)))))
def CQ (p0 : Int) : Option (Bool) :=
  AA (fun a5 : Bool =>
   cond a5
    (some true)
    (cond ((decide (192 <= p0)) && (decide (p0 <= 767)))
     (some ((p0 != 215) && (p0 != 247)))
     (cond ((decide (880 <= p0)) && (decide (p0 <= 8191)))
      (some (p0 != 894))
      (AA (fun a18 : Bool =>
       cond a18
        (some true)
        (AA (fun a27 : Bool =>
         cond a27
          (some true)
          (cond ((decide (63744 <= p0)) && (decide (p0 <= 65533)))
           (some ((decide (p0 < 64976)) || (decide (65008 <= p0))))
           (some ((decide (65536 <= p0)) && (decide (p0 <= 983039)))))) fun J28 =>
        cond ((decide (8304 <= p0)) && (decide (p0 <= 8591)))
         (J28 ((decide (8304 <= p0)) && (decide (p0 <= 8591))))
         (cond ((decide (11264 <= p0)) && (decide (p0 <= 12271)))
          (J28 ((decide (11264 <= p0)) && (decide (p0 <= 12271))))
          (J28 ((decide (12289 <= p0)) && (decide (p0 <= 55295))))))) fun J19 =>
      cond (p0 == 8204)
       (J19 (p0 == 8204))
       (J19 (p0 == 8205)))))) fun J6 =>
  cond ((decide (65 <= p0)) && (decide (p0 <= 90)))
   (J6 ((decide (65 <= p0)) && (decide (p0 <= 90))))
   (cond (p0 == 95)
    (J6 (p0 == 95))
    (J6 ((decide (97 <= p0)) && (decide (p0 <= 122)))))
def DT (p0 : Int) : Option (Bool) :=
   (CQ p0).bind fun x1 =>
  some (((((((x1 || (p0 == 45)) || (p0 == 46)) || ((decide (48 <= p0)) && (decide (p0 <= 57)))) || (p0 == 183)) || ((decide (768 <= p0)) && (decide (p0 <= 879)))) || (p0 == 8255)) || (p0 == 8256))
def Cr (p0 : List By8) (rec22 : Int -> Option (Unit ⊕ Bool)) (a19 : Int) : Option (Unit ⊕ Bool) :=
  cond (decide (a19 < (p0.length : Int)))
   ((Ci p0 a19).bind fun x25 =>
    (AA (fun v28 : Bool => (AA (fun v32 : Bool => cond v32
        (some (.inr false))
        (rec22 (IntKind.wrap .i64 (a19 + x25.2)))) fun J31 => cond v28 (J31 true) ((AA (fun v35 : Bool => J31 v35) fun J34 => cond (a19 == 0) ((CQ x25.1).bind fun x36 =>
         J34 (!x36)) (J34 false))))) fun J27 => cond (x25.2 == 0) (J27 true) ((DT x25.1).bind fun x29 =>
     J27 (!x29))))
   (some (.inl ()))
def C3 (p0 : List By8) : Option (Bool) :=
  cond (((p0.length : Int) == 0) || (decide (100 < (p0.length : Int))))
   (some false)
   (AA (fun _ : Unit =>
    some true) fun J18 =>
    (iter (Cr p0) FUEL 0).bind fun o =>
   match o with
   | .inl o1 => J18 o1
   | .inr o1 => some o1)
def DV (p0 : Int) : Option (Bool) :=
  some ((((((p0 == 9) || (p0 == 10)) || (p0 == 13)) || ((decide (32 <= p0)) && (decide (p0 <= 55295)))) || ((decide (57344 <= p0)) && (decide (p0 <= 65533)))) || ((decide (65536 <= p0)) && (decide (p0 <= 1114111))))
def C8 (p0 : List By8) (rec11 : Int -> Option (Unit ⊕ (Int × Int))) (a8 : Int) : Option (Unit ⊕ (Int × Int)) :=
  cond (decide (a8 < (p0.length : Int)))
   ((Ci p0 a8).bind fun x14 =>
   cond (x14.2 == 0)
    (some (.inr (a8, 20)))
    ((DV x14.1).bind fun x16 =>
    cond (!x16)
     (some (.inr (a8, 21)))
     (rec11 (IntKind.wrap .i64 (a8 + x14.2)))))
   (some (.inl ()))
def DH (p0 : List By8) : Option (Int × Int) :=
  AA (fun _ : Unit =>
   some (0, 0)) fun J7 =>
   (iter (C8 p0) FUEL 0).bind fun o =>
  match o with
  | .inl o1 => J7 o1
  | .inr o1 => some o1
def Ck (p0 : List By8) : Option (Bool) :=
   (DH p0).bind fun x1 =>
  some (x1.2 == 0)
def CB (p0 : Ac) : Option (Bool) :=
   (C3 p0.Local).bind fun x1 =>
   (AA (fun v5 : Bool => some (v5 && (!(p0.URI == [104, 116, 116, 112, 58, 47, 47, 119, 119, 119, 46, 119, 51, 46, 111, 114, 103, 47, 50, 48, 48, 48, 47, 120, 109, 108, 110, 115, 47])))) fun J4 => cond (x1 && (decide ((p0.URI.length : Int) <= 100))) ((Ck p0.URI).bind fun x6 =>
    J4 x6) (J4 false))
def Cs (p0 : Aa) (rec19 : Int -> Option (Unit ⊕ Bool)) (a16 : Int) : Option (Unit ⊕ Bool) :=
  cond (decide (a16 < (p0.Attrs.length : Int)))
   ((idx p0.Attrs a16).bind fun x22 =>
    (CB x22.Name).bind fun x24 =>
   cond ((!x24) || ((x22.Name.URI == []) && (x22.Name.Local == [120, 109, 108, 110, 115])))
    (some (.inr false))
    (rec19 (IntKind.wrap .i64 (a16 + 1))))
   (some (.inl ()))
def D1 (p0 : Aa) : Option (Bool) :=
   (AA (fun v3 : Bool => cond v3
     (some false)
     (AA (fun _ : Unit =>
       (AA (fun v31 : Bool => some v31) fun J30 => cond (p0.Kind != 5) (J30 true) ((C3 p0.Name.Local).bind fun x32 =>
         (AA (fun v35 : Bool => J30 v35) fun J34 => cond x32 ((AA (fun v38 : Bool => (AA (fun v46 : Bool => (AA (fun v54 : Bool => J34 (!v54)) fun J53 => cond v46 ((idx p0.Name.Local 2).bind fun x55 =>
                 (AA (fun v58 : Bool => J53 v58) fun J57 => cond ((x55.toNat : Int) == 108) (J57 true) ((idx p0.Name.Local 2).bind fun x59 =>
                  J57 ((x59.toNat : Int) == 76)))) (J53 false))) fun J45 => cond v38 ((idx p0.Name.Local 1).bind fun x47 =>
               (AA (fun v50 : Bool => J45 v50) fun J49 => cond ((x47.toNat : Int) == 109) (J49 true) ((idx p0.Name.Local 1).bind fun x51 =>
                J49 ((x51.toNat : Int) == 77)))) (J45 false))) fun J37 => cond ((p0.Name.Local.length : Int) == 3) ((idx p0.Name.Local 0).bind fun x39 =>
             (AA (fun v42 : Bool => J37 v42) fun J41 => cond ((x39.toNat : Int) == 120) (J41 true) ((idx p0.Name.Local 0).bind fun x43 =>
              J41 ((x43.toNat : Int) == 88)))) (J37 false))) (J34 false))))) fun J15 =>
      (iter (Cs p0) FUEL 0).bind fun o =>
     match o with
     | .inl o1 => J15 o1
     | .inr o1 => some o1)) fun J2 => cond (p0.Kind == 2) ((CB p0.Name).bind fun x4 =>
    J2 (!x4)) (J2 false))
def Cc (p0 : Aa) (rec11 : Int -> Option (Unit ⊕ Bool)) (a8 : Int) : Option (Unit ⊕ Bool) :=
  cond (decide (a8 < (p0.Attrs.length : Int)))
   ((idx p0.Attrs a8).bind fun x14 =>
    (Ck x14.Value).bind fun x16 =>
   cond (!x16)
    (some (.inr false))
    (rec11 (IntKind.wrap .i64 (a8 + 1))))
   (some (.inl ()))
def DI (p0 : Aa) : Option (Bool) :=
  AA (fun _ : Unit =>
    (Ck p0.Text).bind fun x18 =>
   some x18) fun J7 =>
   (iter (Cc p0) FUEL 0).bind fun o =>
  match o with
  | .inl o1 => J7 o1
  | .inr o1 => some o1
def F7 (p0 : Ac) (p1 : Ac) : Option (Bool) :=
  some ((Op.bytesLess p0.URI p1.URI) || ((p0.URI == p1.URI) && (Op.bytesLess p0.Local p1.Local)))
def B9 (p0 : Aa) (rec11 : Int -> Option (Unit ⊕ Bool)) (a8 : Int) : Option (Unit ⊕ Bool) :=
  cond (decide (a8 < (p0.Attrs.length : Int)))
   ((idx p0.Attrs (IntKind.wrap .i64 (a8 - 1))).bind fun x14 =>
    (idx p0.Attrs a8).bind fun x15 =>
    (F7 x14.Name x15.Name).bind fun x16 =>
   cond (!x16)
    (some (.inr false))
    (rec11 (IntKind.wrap .i64 (a8 + 1))))
   (some (.inl ()))
def DE (p0 : Aa) : Option (Bool) :=
  AA (fun _ : Unit =>
   some true) fun J7 =>
   (iter (B9 p0) FUEL 1).bind fun o =>
  match o with
  | .inl o1 => J7 o1
  | .inr o1 => some o1
def Cz (p0 : List By8) (p1 : List By8) (rec9 : Int -> Option (Unit ⊕ Bool)) (a6 : Int) : Option (Unit ⊕ Bool) :=
  cond (decide ((IntKind.wrap .i64 (a6 + (p1.length : Int))) <= (p0.length : Int)))
   ((slc p0 a6 (IntKind.wrap .i64 (a6 + (p1.length : Int)))).bind fun x12 =>
   cond (x12 == p1)
    (some (.inr true))
    (rec9 (IntKind.wrap .i64 (a6 + 1))))
   (some (.inl ()))
def BY (p0 : List By8) (p1 : List By8) : Option (Bool) :=
  AA (fun _ : Unit =>
   some false) fun J5 =>
   (iter (Cz p0 p1) FUEL 0).bind fun o =>
  match o with
  | .inl o1 => J5 o1
  | .inr o1 => some o1
def Cu (p0 : Aa) (rec13 : Int -> Option (Unit ⊕ Bool)) (a10 : Int) : Option (Unit ⊕ Bool) :=
  cond (decide (a10 < (p0.Kids.length : Int)))
   ((idx p0.Kids a10).bind fun x16 =>
    (AA (fun v19 : Bool => cond v19
      (some (.inr false))
      (rec13 (IntKind.wrap .i64 (a10 + 1)))) fun J18 => cond (x16.Kind == 3) ((idx p0.Kids (IntKind.wrap .i64 (a10 - 1))).bind fun x20 =>
     J18 (x20.Kind == 3)) (J18 false)))
   (some (.inl ()))
def DU (p0 : Aa) : Option (Bool) :=
  AA (fun _ : Unit =>
   cond (p0.Kind == 3)
    (some (!(p0.Text == [])))
    (cond (p0.Kind == 4)
     ((BY p0.Text [45, 45]).bind fun x24 =>
      (AA (fun v27 : Bool => (AA (fun v31 : Bool => some v31) fun J30 => cond v27 ((AA (fun v34 : Bool => J30 v34) fun J33 => cond (p0.Text == []) (J33 true) ((idx p0.Text (IntKind.wrap .i64 ((p0.Text.length : Int) - 1))).bind fun x35 =>
           J33 ((x35.toNat : Int) != 45)))) (J30 false))) fun J26 => cond (!x24) ((BY p0.Text [13]).bind fun x28 =>
       J26 (!x28)) (J26 false)))
     (cond (p0.Kind == 5)
      ((BY p0.Text [63, 62]).bind fun x37 =>
       (AA (fun v40 : Bool => (AA (fun v44 : Bool => some v44) fun J43 => cond v40 ((AA (fun v47 : Bool => J43 v47) fun J46 => cond (p0.Text == []) (J46 true) ((idx p0.Text 0).bind fun x48 =>
             (AA (fun v51 : Bool => (AA (fun v55 : Bool => J46 v55) fun J54 => cond v51 ((idx p0.Text 0).bind fun x56 =>
                J54 ((x56.toNat : Int) != 10)) (J54 false))) fun J50 => cond ((x48.toNat : Int) != 32) ((idx p0.Text 0).bind fun x52 =>
              J50 ((x52.toNat : Int) != 9)) (J50 false))))) (J43 false))) fun J39 => cond (!x37) ((BY p0.Text [13]).bind fun x41 =>
        J39 (!x41)) (J39 false)))
      (some true)))) fun J9 =>
   (iter (Cu p0) FUEL 1).bind fun o =>
  match o with
  | .inl o1 => J9 o1
  | .inr o1 => some o1
def Bs (x2 : (List Aa)) (rec58 : Bool × Bool × Bool × Bool × Bool × Bool × Bool × Int -> Option ((Bool × Bool × Bool × Bool × Bool × Bool × Bool))) : Bool × Bool × Bool × Bool × Bool × Bool × Bool × Int -> Option ((Bool × Bool × Bool × Bool × Bool × Bool × Bool))
  | (a48, a49, a50, a51, a52, a53, a54, a55) =>
  cond (decide (a55 < (x2.length : Int)))
   ((idx x2 a55).bind fun x61 =>
    (AA (fun v65 : Bool => (AA (fun v69 : Bool => (AA (fun v73 : Bool => (AA (fun v77 : Bool => (AA (fun v81 : Bool => (AA (fun v85 : Bool => rec58 (v65, a49, v69, v73, v77, v81, v85, (IntKind.wrap .i64 (a55 + 1)))) fun J84 => cond a54 ((DU x61).bind fun x86 =>
               J84 x86) (J84 false))) fun J80 => cond a53 ((DE x61).bind fun x82 =>
             J80 x82) (J80 false))) fun J76 => cond a52 ((DI x61).bind fun x78 =>
           J76 x78) (J76 false))) fun J72 => cond a51 ((D1 x61).bind fun x74 =>
         J72 x74) (J72 false))) fun J68 => cond a50 ((DY x61).bind fun x70 =>
       J68 x70) (J68 false))) fun J64 => cond a48 ((DQ x61).bind fun x66 =>
     J64 x66) (J64 false)))
   (some (a48, a49, a50, a51, a52, a53, a54))
def Ca (p0 : Aa) (rec103 : Int × Int -> Option (Int)) : Int × Int -> Option (Int)
  | (a99, a100) =>
  cond (decide (a100 < (p0.Kids.length : Int)))
   (AA (fun a109 : Int =>
    rec103 (a109, (IntKind.wrap .i64 (a100 + 1)))) fun J110 =>
    (idx p0.Kids a100).bind fun x111 =>
   cond (x111.Kind == 2)
    (J110 (IntKind.wrap .i64 (a99 + 1)))
    (J110 a99))
   (some a99)
def Eb (a40 : Bool) (a41 : Bool) (a42 : Bool) (a43 : Bool) (a44 : Bool) (a45 : Bool) (a46 : Bool) (rec123 : Int -> Option (Unit ⊕ Int)) (a120 : Int) : Option (Unit ⊕ Int) :=
  cond (decide (a120 < 7))
   ((X6 7 ([a40, a41, a42, a43, a44, a45, a46] : List Bool) a120).bind fun x126 =>
   cond (!x126)
    ((X6 7 [33, 31, 5, 24, 21, 34, 32] a120).bind fun x128 =>
    some (.inr x128))
    (rec123 (IntKind.wrap .i64 (a120 + 1))))
   (some (.inl ()))
def B7 (p0 : Aa) : Option (Int) :=
  cond (p0.Kind != 1)
   (some 33)
   ((DZ p0).bind fun x2 =>
    (EL p0 32).bind fun x3 =>
   AA (fun v : Bool × Bool × Bool × Bool × Bool × Bool × Bool => match v with
    | (a40, a41, a42, a43, a44, a45, a46) =>
    AA (fun a97 : Int =>
     AA (fun _ : Unit =>
      cond (a97 != 1)
       (some 30)
       (some 0)) fun J119 =>
      (iter (Eb a40 a41 a42 a43 a44 a45 a46) FUEL 0).bind fun o =>
     match o with
     | .inl o1 => J119 o1
     | .inr o1 => some o1) fun J98 =>
     (iter (Ca p0) FUEL (0, 0)).bind fun o =>
    J98 o) fun J47 =>
    (iter (Bs x2) FUEL (true, (!x3), (decide ((x2.length : Int) <= 2001)), true, true, true, true, 0)).bind fun o =>
   J47 o)
def Bn (x255 : Aa) (rec273 : (List (List By8)) × Int -> Option (((List (List By8))))) : (List (List By8)) × Int -> Option (((List (List By8))))
  | (a268, a270) =>
  cond (decide (a270 < (x255.Attrs.length : Int)))
   ((idx x255.Attrs a270).bind fun x276 =>
    (app 16 a268 [x276.Name.URI]).bind fun _ =>
   rec273 ((a268 ++ [x276.Name.URI]), (IntKind.wrap .i64 (a270 + 1))))
   (some a268)
def Bo (a279 : List (List By8)) (x316 : List By8) (rec328 : Int -> Option (Int)) (a325 : Int) : Option (Int) :=
   (AA (fun v332 : Bool => cond v332
     (rec328 (IntKind.wrap .i64 (a325 + 1)))
     (some a325)) fun J331 => cond (decide (a325 < (a279.length : Int))) ((idx a279 a325).bind fun x333 =>
    J331 (Op.bytesLess x333 x316)) (J331 false))
def Bm (a265 : List (List By8)) (rec283 : (List (List By8)) × Int -> Option (((List (List By8))))) : (List (List By8)) × Int -> Option (((List (List By8))))
  | (a279, a280) =>
  cond (decide (a280 < (a265.length : Int)))
   (AA (fun a314 : List (List By8) =>
    rec283 (a314, (IntKind.wrap .i64 (a280 + 1)))) fun J315 =>
    (idx a265 a280).bind fun x316 =>
   AA (fun a323 : Int =>
     (AA (fun v337 : Bool => cond v337
       ((slc a279 0 a323).bind fun x343 =>
        (slc a279 a323 (a279.length : Int)).bind fun x344 =>
        (app 16 ([] : List (List By8)) x343).bind fun _ =>
        (app 16 ([] ++ x343) [x316]).bind fun _ =>
        (app 16 (([] ++ x343) ++ [x316]) x344).bind fun _ =>
       J315 ((([] ++ x343) ++ [x316]) ++ x344))
       (J315 a279)) fun J336 => cond (!(x316 == [])) ((AA (fun v340 : Bool => J336 v340) fun J339 => cond (a323 == (a279.length : Int)) (J339 true) ((idx a279 a323).bind fun x341 =>
        J339 (!(x341 == x316))))) (J336 false))) fun J324 =>
    (iter (Bo a279 x316) FUEL 0).bind fun o =>
   J324 o)
   (some a279)
def B2 (x166 : (List Aa)) (rec171 : (List (List By8)) × Int -> Option (((List (List By8))))) : (List (List By8)) × Int -> Option (((List (List By8))))
  | (a167, a168) =>
  cond (decide (a168 < (x166.length : Int)))
   (AA (fun a253 : List (List By8) =>
    rec171 (a253, (IntKind.wrap .i64 (a168 + 1)))) fun J254 =>
    (idx x166 a168).bind fun x255 =>
   AA (fun a265 : List (List By8) =>
     (iter (Bm a265) FUEL (a167, 0)).bind fun o =>
    J254 o) fun J267 =>
    (iter (Bn x255) FUEL ([x255.Name.URI], 0)).bind fun o =>
   J267 o)
   (some a167)
def Dy (p0 : Aa) : Option ((List (List By8))) :=
  AA (fun a164 : List (List By8) =>
   some a164) fun J165 =>
   (DZ p0).bind fun x166 =>
   (iter (B2 x166) FUEL ([], 0)).bind fun o =>
  J165 o
def BC (x18 : (List (List By8))) (rec24 : (List (List By8)) × Int -> Option (((List (List By8))))) : (List (List By8)) × Int -> Option (((List (List By8))))
  | (a19, a21) =>
  cond (decide (a21 < (x18.length : Int)))
   (AA (fun a30 : List (List By8) =>
    rec24 (a30, (IntKind.wrap .i64 (a21 + 1)))) fun J32 =>
    (idx x18 a21).bind fun x33 =>
   cond (!(x33 == [104, 116, 116, 112, 58, 47, 47, 119, 119, 119, 46, 119, 51, 46, 111, 114, 103, 47, 88, 77, 76, 47, 49, 57, 57, 56, 47, 110, 97, 109, 101, 115, 112, 97, 99, 101]))
    ((app 16 a19 [x33]).bind fun _ =>
    J32 (a19 ++ [x33]))
    (J32 a19))
   (some a19)
def C9 (p0 : Aa) : Option ((List (List By8))) :=
  AA (fun a15 : List (List By8) =>
   some a15) fun J17 =>
   (Dy p0).bind fun x18 =>
   (iter (BC x18) FUEL ([], 0)).bind fun o =>
  J17 o
def AC (p0 : List By8) (p1 : List By8) (p2 : List (List By8)) (a60 : Int) (rec113 : (List By8) × Int -> Option (((List By8)))) : (List By8) × Int -> Option (((List By8)))
  | (a109, a110) =>
  cond (decide (a110 < (p1.length : Int)))
   (AA (fun a120 : List By8 =>
    rec113 (a120, (IntKind.wrap .i64 (a110 + 1)))) fun J121 =>
    (idx p0 a60).bind fun x122 =>
    (idx p1 a110).bind fun x123 =>
   cond ((x122.toNat : Int) == (x123.toNat : Int))
    ((X6 6 p2 a110).bind fun x125 =>
    J121 x125)
    (J121 a109))
   (some a109)
def BM (p0 : List By8) (p1 : List By8) (p2 : List (List By8)) (rec63 : (List By8) × Int -> Option (((List By8)))) : (List By8) × Int -> Option (((List By8)))
  | (a59, a60) =>
  cond (decide (a60 < (p0.length : Int)))
   (AA (fun a92 : List By8 =>
    rec63 (a92, (IntKind.wrap .i64 (a60 + 1)))) fun J93 =>
    (slc p0 a60 (IntKind.wrap .i64 (a60 + 1))).bind fun x94 =>
   AA (fun a107 : List By8 =>
     (cat a59 a107).bind fun _ =>
    J93 (a59 ++ a107)) fun J108 =>
    (iter (AC p0 p1 p2 a60) FUEL (x94, 0)).bind fun o =>
   J108 o)
   (some a59)
def Cm (p0 : List By8) (p1 : List By8) (p2 : List (List By8)) : Option ((List By8)) :=
  AA (fun a57 : List By8 =>
   some a57) fun J58 =>
   (iter (BM p0 p1 p2) FUEL ([], 0)).bind fun o =>
  J58 o
def DS (p0 : List By8) : Option ((List By8)) :=
   (Cm p0 [38, 60, 62, 13] ([[38, 97, 109, 112, 59], [38, 108, 116, 59], [38, 103, 116, 59], [38, 35, 49, 51, 59], [], []] : List (List By8))).bind fun x1 =>
  some x1
def B3 (rec11 : Int × (List By8) -> Option (((List By8)))) : Int × (List By8) -> Option (((List By8)))
  | (a7, a8) =>
  cond (decide (0 < a7))
   ((u8 (IntKind.wrap .u8 (IntKind.wrap .i64 (48 + (Int.tmod a7 10))))).bind fun b14 =>
    (cat [b14] a8).bind fun _ =>
   rec11 ((IntKind.wrap .i64 (Int.tdiv a7 10)), ([b14] ++ a8)))
   (some a8)
def CF (p0 : Int) : Option ((List By8)) :=
  AA (fun a5 : List By8 =>
   some a5) fun J6 =>
   (iter (B3) FUEL (p0, [])).bind fun o =>
  J6 o
def AS (p0 : List (List By8)) (p1 : Ac) (rec11 : Int -> Option (Unit ⊕ ((List By8)))) (a8 : Int) : Option (Unit ⊕ ((List By8))) :=
  cond (decide (a8 < (p0.length : Int)))
   ((idx p0 a8).bind fun x14 =>
   cond (x14 == p1.URI)
    ((CF (IntKind.wrap .i64 (a8 + 1))).bind fun x16 =>
     (cat [110] x16).bind fun _ =>
     (cat ([110] ++ x16) [58]).bind fun _ =>
     (cat (([110] ++ x16) ++ [58]) p1.Local).bind fun _ =>
    some (.inr ((([110] ++ x16) ++ [58]) ++ p1.Local)))
    (rec11 (IntKind.wrap .i64 (a8 + 1))))
   (some (.inl ()))
def Cp (p0 : List (List By8)) (p1 : Ac) : Option ((List By8)) :=
  cond (p1.URI == [104, 116, 116, 112, 58, 47, 47, 119, 119, 119, 46, 119, 51, 46, 111, 114, 103, 47, 88, 77, 76, 47, 49, 57, 57, 56, 47, 110, 97, 109, 101, 115, 112, 97, 99, 101])
   ((cat [120, 109, 108, 58] p1.Local).bind fun _ =>
   some ([120, 109, 108, 58] ++ p1.Local))
   (AA (fun _ : Unit =>
    some p1.Local) fun J7 =>
    (iter (AS p0 p1) FUEL 0).bind fun o =>
   match o with
   | .inl o1 => J7 o1
   | .inr o1 => some o1)
def CO (p0 : List By8) : Option ((List By8)) :=
   (Cm p0 [38, 60, 34, 9, 10, 13] ([[38, 97, 109, 112, 59], [38, 108, 116, 59], [38, 113, 117, 111, 116, 59], [38, 35, 57, 59], [38, 35, 49, 48, 59], [38, 35, 49, 51, 59]] : List (List By8))).bind fun x1 =>
  some x1
def Be (p0 : List (List By8)) (rec21 : (List By8) × Int -> Option (((List By8)))) : (List By8) × Int -> Option (((List By8)))
  | (a17, a18) =>
  cond (decide (a18 < (p0.length : Int)))
   ((idx p0 a18).bind fun x24 =>
    (cat a17 [32, 120, 109, 108, 110, 115, 58, 110]).bind fun _ =>
    (CF (IntKind.wrap .i64 (a18 + 1))).bind fun x25 =>
    (cat (a17 ++ [32, 120, 109, 108, 110, 115, 58, 110]) x25).bind fun _ =>
    (cat ((a17 ++ [32, 120, 109, 108, 110, 115, 58, 110]) ++ x25) [61, 34]).bind fun _ =>
    (CO x24).bind fun x26 =>
    (cat (((a17 ++ [32, 120, 109, 108, 110, 115, 58, 110]) ++ x25) ++ [61, 34]) x26).bind fun _ =>
    (cat ((((a17 ++ [32, 120, 109, 108, 110, 115, 58, 110]) ++ x25) ++ [61, 34]) ++ x26) [34]).bind fun _ =>
   rec21 ((((((a17 ++ [32, 120, 109, 108, 110, 115, 58, 110]) ++ x25) ++ [61, 34]) ++ x26) ++ [34]), (IntKind.wrap .i64 (a18 + 1))))
   (some a17)
def BF (p0 : List (List By8)) (p1 : Aa) (rec42 : (List By8) × Int -> Option (((List By8)))) : (List By8) × Int -> Option (((List By8)))
  | (a38, a39) =>
  cond (decide (a39 < (p1.Attrs.length : Int)))
   ((idx p1.Attrs a39).bind fun x45 =>
    (cat a38 [32]).bind fun _ =>
    (Cp p0 x45.Name).bind fun x47 =>
    (cat (a38 ++ [32]) x47).bind fun _ =>
    (cat ((a38 ++ [32]) ++ x47) [61, 34]).bind fun _ =>
    (CO x45.Value).bind fun x48 =>
    (cat (((a38 ++ [32]) ++ x47) ++ [61, 34]) x48).bind fun _ =>
    (cat ((((a38 ++ [32]) ++ x47) ++ [61, 34]) ++ x48) [34]).bind fun _ =>
   rec42 ((((((a38 ++ [32]) ++ x47) ++ [61, 34]) ++ x48) ++ [34]), (IntKind.wrap .i64 (a39 + 1))))
   (some a38)
def BE (p0 : List (List By8)) (p1 : Aa) (rec0 : (List (List By8)) × Aa × Bool -> Option ((List By8))) (rec63 : (List By8) × Int -> Option (((List By8)))) : (List By8) × Int -> Option (((List By8)))
  | (a59, a60) =>
  cond (decide (a60 < (p1.Kids.length : Int)))
   ((idx p1.Kids a60).bind fun x66 =>
    (rec0 (p0, x66, false)).bind fun x68 =>
    (cat a59 x68).bind fun _ =>
   rec63 ((a59 ++ x68), (IntKind.wrap .i64 (a60 + 1))))
   (some a59)
def BS (rec0 : (List (List By8)) × Aa × Bool -> Option ((List By8))) : (List (List By8)) × Aa × Bool -> Option ((List By8))
  | (p0, p1, p2) =>
  cond (p1.Kind == 3)
   ((DS p1.Text).bind fun x2 =>
   some x2)
   (cond (p1.Kind == 4)
    ((cat [60, 33, 45, 45] p1.Text).bind fun _ =>
     (cat ([60, 33, 45, 45] ++ p1.Text) [45, 45, 62]).bind fun _ =>
    some (([60, 33, 45, 45] ++ p1.Text) ++ [45, 45, 62]))
    (cond (p1.Kind == 5)
     (cond (p1.Text == [])
      ((cat [60, 63] p1.Name.Local).bind fun _ =>
       (cat ([60, 63] ++ p1.Name.Local) [63, 62]).bind fun _ =>
      some (([60, 63] ++ p1.Name.Local) ++ [63, 62]))
      ((cat [60, 63] p1.Name.Local).bind fun _ =>
       (cat ([60, 63] ++ p1.Name.Local) [32]).bind fun _ =>
       (cat (([60, 63] ++ p1.Name.Local) ++ [32]) p1.Text).bind fun _ =>
       (cat ((([60, 63] ++ p1.Name.Local) ++ [32]) ++ p1.Text) [63, 62]).bind fun _ =>
      some (((([60, 63] ++ p1.Name.Local) ++ [32]) ++ p1.Text) ++ [63, 62])))
     ((Cp p0 p1.Name).bind fun x6 =>
      (cat [60] x6).bind fun _ =>
     AA (fun a14 : List By8 =>
      AA (fun a36 : List By8 =>
        (cat a36 [62]).bind fun _ =>
       AA (fun a57 : List By8 =>
         (cat a57 [60, 47]).bind fun _ =>
         (cat (a57 ++ [60, 47]) x6).bind fun _ =>
         (cat ((a57 ++ [60, 47]) ++ x6) [62]).bind fun _ =>
        some (((a57 ++ [60, 47]) ++ x6) ++ [62])) fun J58 =>
        (iter (BE p0 p1 rec0) FUEL ((a36 ++ [62]), 0)).bind fun o =>
       J58 o) fun J37 =>
       (iter (BF p0 p1) FUEL (a14, 0)).bind fun o =>
      J37 o) fun J15 =>
     cond p2
      ((iter (Be p0) FUEL (([60] ++ x6), 0)).bind fun o =>
      J15 o)
      (J15 ([60] ++ x6)))))
def E3 (p0 : List (List By8)) (p1 : Aa) (p2 : Bool) : Option ((List By8)) := iter BS FUEL (p0, p1, p2)
def Bq (p0 : Aa) (x3 : (List (List By8))) (rec16 : (List By8) × Int -> Option (((List By8)))) : (List By8) × Int -> Option (((List By8)))
  | (a12, a13) =>
  cond (decide (a13 < (p0.Kids.length : Int)))
   ((idx p0.Kids a13).bind fun x19 =>
    (E3 x3 x19 true).bind fun x21 =>
    (cat a12 x21).bind fun _ =>
    (cat (a12 ++ x21) [10]).bind fun _ =>
   rec16 (((a12 ++ x21) ++ [10]), (IntKind.wrap .i64 (a13 + 1))))
   (some a12)
def EA (p0 : Aa) : Option ((List By8) × Int) :=
   (B7 p0).bind fun x1 =>
  cond (x1 != 0)
   (some ([], x1))
   ((C9 p0).bind fun x3 =>
   AA (fun a10 : List By8 =>
    cond (decide (65536 < (a10.length : Int)))
     (some ([], 6))
     (some (a10, 0))) fun J11 =>
    (iter (Bq p0 x3) FUEL ([], 0)).bind fun o =>
   J11 o)
def FS (p0 : Aa) (rec0 : Aa -> Option (Aa)) (rec42 : Int × (List By8) × (List By8) × (List Ae) × (List Aa) × (List By8) × Int -> Option ((Int × (List By8) × (List By8) × (List Ae) × (List Aa) × (List By8)))) : Int × (List By8) × (List By8) × (List Ae) × (List Aa) × (List By8) × Int -> Option ((Int × (List By8) × (List By8) × (List Ae) × (List Aa) × (List By8)))
  | (a31, a32, a33, a34, a36, a38, a39) =>
  cond (decide (a39 < (p0.Kids.length : Int)))
   ((idx p0.Kids a39).bind fun x45 =>
    (rec0 x45).bind fun x47 =>
    (app 104 a36 [x47]).bind fun _ =>
   rec42 (a31, a32, a33, a34, (a36 ++ [x47]), a38, (IntKind.wrap .i64 (a39 + 1))))
   (some (a31, a32, a33, a34, a36, a38))
def Kv (p0 : Aa) (rec0 : Aa -> Option (Aa)) (rec90 : Int × (List By8) × (List By8) × (List Ae) × (List Aa) × (List By8) × Int -> Option ((Int × (List By8) × (List By8) × (List Ae) × (List Aa) × (List By8)))) : Int × (List By8) × (List By8) × (List Ae) × (List Aa) × (List By8) × Int -> Option ((Int × (List By8) × (List By8) × (List Ae) × (List Aa) × (List By8)))
  | (a79, a80, a81, a82, a84, a86, a87) =>
  cond (decide (a87 < (p0.Kids.length : Int)))
   ((idx p0.Kids a87).bind fun x93 =>
    (rec0 x93).bind fun x95 =>
    (app 104 a84 [x95]).bind fun _ =>
   rec90 (a79, a80, a81, a82, (a84 ++ [x95]), a86, (IntKind.wrap .i64 (a87 + 1))))
   (some (a79, a80, a81, a82, a84, a86))
def Kz (p0 : Aa) (rec0 : Aa -> Option (Aa)) (rec139 : Int × (List By8) × (List By8) × (List Ae) × (List Aa) × (List By8) × Int -> Option ((Int × (List By8) × (List By8) × (List Ae) × (List Aa) × (List By8)))) : Int × (List By8) × (List By8) × (List Ae) × (List Aa) × (List By8) × Int -> Option ((Int × (List By8) × (List By8) × (List Ae) × (List Aa) × (List By8)))
  | (a128, a129, a130, a131, a133, a135, a136) =>
  cond (decide (a136 < (p0.Kids.length : Int)))
   ((idx p0.Kids a136).bind fun x142 =>
    (rec0 x142).bind fun x144 =>
    (app 104 a133 [x144]).bind fun _ =>
   rec139 (a128, a129, a130, a131, (a133 ++ [x144]), a135, (IntKind.wrap .i64 (a136 + 1))))
   (some (a128, a129, a130, a131, a133, a135))
def Gi (rec0 : Aa -> Option (Aa)) : Aa -> Option (Aa)
  | p0 =>
   (app 48 ([] : List Ae) p0.Attrs).bind fun _ =>
  AA (fun v : Int × (List By8) × (List By8) × (List Ae) × (List Aa) × (List By8) => match v with
   | (a22, a23, a24, a25, a27, a29) =>
   some (⟨a22, (⟨a23, a24⟩ : Ac), a25, a27, a29⟩ : Aa)) fun J30 =>
   (iter (FS p0 rec0) FUEL (p0.Kind, p0.Name.URI, p0.Name.Local, ([] ++ p0.Attrs), [], p0.Text, 0)).bind fun o =>
  J30 o
def Mj (p0 : Aa) : Option (Aa) := iter Gi FUEL p0
def EQ (p0 : List Ae) (p1 : List Ae) (rec11 : Int -> Option (Unit ⊕ Bool)) (a8 : Int) : Option (Unit ⊕ Bool) :=
  cond (decide (a8 < (p0.length : Int)))
   ((idx p0 a8).bind fun x14 =>
    (idx p1 a8).bind fun x15 =>
   cond (!(((x14.Name.URI == x15.Name.URI) && ((x14.Name.Local == x15.Name.Local) && true)) && ((x14.Value == x15.Value) && true)))
    (some (.inr false))
    (rec11 (IntKind.wrap .i64 (a8 + 1))))
   (some (.inl ()))
def Fy (p0 : List Ae) (p1 : List Ae) : Option (Bool) :=
  cond ((p0.length : Int) != (p1.length : Int))
   (some false)
   (AA (fun _ : Unit =>
    some true) fun J7 =>
    (iter (EQ p0 p1) FUEL 0).bind fun o =>
   match o with
   | .inl o1 => J7 o1
   | .inr o1 => some o1)
def FQ (p0 : Aa) (p1 : Aa) (rec0 : Aa × Aa -> Option (Bool)) (rec19 : Int -> Option (Unit ⊕ Bool)) (a16 : Int) : Option (Unit ⊕ Bool) :=
  cond (decide (a16 < (p0.Kids.length : Int)))
   ((idx p0.Kids a16).bind fun x22 =>
    (idx p1.Kids a16).bind fun x23 =>
    (rec0 (x22, x23)).bind fun x24 =>
   cond (!x24)
    (some (.inr false))
    (rec19 (IntKind.wrap .i64 (a16 + 1))))
   (some (.inl ()))
def Gf (rec0 : Aa × Aa -> Option (Bool)) : Aa × Aa -> Option (Bool)
  | (p0, p1) =>
   (AA (fun v5 : Bool => cond (v5 || ((p0.Kids.length : Int) != (p1.Kids.length : Int)))
     (some false)
     (AA (fun _ : Unit =>
      some true) fun J15 =>
      (iter (FQ p0 p1 rec0) FUEL 0).bind fun o =>
     match o with
     | .inl o1 => J15 o1
     | .inr o1 => some o1)) fun J4 => cond (((p0.Kind != p1.Kind) || (!((p0.Name.URI == p1.Name.URI) && ((p0.Name.Local == p1.Name.Local) && true)))) || (!(p0.Text == p1.Text))) (J4 true) ((Fy p0.Attrs p1.Attrs).bind fun x6 =>
    J4 (!x6)))
def L6 (p0 : Aa) (p1 : Aa) : Option (Bool) := iter Gf FUEL (p0, p1)
end Go.Proofs.YtjofelloaofooaaGreatDoor
