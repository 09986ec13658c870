/- The plain functions. No condition. -/
import Derived.Test.YtjofelloaofooaaGreatDoorEA
import Derived.Test.YtjofelloaofooaaGreatDoorK2
set_option linter.unusedVariables false
set_option linter.unusedSimpArgs false
set_option maxRecDepth 20000
set_option maxHeartbeats 8000000
namespace Go.Proofs.YtjofelloaofooaaGreatDoor
structure Ad where
  URI : List By8
  Local : List By8
  deriving DecidableEq, Inhabited
def At (x : Ad) : List D := [.str x.URI, .str x.Local]
structure Ae where
  Name : Ad
  Value : List By8
  deriving DecidableEq, Inhabited
def Ai (x : Ae) : List D := [.str x.Name.URI, .str x.Name.Local, .str x.Value]
structure Aa where
  Kind : Int
  Name : Ad
  Attrs : List Ae
  Kids : List Aa
  Text : List By8
  deriving Inhabited
mutual
def Ac : Aa -> List D
  | ⟨Kind, Name, Attrs, Kids, Text⟩ => [.int .i64 Kind, .str Name.URI, .str Name.Local, .sl 3 (List.map Ai Attrs) 0, .sl 6 (D4 Kids) 0, .str Text]
def D4 : List Aa -> List (List D)
  | [] => []
  | x :: l => Ac x :: D4 l
end
theorem GN : ∀ l : List Aa, D4 l = List.map Ac l
  | [] => by simp only [D4, List.map_nil]
  | x :: l => by simp only [D4, List.map_cons, GN l]
theorem Ab (x : Aa) : Ac x = [.int .i64 x.Kind, .str x.Name.URI, .str x.Name.Local, .sl 3 (List.map Ai x.Attrs) 0, .sl 6 (List.map Ac x.Kids) 0, .str x.Text] := by cases x; simp only [Ac, GN]
structure Af where
  lo : Int
  hi : Int
  deriving DecidableEq, Inhabited
def AC (x : Af) : List D := [.int .i32 x.lo, .int .i32 x.hi]
structure Aj where
  addr : Unit
  buf : List By8
  deriving DecidableEq, Inhabited
def Mt (x : Aj) : List D := [.nilp, .sl 1 (List.map JN x.buf) 0]
structure Ah where
  Builder : Aj
  prefixes : List (List By8)
  deriving DecidableEq, Inhabited
def O5 (x : Ah) : List D := [.nilp, .sl 1 (List.map JN x.Builder.buf) 0, .sl 1 (List.map Ao x.prefixes) 0]
def D6 (p0 : Aa) (rec0 : Aa × (List Aa) -> Option ((List Aa))) (rec19 : (List Aa) × Int -> Option (((List Aa)))) : (List Aa) × Int -> Option (((List Aa)))
  | (a14, a16) =>
  cond (decide (a16 < (p0.Kids.length : Int)))
   ((idx p0.Kids a16).bind fun x22 =>
    (rec0 (x22, a14)).bind fun x24 =>
   rec19 (x24, (IntKind.wrap .i64 (a16 + 1))))
   (some a14)
def B5 (rec0 : Aa × (List Aa) -> Option ((List Aa))) : Aa × (List Aa) -> Option ((List Aa))
  | (p0, p1) =>
   (app 104 p1 [p0]).bind fun _ =>
  AA (fun a11 : List Aa =>
   some a11) fun J13 =>
   (iter (D6 p0 rec0) FUEL ((p1 ++ [p0]), 0)).bind fun o =>
  J13 o
def EF (p0 : Aa) (p1 : List Aa) : Option ((List Aa)) := iter B5 FUEL (p0, p1)
def AJ (p0 : List Aa) (p1 : Aa -> Option Bool) (rec10 : Int -> Option (Unit ⊕ Int)) (a7 : Int) : Option (Unit ⊕ Int) :=
  cond (decide (a7 < (p0.length : Int)))
   ((idx p0 a7).bind fun x13 =>
    (p1 x13).bind fun x14 =>
   cond x14
    (some (.inr a7))
    (rec10 (IntKind.wrap .i64 (a7 + 1))))
   (some (.inl ()))
def AF (p0 : List Aa) (p1 : Aa -> Option Bool) : Option (Int) :=
  AA (fun _ : Unit =>
   some (-1 : Int)) fun J6 =>
   (iter (AJ p0 p1) FUEL 0).bind fun o =>
  match o with
  | .inl o1 => J6 o1
  | .inr o1 => some o1
def Ag (p0 : List Aa) (p1 : Aa -> Option Bool) : Option (Bool) :=
   (AF p0 p1).bind fun x1 =>
  some (decide (0 <= x1))
def EH (p0 : Int) (p1 : Int) : Option (Bool) :=
  cond (p0 == 1)
   (some (((p1 == 2) || (p1 == 4)) || (p1 == 5)))
   (cond (p0 == 2)
    (some ((decide (2 <= p1)) && (decide (p1 <= 5))))
    (some false))
def CA (p0 : Aa) (p1 : Aa) : Option (Bool) :=
   (EH p1.Kind p0.Kind).bind fun x1 =>
  some (!x1)
def Dg (p0 : Aa) : Option (Bool) :=
  AA (fun a9 : Bool =>
    (AA (fun v20 : Bool => some v20) fun J19 => cond a9 (J19 true) ((Ag p0.Kids (fun z0 => CA z0 p0)).bind fun x21 =>
     J19 x21))) fun J10 =>
  cond (p0.Kind == 1)
   (J10 ((((p0.Kind != 2) && (decide (0 < (p0.Attrs.length : Int)))) || (!((p0.Name.URI == (⟨[], []⟩ : Ad).URI) && ((p0.Name.Local == (⟨[], []⟩ : Ad).Local) && true)))) || (!(p0.Text == []))))
   (cond (p0.Kind == 2)
    (J10 (!(p0.Text == [])))
    (cond (p0.Kind == 5)
     (J10 (((p0.Kind != 2) && (decide (0 < (p0.Attrs.length : Int)))) || (!(p0.Name.URI == []))))
     (J10 (((p0.Kind != 2) && (decide (0 < (p0.Attrs.length : Int)))) || (!((p0.Name.URI == (⟨[], []⟩ : Ad).URI) && ((p0.Name.Local == (⟨[], []⟩ : Ad).Local) && true)))))))
def B8 (rec0 : Aa × Int -> Option Bool) (p0 : Aa) (p1 : Int) : Option (Bool) :=
   (rec0 (p0, p1)).bind fun x1 =>
  some x1
def Bz (rec0 : Aa × Int -> Option (Bool)) : Aa × Int -> Option (Bool)
  | (p0, p1) =>
  AA (fun a4 : Int =>
    (Ag p0.Kids (fun z0 => B8 rec0 z0 a4)).bind fun x10 =>
   some x10) fun J5 =>
  cond (p0.Kind == 2)
   (cond (decide (32 < p1))
    (some true)
    (J5 (IntKind.wrap .i64 (p1 + 1))))
   (J5 p1)
def Gd (p0 : Aa) (p1 : Int) : Option (Bool) := iter Bz FUEL (p0, p1)
def DB (p0 : Ae) : Option (Bool) :=
  some (decide (8192 < (p0.Value.length : Int)))
def AI (p0 : List Ae) (p1 : Ae -> Option Bool) (rec10 : Int -> Option (Unit ⊕ Int)) (a7 : Int) : Option (Unit ⊕ Int) :=
  cond (decide (a7 < (p0.length : Int)))
   ((idx p0 a7).bind fun x13 =>
    (p1 x13).bind fun x14 =>
   cond x14
    (some (.inr a7))
    (rec10 (IntKind.wrap .i64 (a7 + 1))))
   (some (.inl ()))
def AG (p0 : List Ae) (p1 : Ae -> Option Bool) : Option (Int) :=
  AA (fun _ : Unit =>
   some (-1 : Int)) fun J6 =>
   (iter (AI p0 p1) FUEL 0).bind fun o =>
  match o with
  | .inl o1 => J6 o1
  | .inr o1 => some o1
def Am (p0 : List Ae) (p1 : Ae -> Option Bool) : Option (Bool) :=
   (AG p0 p1).bind fun x1 =>
  some (decide (0 <= x1))
def CW (p0 : Aa) : Option (Bool) :=
   (AA (fun v4 : Bool => some v4) fun J3 => cond ((decide (64 < (p0.Attrs.length : Int))) || (decide (8192 < (p0.Text.length : Int)))) (J3 true) ((Am p0.Attrs DB).bind fun x5 =>
    J3 x5))
def Dk (p0 : Int) (p1 : List Af) (rec10 : Int -> Option (Unit ⊕ Bool)) (a7 : Int) : Option (Unit ⊕ Bool) :=
  cond (decide (a7 < (p1.length : Int)))
   ((idx p1 a7).bind fun x13 =>
   cond (decide (p0 <= x13.hi))
    (some (.inr (decide (x13.lo <= p0))))
    (rec10 (IntKind.wrap .i64 (a7 + 1))))
   (some (.inl ()))
def DL (p0 : Int) (p1 : List Af) : Option (Bool) :=
  AA (fun _ : Unit =>
   some false) fun J6 =>
   (iter (Dk p0 p1) FUEL 0).bind fun o =>
  match o with
  | .inl o1 => J6 o1
  | .inr o1 => some o1
def Cz (p0 : Int) : Option (Bool) :=
  cond (decide (p0 < 128))
   (some ((((decide (97 <= p0)) && (decide (p0 <= 122))) || ((decide (65 <= p0)) && (decide (p0 <= 90)))) || (p0 == 95)))
   ((DL p0 ([(⟨192, 214⟩ : Af), (⟨216, 246⟩ : Af), (⟨248, 767⟩ : Af), (⟨880, 893⟩ : Af), (⟨895, 8191⟩ : Af), (⟨8204, 8205⟩ : Af), (⟨8304, 8591⟩ : Af), (⟨11264, 12271⟩ : Af), (⟨12289, 55295⟩ : Af), (⟨63744, 64975⟩ : Af), (⟨65008, 65533⟩ : Af), (⟨65536, 983039⟩ : Af)])).bind fun x7 =>
   some x7)
def C3 (p0 : Int) : Option (Bool) :=
   (Cz p0).bind fun x1 =>
   (AA (fun v10 : Bool => some v10) fun J9 => cond ((((x1 || (p0 == 45)) || (p0 == 46)) || ((decide (48 <= p0)) && (decide (p0 <= 57)))) || (p0 == 183)) (J9 true) ((DL p0 ([(⟨768, 879⟩ : Af), (⟨8255, 8256⟩ : Af)])).bind fun x11 =>
    J9 x11))
def B9 (p0 : List By8) (rec23 : Nat -> Option (Unit ⊕ Bool)) (a20 : Nat) : Option (Unit ⊕ Bool) :=
  cond (decide (a20 < p0.length))
   ((AA (fun v27 : Bool => (AA (fun v31 : Bool => cond v31
        (some (.inr false))
        (rec23 (a20 + wdS p0 a20))) fun J30 => cond v27 (J30 true) ((C3 (rnS p0 a20)).bind fun x32 =>
       J30 (!x32)))) fun J26 => cond (((a20 : Nat) : Int) == 0) ((Cz (rnS p0 a20)).bind fun x28 =>
     J26 (!x28)) (J26 false)))
   (some (.inl ()))
def DM (p0 : List By8) : Option (Bool) :=
   (AA (fun v4 : Bool => cond v4
     (some false)
     (AA (fun _ : Unit =>
      some true) fun J18 =>
      (iter (B9 p0) FUEL (0 : Nat)).bind fun o =>
     match o with
     | .inl o1 => J18 o1
     | .inr o1 => some o1)) fun J3 => cond ((p0 == []) || (decide (100 < (p0.length : Int)))) (J3 true) ((L_ValidString p0).bind fun x5 =>
    J3 (!x5)))
def Dn (p0 : Int) : Option (Bool) :=
   (AA (fun v5 : Bool => some v5) fun J4 => cond (((p0 == 9) || (p0 == 10)) || (p0 == 13)) (J4 true) ((DL p0 ([(⟨32, 55295⟩ : Af), (⟨57344, 65533⟩ : Af), (⟨65536, 1114111⟩ : Af)])).bind fun x6 =>
    J4 x6))
def Eo (p0 : List By8) (p1 : Int) : Option (Int × Int × Int) :=
  cond ((decide (p1 < 0)) || (decide ((p0.length : Int) <= p1)))
   (some (0, 0, 1))
   ((slc p0 p1 (p0.length : Int)).bind fun x3 =>
    (L_DecodeRune x3).bind fun x4 =>
   cond ((x4.1 == 65533) && (decide (x4.2 < 3)))
    (some (0, 0, 20))
    ((Dn x4.1).bind fun x7 =>
    cond (!x7)
     (some (0, 0, 21))
     (some (x4.1, (IntKind.wrap .i64 (p1 + x4.2)), 0))))
def CD (p0 : List By8) (rec9 : Int -> Option (Unit ⊕ (Int × Int))) (a6 : Int) : Option (Unit ⊕ (Int × Int)) :=
  cond (decide (a6 < (p0.length : Int)))
   ((Eo p0 a6).bind fun x12 =>
   cond (x12.2.2 != 0)
    (some (.inr (a6, x12.2.2)))
    (rec9 x12.2.1))
   (some (.inl ()))
def Dl (p0 : List By8) : Option (Int × Int) :=
  AA (fun _ : Unit =>
   some (0, 0)) fun J5 =>
   (iter (CD p0) FUEL 0).bind fun o =>
  match o with
  | .inl o1 => J5 o1
  | .inr o1 => some o1
def DU (p0 : List By8) : Option (Bool) :=
   (Dl p0).bind fun x1 =>
  some (x1.2 != 0)
def BR (p0 : Ad) : Option (Bool) :=
   (DM p0.Local).bind fun x1 =>
   (AA (fun v5 : Bool => some (v5 || (p0.URI == [104, 116, 116, 112, 58, 47, 47, 119, 119, 119, 46, 119, 51, 46, 111, 114, 103, 47, 50, 48, 48, 48, 47, 120, 109, 108, 110, 115, 47]))) fun J4 => cond ((!x1) || (decide (100 < (p0.URI.length : Int)))) (J4 true) ((DU p0.URI).bind fun x6 =>
    J4 x6))
def CB (p0 : Ae) : Option (Bool) :=
   (BR p0.Name).bind fun x1 =>
  some (x1 || ((p0.Name.URI == (⟨[], [120, 109, 108, 110, 115]⟩ : Ad).URI) && ((p0.Name.Local == (⟨[], [120, 109, 108, 110, 115]⟩ : Ad).Local) && true)))
def A5 (a94 : Int) (a95 : Int) (rec112 : Int -> Option (Int)) (a109 : Int) : Option (Int) :=
  cond ((a109 != a94) && (decide (a109 < a95)))
   ((L_SimpleFold a109).bind fun x116 =>
   rec112 x116)
   (some a109)
def Av (x52 : List By8) (rec87 : (List By8) × Nat -> Option (((List By8)) ⊕ Bool)) : (List By8) × Nat -> Option (((List By8)) ⊕ Bool)
  | (a83, a84) =>
  cond (decide (a84 < x52.length))
   (cond ((a83.length : Int) == 0)
    (some (.inr false))
    ((L_DecodeRuneInString a83).bind fun x90 =>
     (slc a83 x90.2 (a83.length : Int)).bind fun x91 =>
    cond (x90.1 == (rnS x52 a84))
     (rec87 (x91, (a84 + wdS x52 a84)))
     (AA (fun v : Int × Int => match v with
      | (a94, a95) =>
      cond (decide (a95 < 128))
       (cond (((decide (65 <= a94)) && (decide (a94 <= 90))) && (a95 == (IntKind.wrap .i32 ((IntKind.wrap .i32 (a94 + 97)) - 65))))
        (rec87 (x91, (a84 + wdS x52 a84)))
        (some (.inr false)))
       ((L_SimpleFold a94).bind fun x102 =>
       AA (fun a107 : Int =>
        cond (a107 == a95)
         (rec87 (x91, (a84 + wdS x52 a84)))
         (some (.inr false))) fun J108 =>
        (iter (A5 a94 a95) FUEL x102).bind fun o =>
       J108 o)) fun J96 =>
     cond (decide (x90.1 < (rnS x52 a84)))
      (J96 (x90.1, (rnS x52 a84)))
      (J96 ((rnS x52 a84), x90.1)))))
   (some (.inl a83))
def Aw (p0 : List By8) (p1 : List By8) (rec146 : Int -> Option (Unit ⊕ Int ⊕ Bool)) (a143 : Int) : Option (Unit ⊕ Int ⊕ Bool) :=
  cond (decide (a143 < (if (p1.length : Int) < (p0.length : Int) then (p1.length : Int) else (p0.length : Int))))
   (AA (fun _ : Unit =>
    rec146 (IntKind.wrap .i64 (a143 + 1))) fun J160 =>
    (idx p0 a143).bind fun x161 =>
    (idx p1 a143).bind fun x162 =>
   cond (decide (128 <= (ior .u8 (x161.toNat : Int) (x162.toNat : Int))))
    (some (.inr (.inl a143)))
    (cond ((x162.toNat : Int) == (x161.toNat : Int))
     (J160 ())
     (AA (fun v : Int × Int => match v with
      | (a166, a167) =>
      cond (((decide (65 <= a166)) && (decide (a166 <= 90))) && (a167 == (IntKind.wrap .u8 ((IntKind.wrap .u8 (a166 + 97)) - 65))))
       (J160 ())
       (some (.inr (.inr false)))) fun J168 =>
     cond (decide ((x162.toNat : Int) < (x161.toNat : Int)))
      (J168 ((x162.toNat : Int), (x161.toNat : Int)))
      (J168 ((x161.toNat : Int), (x162.toNat : Int))))))
   (some (.inl ()))
def BB (p0 : List By8) (p1 : List By8) : Option (Bool) :=
  AA (fun a49 : Int =>
    (slc p0 a49 (p0.length : Int)).bind fun x52 =>
    (slc p1 a49 (p1.length : Int)).bind fun x53 =>
   AA (fun a80 : List By8 =>
    some ((a80.length : Int) == 0)) fun J81 =>
    (iter (Av x52) FUEL (x53, (0 : Nat))).bind fun o =>
   match o with
   | .inl o1 => J81 o1
   | .inr o1 => some o1) fun J50 =>
  AA (fun _ : Unit =>
   some ((p0.length : Int) == (p1.length : Int))) fun J142 =>
   (iter (Aw p0 p1) FUEL 0).bind fun o =>
  match o with
  | .inl o1 => J142 o1
  | .inr (.inl o1) => J50 o1
  | .inr (.inr o1) => some o1
def Bi (p0 : Aa) : Option (Bool) :=
  cond (p0.Kind == 2)
   ((BR p0.Name).bind fun x2 =>
    (AA (fun v5 : Bool => some v5) fun J4 => cond x2 (J4 true) ((Am p0.Attrs CB).bind fun x6 =>
     J4 x6)))
   (cond (p0.Kind == 5)
    ((DM p0.Name.Local).bind fun x8 =>
     (AA (fun v11 : Bool => some v11) fun J10 => cond (!x8) (J10 true) ((BB p0.Name.Local [120, 109, 108]).bind fun x12 =>
      J10 x12)))
    (some false))
def De (p0 : Ae) : Option (Bool) :=
   (DU p0.Value).bind fun x1 =>
  some x1
def BL (p0 : Aa) : Option (Bool) :=
   (DU p0.Text).bind fun x1 =>
   (AA (fun v4 : Bool => some v4) fun J3 => cond x1 (J3 true) ((Am p0.Attrs De).bind fun x5 =>
    J3 x5))
def Br (p0 : List By8) : Option (Bool) :=
  some (!(p0 == p0))
def BP (p0 : List By8) (p1 : List By8) : Option (Int) :=
   (Br p0).bind fun x1 =>
   (Br p1).bind fun x2 =>
  cond x1
   (cond x2
    (some 0)
    (some (-1 : Int)))
   (cond x2
    (some 1)
    (cond (Op.bytesLess p0 p1)
     (some (-1 : Int))
     (cond (!(Op.bytesLess p0 p1 || p0 == p1))
      (some 1)
      (some 0))))
def Bk (p0 : List Int) (rec9 : Int -> Option (Unit ⊕ Int)) (a6 : Int) : Option (Unit ⊕ Int) :=
  cond (decide (a6 < (p0.length : Int)))
   ((idx p0 a6).bind fun x12 =>
   cond (x12 != 0)
    (some (.inr x12))
    (rec9 (IntKind.wrap .i64 (a6 + 1))))
   (some (.inl ()))
def EU (p0 : List Int) : Option (Int) :=
  AA (fun _ : Unit =>
   some 0) fun J5 =>
   (iter (Bk p0) FUEL 0).bind fun o =>
  match o with
  | .inl o1 => J5 o1
  | .inr o1 => some o1
def ET (p0 : Ad) (p1 : Ad) : Option (Int) :=
   (BP p0.URI p1.URI).bind fun x1 =>
   (BP p0.Local p1.Local).bind fun x2 =>
   (EU ([x1, x2])).bind fun x3 =>
  some x3
def Bm (p0 : Aa) (rec19 : Int -> Option (Unit ⊕ Bool)) (a16 : Int) : Option (Unit ⊕ Bool) :=
  cond (decide (a16 < (p0.Attrs.length : Int)))
   (AA (fun a27 : Bool =>
    cond a27
     (some (.inr true))
     (rec19 (IntKind.wrap .i64 (a16 + 1)))) fun J28 =>
   cond (decide (0 < a16))
    ((idx p0.Attrs (IntKind.wrap .i64 (a16 - 1))).bind fun x31 =>
     (idx p0.Attrs a16).bind fun x32 =>
     (ET x31.Name x32.Name).bind fun x33 =>
    J28 (decide (0 <= x33)))
    (J28 false))
   (some (.inl ()))
def A6 (p0 : Aa) : Option (Bool) :=
  AA (fun _ : Unit =>
   some false) fun J15 =>
   (iter (Bm p0) FUEL 0).bind fun o =>
  match o with
  | .inl o1 => J15 o1
  | .inr o1 => some o1
def BO (p0 : List By8) (p1 : List By8) : Option (Bool) :=
   (AA (fun v3 : Bool => some v3) fun J2 => cond (decide ((p1.length : Int) <= (p0.length : Int))) ((slc p0 (IntKind.wrap .i64 ((p0.length : Int) - (p1.length : Int))) (p0.length : Int)).bind fun x4 =>
    J2 (x4 == p1)) (J2 false))
def BD (p0 : List By8) (p1 : List By8) : Option (Bool) :=
   (BO p0 p1).bind fun x1 =>
  some x1
def Bj (p0 : Aa) (rec15 : Int -> Option (Unit ⊕ Bool)) (a12 : Int) : Option (Unit ⊕ Bool) :=
  cond (decide (a12 < (p0.Kids.length : Int)))
   ((idx p0.Kids a12).bind fun x18 =>
    (AA (fun v23 : Bool => cond v23
      (some (.inr true))
      (rec15 (IntKind.wrap .i64 (a12 + 1)))) fun J22 => cond ((decide (0 < a12)) && (x18.Kind == 3)) ((idx p0.Kids (IntKind.wrap .i64 (a12 - 1))).bind fun x24 =>
     J22 (x24.Kind == 3)) (J22 false)))
   (some (.inl ()))
def Ba (p0 : Aa) : Option (Bool) :=
  AA (fun _ : Unit =>
   cond (p0.Kind == 3)
    (some (p0.Text == []))
    (cond (p0.Kind == 4)
     ((L_Contains p0.Text [45, 45]).bind fun x28 =>
      (AA (fun v31 : Bool => (AA (fun v35 : Bool => some v35) fun J34 => cond v31 (J34 true) ((L_Contains p0.Text [13]).bind fun x36 =>
         J34 x36))) fun J30 => cond x28 (J30 true) ((BD p0.Text [45]).bind fun x32 =>
       J30 x32)))
     (cond (p0.Kind == 5)
      (AA (fun a45 : Bool =>
       some a45) fun J46 =>
       (L_Contains p0.Text [63, 62]).bind fun x47 =>
      cond x47
       (J46 true)
       ((L_Contains p0.Text [13]).bind fun x50 =>
       cond x50
        (J46 true)
        ((L_TrimLeft p0.Text [32, 9, 10]).bind fun x53 =>
        J46 (!(p0.Text == x53)))))
      (some false)))) fun J11 =>
   (iter (Bj p0) FUEL 0).bind fun o =>
  match o with
  | .inl o1 => J11 o1
  | .inr o1 => some o1
def AX (p0 : Aa) (rec40 : Int × Int -> Option (Int)) : Int × Int -> Option (Int)
  | (a36, a37) =>
  cond (decide (a37 < (p0.Kids.length : Int)))
   (AA (fun a46 : Int =>
    rec40 (a46, (IntKind.wrap .i64 (a37 + 1)))) fun J47 =>
    (idx p0.Kids a37).bind fun x48 =>
   cond (x48.Kind == 2)
    (J47 (IntKind.wrap .i64 (a36 + 1)))
    (J47 a36))
   (some a36)
def AQ (p0 : Aa) : Option (Int) :=
   (EF p0 ([] : List Aa)).bind fun x1 =>
   (AA (fun v6 : Bool => cond v6
     (some 33)
     ((Gd p0 0).bind fun x9 =>
     cond x9
      (some 31)
      ((AA (fun v13 : Bool => cond v13
         (some 5)
         ((Ag x1 Bi).bind fun x16 =>
         cond x16
          (some 24)
          ((Ag x1 BL).bind fun x18 =>
          cond x18
           (some 21)
           ((Ag x1 A6).bind fun x20 =>
           cond x20
            (some 34)
            ((Ag x1 Ba).bind fun x22 =>
            cond x22
             (some 32)
             (AA (fun a34 : Int =>
              cond (a34 != 1)
               (some 30)
               (some 0)) fun J35 =>
              (iter (AX p0) FUEL (0, 0)).bind fun o =>
             J35 o)))))) fun J12 => cond (decide (2000 < (IntKind.wrap .i64 ((x1.length : Int) - 1)))) (J12 true) ((Ag x1 CW).bind fun x14 =>
        J12 x14))))) fun J5 => cond (p0.Kind != 1) (J5 true) ((Ag x1 Dg).bind fun x7 =>
    J5 x7))
def CT (p0 : Aa) (rec34 : (List (List By8)) × Int -> Option (((List (List By8))))) : (List (List By8)) × Int -> Option (((List (List By8))))
  | (a30, a31) =>
  cond (decide (a31 < (p0.Attrs.length : Int)))
   (AA (fun a43 : List (List By8) =>
    rec34 (a43, (IntKind.wrap .i64 (a31 + 1)))) fun J44 =>
    (idx p0.Attrs a31).bind fun x45 =>
   cond (!(x45.Name.URI == []))
    ((app 16 a30 [x45.Name.URI]).bind fun _ =>
     (some (a30 ++ [x45.Name.URI])).bind fun a49 =>
    J44 a49)
    (J44 a30))
   (some a30)
def CS (p0 : Aa) (rec0 : Aa × (List (List By8)) -> Option ((List (List By8)))) (rec66 : (List (List By8)) × Int -> Option (((List (List By8))))) : (List (List By8)) × Int -> Option (((List (List By8))))
  | (a62, a63) =>
  cond (decide (a63 < (p0.Kids.length : Int)))
   ((idx p0.Kids a63).bind fun x69 =>
    (rec0 (x69, a62)).bind fun x71 =>
   rec66 (x71, (IntKind.wrap .i64 (a63 + 1))))
   (some a62)
def Bw (rec0 : Aa × (List (List By8)) -> Option ((List (List By8)))) : Aa × (List (List By8)) -> Option ((List (List By8)))
  | (p0, p1) =>
  AA (fun a5 : List (List By8) =>
   AA (fun a27 : List (List By8) =>
    AA (fun a59 : List (List By8) =>
     some a59) fun J60 =>
     (iter (CS p0 rec0) FUEL (a27, 0)).bind fun o =>
    J60 o) fun J28 =>
    (iter (CT p0) FUEL (a5, 0)).bind fun o =>
   J28 o) fun J6 =>
  cond (!(p0.Name.URI == []))
   ((app 16 p1 [p0.Name.URI]).bind fun _ =>
    (some (p1 ++ [p0.Name.URI])).bind fun a9 =>
   J6 a9)
   (J6 p1)
def DW (p0 : Aa) (p1 : List (List By8)) : Option ((List (List By8))) := iter Bw FUEL (p0, p1)
def Dq (p0 : Aa) : Option ((List (List By8))) :=
   (DW p0 ([] : List (List By8))).bind fun x2 =>
   (gdL (List.length x2)).bind fun _ =>
   (some (Gn x2)).bind fun a4 =>
   (gdL (List.length a4)).bind fun _ =>
   (some (Lib.compact a4)).bind fun a7 =>
  some a7
def AW (p0 : List (List By8)) (p1 : (List By8) -> Option Bool) (rec10 : Int -> Option (Unit ⊕ Int)) (a7 : Int) : Option (Unit ⊕ Int) :=
  cond (decide (a7 < (p0.length : Int)))
   ((idx p0 a7).bind fun x13 =>
    (p1 x13).bind fun x14 =>
   cond x14
    (some (.inr a7))
    (rec10 (IntKind.wrap .i64 (a7 + 1))))
   (some (.inl ()))
def AN (p0 : List (List By8)) (p1 : (List By8) -> Option Bool) : Option (Int) :=
  AA (fun _ : Unit =>
   some (-1 : Int)) fun J6 =>
   (iter (AW p0 p1) FUEL 0).bind fun o =>
  match o with
  | .inl o1 => J6 o1
  | .inr o1 => some o1
def AS (p1 : (List By8) -> Option Bool) (rec31 : (List (List By8)) × Int × Int -> Option (((List (List By8)) × Int))) : (List (List By8)) × Int × Int -> Option (((List (List By8)) × Int))
  | (a25, a27, a28) =>
  cond (decide (a28 < (a25.length : Int)))
   (AA (fun v : (List (List By8)) × Int => match v with
    | (a39, a41) =>
    rec31 (a39, a41, (IntKind.wrap .i64 (a28 + 1)))) fun J42 =>
    (idx a25 a28).bind fun x43 =>
    (p1 x43).bind fun x44 =>
   cond (!x44)
    ((idx a25 a27).bind fun x46 =>
     (some (List.set a25 (Int.toNat a27) x43)).bind fun a47 =>
    J42 (a47, (IntKind.wrap .i64 (a27 + 1))))
    (J42 (a25, a27)))
   (some (a25, a27))
def A1 (p0 : List (List By8)) (p1 : (List By8) -> Option Bool) : Option (List (List By8)) :=
   (AN p0 p1).bind fun x1 =>
  cond (x1 == (-1 : Int))
   (some p0)
   (AA (fun v : (List (List By8)) × Int => match v with
    | (a21, a23) =>
     (slc a21 a23 (a21.length : Int)).bind fun x48 =>
     (ltL a23 (List.length a21)).bind fun _ =>
    some (List.take (Int.toNat a23) a21)) fun J24 =>
    (iter (AS p1) FUEL (p0, x1, (IntKind.wrap .i64 (x1 + 1)))).bind fun o =>
   J24 o)
def DI (p0 : List By8) : Option (Bool) :=
  some (p0 == [104, 116, 116, 112, 58, 47, 47, 119, 119, 119, 46, 119, 51, 46, 111, 114, 103, 47, 88, 77, 76, 47, 49, 57, 57, 56, 47, 110, 97, 109, 101, 115, 112, 97, 99, 101])
def Cq (p0 : Aa) : Option ((List (List By8))) :=
   (Dq p0).bind fun x1 =>
   (A1 x1 DI).bind fun x3 =>
  some x3
def Ca (p1 : List (List By8)) (rec6 : (List By8) × Int -> Option (((List By8)))) : (List By8) × Int -> Option (((List By8)))
  | (a2, a3) =>
  cond (decide (a3 < (p1.length : Int)))
   ((idx p1 a3).bind fun x9 =>
    (gdL (List.length a2 + List.length x9)).bind fun _ =>
    (some (a2 ++ x9)).bind fun a12 =>
   rec6 (a12, (IntKind.wrap .i64 (a3 + 1))))
   (some a2)
def Au (p0 : Ah) (p1 : List (List By8)) : Option ((List By8)) :=
   (iter (Ca p1) FUEL (p0.Builder.buf, 0)).bind fun o =>
  some o
def Df (p0 : List By8) (p1 : List By8) : Option (Bool) :=
   (Br p0).bind fun x1 =>
   (AA (fun v4 : Bool => some (v4 || (Op.bytesLess p0 p1))) fun J3 => cond x1 ((Br p1).bind fun x5 =>
    J3 (!x5)) (J3 false))
def C1 (p0 : List By8) : Option (Bool) :=
  some (!(p0 == p0))
def Ay (p0 : List (List By8)) (p1 : List By8) (rec13 : Int × Int -> Option (Int)) : Int × Int -> Option (Int)
  | (a9, a10) =>
  cond (decide (a9 < a10))
   ((idx p0 (IntKind.wrap .i64 (SB .u64 (IntKind.wrap .u64 (IntKind.wrap .i64 (a9 + a10))) 1))).bind fun x16 =>
    (Df x16 p1).bind fun x17 =>
   cond x17
    (rec13 ((IntKind.wrap .i64 ((IntKind.wrap .i64 (SB .u64 (IntKind.wrap .u64 (IntKind.wrap .i64 (a9 + a10))) 1)) + 1)), a10))
    (rec13 (a9, (IntKind.wrap .i64 (SB .u64 (IntKind.wrap .u64 (IntKind.wrap .i64 (a9 + a10))) 1)))))
   (some a9)
def AY (p0 : List (List By8)) (p1 : List By8) : Option (Int × Bool) :=
  AA (fun a7 : Int =>
    (AA (fun v21 : Bool => some (a7, v21)) fun J20 => cond (decide (a7 < (p0.length : Int))) ((idx p0 a7).bind fun x22 =>
      (AA (fun v25 : Bool => J20 v25) fun J24 => cond (x22 == p1) (J24 true) ((idx p0 a7).bind fun x26 =>
        (C1 x26).bind fun x27 =>
        (AA (fun v30 : Bool => J24 v30) fun J29 => cond x27 ((C1 p1).bind fun x31 =>
         J29 x31) (J29 false))))) (J20 false))) fun J8 =>
   (iter (Ay p0 p1) FUEL (0, (p0.length : Int))).bind fun o =>
  J8 o
def Dz (p0 : Int) : Option ((List By8)) :=
   (L_Itoa (IntKind.wrap .i64 (p0 + 1))).bind fun x1 =>
   (cat [110] x1).bind fun _ =>
  some ([110] ++ x1)
def B2 (p0 : Ah) (p1 : Ad) : Option ((List By8)) :=
  cond (p1.URI == [])
   (some p1.Local)
   (cond (p1.URI == [104, 116, 116, 112, 58, 47, 47, 119, 119, 119, 46, 119, 51, 46, 111, 114, 103, 47, 88, 77, 76, 47, 49, 57, 57, 56, 47, 110, 97, 109, 101, 115, 112, 97, 99, 101])
    ((cat [120, 109, 108, 58] p1.Local).bind fun _ =>
    some ([120, 109, 108, 58] ++ p1.Local))
    ((AY p0.prefixes p1.URI).bind fun x3 =>
     (Dz x3.1).bind fun x4 =>
     (cat x4 [58]).bind fun _ =>
     (cat (x4 ++ [58]) p1.Local).bind fun _ =>
    some ((x4 ++ [58]) ++ p1.Local)))
def Be (p0 : Ah) (p2 : Bool) (rec30 : (List By8) × Int -> Option (((List By8)))) : (List By8) × Int -> Option (((List By8)))
  | (a26, a27) =>
  cond (decide (a27 < (p0.prefixes.length : Int)))
   (AA (fun a40 : List By8 =>
    rec30 (a40, (IntKind.wrap .i64 (a27 + 1)))) fun J41 =>
    (idx p0.prefixes a27).bind fun x42 =>
   cond p2
    ((Dz a27).bind fun x44 =>
     (L_referQuote x42).bind fun x45 =>
     (Au (⟨(⟨(), a26⟩ : Aj), p0.prefixes⟩ : Ah) ([[32, 120, 109, 108, 110, 115, 58], x44, [61, 34], x45, [34]])).bind fun x46 =>
    J41 x46)
    (J41 a26))
   (some a26)
def Bd (p0 : Ah) (p1 : Aa) (rec70 : (List By8) × Int -> Option (((List By8)))) : (List By8) × Int -> Option (((List By8)))
  | (a66, a67) =>
  cond (decide (a67 < (p1.Attrs.length : Int)))
   ((idx p1.Attrs a67).bind fun x73 =>
    (B2 (⟨(⟨(), a66⟩ : Aj), p0.prefixes⟩ : Ah) x73.Name).bind fun x75 =>
    (L_referQuote x73.Value).bind fun x76 =>
    (Au (⟨(⟨(), a66⟩ : Aj), p0.prefixes⟩ : Ah) ([[32], x75, [61, 34], x76, [34]])).bind fun x77 =>
   rec70 (x77, (IntKind.wrap .i64 (a67 + 1))))
   (some a66)
def Bc (p0 : Ah) (p1 : Aa) (rec0 : Ah × Aa × Bool -> Option ((List By8))) (rec101 : (List By8) × Int -> Option (((List By8)))) : (List By8) × Int -> Option (((List By8)))
  | (a97, a98) =>
  cond (decide (a98 < (p1.Kids.length : Int)))
   ((idx p1.Kids a98).bind fun x104 =>
    (rec0 ((⟨(⟨(), a97⟩ : Aj), p0.prefixes⟩ : Ah), x104, false)).bind fun x106 =>
   rec101 (x106, (IntKind.wrap .i64 (a98 + 1))))
   (some a97)
def Bu (rec0 : Ah × Aa × Bool -> Option ((List By8))) (p0 : Ah) (p1 : Aa) (p2 : Bool) : Option ((List By8)) :=
   (B2 (⟨(⟨(), p0.Builder.buf⟩ : Aj), p0.prefixes⟩ : Ah) p1.Name).bind fun x1 =>
   (Au (⟨(⟨(), p0.Builder.buf⟩ : Aj), p0.prefixes⟩ : Ah) ([[60], x1])).bind fun x2 =>
  AA (fun a23 : List By8 =>
   AA (fun a63 : List By8 =>
     (Au (⟨(⟨(), a63⟩ : Aj), p0.prefixes⟩ : Ah) ([[62]])).bind fun x83 =>
    AA (fun a94 : List By8 =>
      (Au (⟨(⟨(), a94⟩ : Aj), p0.prefixes⟩ : Ah) ([[60, 47], x1, [62]])).bind fun x108 =>
     some x108) fun J95 =>
     (iter (Bc p0 p1 rec0) FUEL (x83, 0)).bind fun o =>
    J95 o) fun J64 =>
    (iter (Bd p0 p1) FUEL (a23, 0)).bind fun o =>
   J64 o) fun J24 =>
   (iter (Be p0 p2) FUEL (x2, 0)).bind fun o =>
  J24 o
def AD (rec0 : Ah × Aa × Bool -> Option ((List By8))) : Ah × Aa × Bool -> Option ((List By8))
  | (p0, p1, p2) =>
  cond (p1.Kind == 3)
   ((L_referText p1.Text).bind fun x2 =>
    (Au (⟨(⟨(), p0.Builder.buf⟩ : Aj), p0.prefixes⟩ : Ah) ([x2])).bind fun x3 =>
   some x3)
   (cond (p1.Kind == 4)
    ((Au (⟨(⟨(), p0.Builder.buf⟩ : Aj), p0.prefixes⟩ : Ah) ([[60, 33, 45, 45], p1.Text, [45, 45, 62]])).bind fun x6 =>
    some x6)
    (cond (p1.Kind == 5)
     ((Au (⟨(⟨(), p0.Builder.buf⟩ : Aj), p0.prefixes⟩ : Ah) ([[60, 63], p1.Name.Local])).bind fun x9 =>
     AA (fun a15 : List By8 =>
       (Au (⟨(⟨(), a15⟩ : Aj), p0.prefixes⟩ : Ah) ([[63, 62]])).bind fun x20 =>
      some x20) fun J16 =>
     cond (!(p1.Text == []))
      ((Au (⟨(⟨(), x9⟩ : Aj), p0.prefixes⟩ : Ah) ([[32], p1.Text])).bind fun x18 =>
      J16 x18)
      (J16 x9))
     (cond (p1.Kind == 2)
      ((Bu rec0 (⟨(⟨(), p0.Builder.buf⟩ : Aj), p0.prefixes⟩ : Ah) p1 p2).bind fun x23 =>
      some x23)
      (some p0.Builder.buf))))
def CE (p0 : Ah) (p1 : Aa) (p2 : Bool) : Option ((List By8)) := iter AD FUEL (p0, p1, p2)
def CU (p0 : Aa) (x3 : (List (List By8))) (rec25 : (List By8) × Int -> Option (((List By8)))) : (List By8) × Int -> Option (((List By8)))
  | (a21, a22) =>
  cond (decide (a22 < (p0.Kids.length : Int)))
   ((idx p0.Kids a22).bind fun x28 =>
    (CE (⟨(⟨(), a21⟩ : Aj), x3⟩ : Ah) x28 true).bind fun x30 =>
    (gdL (List.length x30 + 1)).bind fun _ =>
    (some (x30 ++ [(10 : By8)])).bind fun a34 =>
   rec25 (a34, (IntKind.wrap .i64 (a22 + 1))))
   (some a21)
def CY (p0 : Aa) : Option ((List By8) × Int) :=
   (AQ p0).bind fun x1 =>
  cond (x1 != 0)
   (some ([], x1))
   ((Cq p0).bind fun x3 =>
   AA (fun a18 : List By8 =>
    cond (decide (65536 < (a18.length : Int)))
     (some ([], 6))
     ((gdN a18).bind fun _ =>
     some (a18, 0))) fun J19 =>
    (iter (CU p0 x3) FUEL ([], 0)).bind fun o =>
   J19 o)
def C8 : Option (Bool) :=
   (CY (⟨1, (⟨[], []⟩ : Ad), [], [(⟨2, (⟨[117], [97]⟩ : Ad), [(⟨(⟨[], [98]⟩ : Ad), [49, 60]⟩ : Ae)], [(⟨2, (⟨[], [99]⟩ : Ad), [], [], []⟩ : Aa)], []⟩ : Aa)], []⟩ : Aa)).bind fun x2 =>
  some ((x2.2 == 0) && (x2.1 == [60, 110, 49, 58, 97, 32, 120, 109, 108, 110, 115, 58, 110, 49, 61, 34, 117, 34, 32, 98, 61, 34, 49, 38, 108, 116, 59, 34, 62, 60, 99, 62, 60, 47, 99, 62, 60, 47, 110, 49, 58, 97, 62, 10]))
def B3 (p0 : List By8) (p1 : List By8) : Option (Bool) :=
  some (p0 == p1)
def Bl (p0 : List Ae) (p1 : List Ae) (rec11 : Int -> Option (Unit ⊕ Bool)) (a8 : Int) : Option (Unit ⊕ Bool) :=
  cond (decide (a8 < (p0.length : Int)))
   ((idx p0 a8).bind fun x14 =>
    (idx p1 a8).bind fun x15 =>
   cond (!(((x14.Name.URI == x15.Name.URI) && ((x14.Name.Local == x15.Name.Local) && true)) && ((x14.Value == x15.Value) && true)))
    (some (.inr false))
    (rec11 (IntKind.wrap .i64 (a8 + 1))))
   (some (.inl ()))
def AZ (p0 : List Ae) (p1 : List Ae) : Option (Bool) :=
  cond ((p0.length : Int) != (p1.length : Int))
   (some false)
   (AA (fun _ : Unit =>
    some true) fun J7 =>
    (iter (Bl p0 p1) FUEL 0).bind fun o =>
   match o with
   | .inl o1 => J7 o1
   | .inr o1 => some o1)
def BW (p0 : Aa) (p1 : Aa) (rec0 : Aa × Aa -> Option (Bool)) (rec19 : Int -> Option (Unit ⊕ Bool)) (a16 : Int) : Option (Unit ⊕ Bool) :=
  cond (decide (a16 < (p0.Kids.length : Int)))
   ((idx p0.Kids a16).bind fun x22 =>
    (idx p1.Kids a16).bind fun x23 =>
    (rec0 (x22, x23)).bind fun x24 =>
   cond (!x24)
    (some (.inr false))
    (rec19 (IntKind.wrap .i64 (a16 + 1))))
   (some (.inl ()))
def AK (rec0 : Aa × Aa -> Option (Bool)) : Aa × Aa -> Option (Bool)
  | (p0, p1) =>
   (AA (fun v5 : Bool => cond (v5 || ((p0.Kids.length : Int) != (p1.Kids.length : Int)))
     (some false)
     (AA (fun _ : Unit =>
      some true) fun J15 =>
      (iter (BW p0 p1 rec0) FUEL 0).bind fun o =>
     match o with
     | .inl o1 => J15 o1
     | .inr o1 => some o1)) fun J4 => cond (((p0.Kind != p1.Kind) || (!((p0.Name.URI == p1.Name.URI) && ((p0.Name.Local == p1.Name.Local) && true)))) || (!(p0.Text == p1.Text))) (J4 true) ((AZ p0.Attrs p1.Attrs).bind fun x6 =>
    J4 (!x6)))
def B0 (p0 : Aa) (p1 : Aa) : Option (Bool) := iter AK FUEL (p0, p1)
def AU (p0 : List Ae) (p1 : List Ae) (rec11 : Int -> Option (Unit ⊕ Bool)) (a8 : Int) : Option (Unit ⊕ Bool) :=
  cond (decide (a8 < (p0.length : Int)))
   ((idx p0 a8).bind fun x14 =>
    (idx p1 a8).bind fun x15 =>
   cond (!(((x14.Name.URI == x15.Name.URI) && ((x14.Name.Local == x15.Name.Local) && true)) && ((x14.Value == x15.Value) && true)))
    (some (.inr false))
    (rec11 (IntKind.wrap .i64 (a8 + 1))))
   (some (.inl ()))
def AO (p0 : List Ae) (p1 : List Ae) : Option (Bool) :=
  cond ((p0.length : Int) != (p1.length : Int))
   (some false)
   (AA (fun _ : Unit =>
    some true) fun J7 =>
    (iter (AU p0 p1) FUEL 0).bind fun o =>
   match o with
   | .inl o1 => J7 o1
   | .inr o1 => some o1)
def Ar (p0 : List Aa) (p1 : List Aa) (p2 : Aa -> Aa -> Option Bool) (rec14 : Int -> Option (Unit ⊕ Bool)) (a11 : Int) : Option (Unit ⊕ Bool) :=
  cond (decide (a11 < (p0.length : Int)))
   ((idx p0 a11).bind fun x17 =>
    (idx p1 a11).bind fun x19 =>
    (p2 x17 x19).bind fun x21 =>
   cond (!x21)
    (some (.inr false))
    (rec14 (IntKind.wrap .i64 (a11 + 1))))
   (some (.inl ()))
def An (p0 : List Aa) (p1 : List Aa) (p2 : Aa -> Aa -> Option Bool) : Option (Bool) :=
  cond ((p0.length : Int) != (p1.length : Int))
   (some false)
   (AA (fun _ : Unit =>
    some true) fun J10 =>
    (iter (Ar p0 p1 p2) FUEL 0).bind fun o =>
   match o with
   | .inl o1 => J10 o1
   | .inr o1 => some o1)
def Bv (rec0 : Aa × Aa -> Option (Bool)) : Aa × Aa -> Option (Bool)
  | (p0, p1) =>
   (AA (fun v5 : Bool => (AA (fun v9 : Bool => some v9) fun J8 => cond v5 ((An p0.Kids p1.Kids (fun z0 z1 => rec0 (z0, z1))).bind fun x10 =>
      J8 x10) (J8 false))) fun J4 => cond (((p0.Kind == p1.Kind) && ((p0.Name.URI == p1.Name.URI) && ((p0.Name.Local == p1.Name.Local) && true))) && (p0.Text == p1.Text)) ((AO p0.Attrs p1.Attrs).bind fun x6 =>
    J4 x6) (J4 false))
def GL (p0 : Aa) (p1 : Aa) : Option (Bool) := iter Bv FUEL (p0, p1)
def B7 (p0 : Aa) (p1 : Aa) : Option (Bool) :=
   (C8 ).bind fun x1 =>
  cond (!x1)
   (some false)
   ((CY p0).bind fun x3 =>
    (CY p1).bind fun x4 =>
   cond ((x3.2 != 0) || (x4.2 != 0))
    (some true)
    (AA (fun a13 : Bool =>
     some a13) fun J14 =>
     (B3 x3.1 x4.1).bind fun x15 =>
     (B0 p0 p1).bind fun x16 =>
    cond (x15 == x16)
     ((GL p0 p1).bind fun x19 =>
      (B0 p0 p1).bind fun x20 =>
     J14 (x19 == x20))
     (J14 false)))
def CI (p0 : Aa) (rec0 : Aa -> Option ((List Aa))) (rec18 : (List Aa) × Int -> Option (((List Aa)))) : (List Aa) × Int -> Option (((List Aa)))
  | (a13, a15) =>
  cond (decide (a15 < (p0.Kids.length : Int)))
   ((idx p0.Kids a15).bind fun x21 =>
    (rec0 x21).bind fun x23 =>
    (app 104 a13 x23).bind fun _ =>
   rec18 ((a13 ++ x23), (IntKind.wrap .i64 (a15 + 1))))
   (some a13)
def CX (rec0 : Aa -> Option ((List Aa))) : Aa -> Option ((List Aa))
  | p0 =>
  AA (fun a10 : List Aa =>
   some a10) fun J12 =>
   (iter (CI p0 rec0) FUEL ([p0], 0)).bind fun o =>
  J12 o
def Ef (p0 : Aa) : Option ((List Aa)) := iter CX FUEL p0
def CM (p0 : Aa) (rec0 : Aa × Int -> Option (Bool)) (a3 : Int) (rec17 : Int -> Option (Unit ⊕ Bool)) (a14 : Int) : Option (Unit ⊕ Bool) :=
  cond (decide (a14 < (p0.Kids.length : Int)))
   ((idx p0.Kids a14).bind fun x20 =>
    (rec0 (x20, a3)).bind fun x22 =>
   cond x22
    (some (.inr true))
    (rec17 (IntKind.wrap .i64 (a14 + 1))))
   (some (.inl ()))
def C0 (rec0 : Aa × Int -> Option (Bool)) : Aa × Int -> Option (Bool)
  | (p0, p1) =>
  AA (fun a3 : Int =>
   AA (fun _ : Unit =>
    some false) fun J13 =>
    (iter (CM p0 rec0 a3) FUEL 0).bind fun o =>
   match o with
   | .inl o1 => J13 o1
   | .inr o1 => some o1) fun J4 =>
  cond (p0.Kind == 2)
   (cond (decide (p1 < 0))
    (some true)
    (J4 (IntKind.wrap .i64 (p1 - 1))))
   (J4 p1)
def Fm (p0 : Aa) (p1 : Int) : Option (Bool) := iter C0 FUEL (p0, p1)
def CH (p0 : Aa) (rec20 : Int -> Option (Unit ⊕ Bool)) (a17 : Int) : Option (Unit ⊕ Bool) :=
  cond (decide (a17 < (p0.Kids.length : Int)))
   ((idx p0.Kids a17).bind fun x23 =>
   cond ((!((p0.Kind == 1) && (((x23.Kind == 2) || (x23.Kind == 4)) || (x23.Kind == 5)))) && (!((p0.Kind == 2) && ((((x23.Kind == 2) || (x23.Kind == 4)) || (x23.Kind == 5)) || (x23.Kind == 3)))))
    (some (.inr false))
    (rec20 (IntKind.wrap .i64 (a17 + 1))))
   (some (.inl ()))
def Ei (p0 : Aa) : Option (Bool) :=
  AA (fun _ : Unit =>
   cond (p0.Kind == 1)
    (some ((((p0.Name.URI == (⟨[], []⟩ : Ad).URI) && ((p0.Name.Local == (⟨[], []⟩ : Ad).Local) && true)) && (p0.Text == [])) && ((p0.Attrs.length : Int) == 0)))
    (cond (p0.Kind == 2)
     (some (p0.Text == []))
     (AA (fun a41 : Bool =>
      cond a41
       (some ((((p0.Name.URI == (⟨[], []⟩ : Ad).URI) && ((p0.Name.Local == (⟨[], []⟩ : Ad).Local) && true)) && ((p0.Attrs.length : Int) == 0)) && ((p0.Kids.length : Int) == 0)))
       (cond (p0.Kind == 5)
        (some (((p0.Name.URI == []) && ((p0.Attrs.length : Int) == 0)) && ((p0.Kids.length : Int) == 0)))
        (some false))) fun J42 =>
     cond (p0.Kind == 3)
      (J42 (p0.Kind == 3))
      (J42 (p0.Kind == 4))))) fun J16 =>
   (iter (CH p0) FUEL 0).bind fun o =>
  match o with
  | .inl o1 => J16 o1
  | .inr o1 => some o1
def CL (p0 : Aa) (rec10 : Int -> Option (Unit ⊕ Bool)) (a7 : Int) : Option (Unit ⊕ Bool) :=
  cond (decide (a7 < (p0.Attrs.length : Int)))
   ((idx p0.Attrs a7).bind fun x13 =>
   cond (decide (8192 < (x13.Value.length : Int)))
    (some (.inr false))
    (rec10 (IntKind.wrap .i64 (a7 + 1))))
   (some (.inl ()))
def Ed (p0 : Aa) : Option (Bool) :=
  AA (fun _ : Unit =>
   some ((decide ((p0.Attrs.length : Int) <= 64)) && (decide ((p0.Text.length : Int) <= 8192)))) fun J6 =>
   (iter (CL p0) FUEL 0).bind fun o =>
  match o with
  | .inl o1 => J6 o1
  | .inr o1 => some o1
def Ak (p0 : List By8) (p1 : Int) (a9 : Int) (rec33 : Int × Int -> Option (Int ⊕ (Int × Int))) : Int × Int -> Option (Int ⊕ (Int × Int))
  | (a29, a30) =>
  cond (decide (a30 < a9))
   ((idx p0 (IntKind.wrap .i64 (p1 + a30))).bind fun x36 =>
   cond ((decide ((IntKind.wrap .i64 (x36.toNat : Int)) < 128)) || (decide (191 < (IntKind.wrap .i64 (x36.toNat : Int)))))
    (some (.inr (0, 0)))
    (rec33 ((IntKind.wrap .i64 ((IntKind.wrap .i64 ((IntKind.wrap .i64 (64 * a29)) + (IntKind.wrap .i64 (x36.toNat : Int)))) - 128)), (IntKind.wrap .i64 (a30 + 1)))))
   (some (.inl a29))
def CF (p0 : List By8) (p1 : Int) : Option (Int × Int) :=
   (idx p0 p1).bind fun x1 =>
  AA (fun v : Int × Int × Int => match v with
   | (a9, a10, a11) =>
   cond (decide ((p0.length : Int) < (IntKind.wrap .i64 (p1 + a9))))
    (some (0, 0))
    (AA (fun a27 : Int =>
     cond (((decide (a27 < a11)) || (decide (1114111 < a27))) || ((decide (55296 <= a27)) && (decide (a27 <= 57343))))
      (some (0, 0))
      (some (a27, a9))) fun J28 =>
     (iter (Ak p0 p1 a9) FUEL (a10, 1)).bind fun o =>
    match o with
    | .inl o1 => J28 o1
    | .inr o1 => some o1)) fun J12 =>
  cond (decide ((IntKind.wrap .i64 (x1.toNat : Int)) < 128))
   (some ((IntKind.wrap .i64 (x1.toNat : Int)), 1))
   (cond ((decide (192 <= (IntKind.wrap .i64 (x1.toNat : Int)))) && (decide ((IntKind.wrap .i64 (x1.toNat : Int)) < 224)))
    (J12 (2, (IntKind.wrap .i64 ((IntKind.wrap .i64 (x1.toNat : Int)) - 192)), 128))
    (cond ((decide (224 <= (IntKind.wrap .i64 (x1.toNat : Int)))) && (decide ((IntKind.wrap .i64 (x1.toNat : Int)) < 240)))
     (J12 (3, (IntKind.wrap .i64 ((IntKind.wrap .i64 (x1.toNat : Int)) - 224)), 2048))
     (cond ((decide (240 <= (IntKind.wrap .i64 (x1.toNat : Int)))) && (decide ((IntKind.wrap .i64 (x1.toNat : Int)) < 248)))
      (J12 (4, (IntKind.wrap .i64 ((IntKind.wrap .i64 (x1.toNat : Int)) - 240)), 65536))
      (some (0, 0)))))
def Db (p0 : Int) : Option (Bool) :=
  AA (fun a5 : Bool =>
   cond a5
    (some true)
    (cond ((decide (192 <= p0)) && (decide (p0 <= 767)))
     (some ((p0 != 215) && (p0 != 247)))
     (cond ((decide (880 <= p0)) && (decide (p0 <= 8191)))
      (some (p0 != 894))
      (AA (fun a18 : Bool =>
       cond a18
        (some true)
        (AA (fun a27 : Bool =>
         cond a27
          (some true)
          (cond ((decide (63744 <= p0)) && (decide (p0 <= 65533)))
           (some ((decide (p0 < 64976)) || (decide (65008 <= p0))))
           (some ((decide (65536 <= p0)) && (decide (p0 <= 983039)))))) fun J28 =>
        cond ((decide (8304 <= p0)) && (decide (p0 <= 8591)))
         (J28 ((decide (8304 <= p0)) && (decide (p0 <= 8591))))
         (cond ((decide (11264 <= p0)) && (decide (p0 <= 12271)))
          (J28 ((decide (11264 <= p0)) && (decide (p0 <= 12271))))
          (J28 ((decide (12289 <= p0)) && (decide (p0 <= 55295))))))) fun J19 =>
      cond (p0 == 8204)
       (J19 (p0 == 8204))
       (J19 (p0 == 8205)))))) fun J6 =>
  cond ((decide (65 <= p0)) && (decide (p0 <= 90)))
   (J6 ((decide (65 <= p0)) && (decide (p0 <= 90))))
   (cond (p0 == 95)
    (J6 (p0 == 95))
    (J6 ((decide (97 <= p0)) && (decide (p0 <= 122)))))
def Em (p0 : Int) : Option (Bool) :=
   (Db p0).bind fun x1 =>
  some (((((((x1 || (p0 == 45)) || (p0 == 46)) || ((decide (48 <= p0)) && (decide (p0 <= 57)))) || (p0 == 183)) || ((decide (768 <= p0)) && (decide (p0 <= 879)))) || (p0 == 8255)) || (p0 == 8256))
def CP (p0 : List By8) (rec22 : Int -> Option (Unit ⊕ Bool)) (a19 : Int) : Option (Unit ⊕ Bool) :=
  cond (decide (a19 < (p0.length : Int)))
   ((CF p0 a19).bind fun x25 =>
    (AA (fun v28 : Bool => (AA (fun v32 : Bool => cond v32
        (some (.inr false))
        (rec22 (IntKind.wrap .i64 (a19 + x25.2)))) fun J31 => cond v28 (J31 true) ((AA (fun v35 : Bool => J31 v35) fun J34 => cond (a19 == 0) ((Db x25.1).bind fun x36 =>
         J34 (!x36)) (J34 false))))) fun J27 => cond (x25.2 == 0) (J27 true) ((Em x25.1).bind fun x29 =>
     J27 (!x29))))
   (some (.inl ()))
def Dt (p0 : List By8) : Option (Bool) :=
  cond (((p0.length : Int) == 0) || (decide (100 < (p0.length : Int))))
   (some false)
   (AA (fun _ : Unit =>
    some true) fun J18 =>
    (iter (CP p0) FUEL 0).bind fun o =>
   match o with
   | .inl o1 => J18 o1
   | .inr o1 => some o1)
def Eh (p0 : Int) : Option (Bool) :=
  some ((((((p0 == 9) || (p0 == 10)) || (p0 == 13)) || ((decide (32 <= p0)) && (decide (p0 <= 55295)))) || ((decide (57344 <= p0)) && (decide (p0 <= 65533)))) || ((decide (65536 <= p0)) && (decide (p0 <= 1114111))))
def Ds (p0 : List By8) (rec11 : Int -> Option (Unit ⊕ (Int × Int))) (a8 : Int) : Option (Unit ⊕ (Int × Int)) :=
  cond (decide (a8 < (p0.length : Int)))
   ((CF p0 a8).bind fun x14 =>
   cond (x14.2 == 0)
    (some (.inr (a8, 20)))
    ((Eh x14.1).bind fun x16 =>
    cond (!x16)
     (some (.inr (a8, 21)))
     (rec11 (IntKind.wrap .i64 (a8 + x14.2)))))
   (some (.inl ()))
def D0 (p0 : List By8) : Option (Int × Int) :=
  AA (fun _ : Unit =>
   some (0, 0)) fun J7 =>
   (iter (Ds p0) FUEL 0).bind fun o =>
  match o with
  | .inl o1 => J7 o1
  | .inr o1 => some o1
def CG (p0 : List By8) : Option (Bool) :=
   (D0 p0).bind fun x1 =>
  some (x1.2 == 0)
def CZ (p0 : Ad) : Option (Bool) :=
   (Dt p0.Local).bind fun x1 =>
   (AA (fun v5 : Bool => some (v5 && (!(p0.URI == [104, 116, 116, 112, 58, 47, 47, 119, 119, 119, 46, 119, 51, 46, 111, 114, 103, 47, 50, 48, 48, 48, 47, 120, 109, 108, 110, 115, 47])))) fun J4 => cond (x1 && (decide ((p0.URI.length : Int) <= 100))) ((CG p0.URI).bind fun x6 =>
    J4 x6) (J4 false))
def CJ (p0 : Aa) (rec19 : Int -> Option (Unit ⊕ Bool)) (a16 : Int) : Option (Unit ⊕ Bool) :=
  cond (decide (a16 < (p0.Attrs.length : Int)))
   ((idx p0.Attrs a16).bind fun x22 =>
    (CZ x22.Name).bind fun x24 =>
   cond ((!x24) || ((x22.Name.URI == []) && (x22.Name.Local == [120, 109, 108, 110, 115])))
    (some (.inr false))
    (rec19 (IntKind.wrap .i64 (a16 + 1))))
   (some (.inl ()))
def Ee (p0 : Aa) : Option (Bool) :=
   (AA (fun v3 : Bool => cond v3
     (some false)
     (AA (fun _ : Unit =>
       (AA (fun v31 : Bool => some v31) fun J30 => cond (p0.Kind != 5) (J30 true) ((Dt p0.Name.Local).bind fun x32 =>
         (AA (fun v35 : Bool => J30 v35) fun J34 => cond x32 ((AA (fun v38 : Bool => (AA (fun v46 : Bool => (AA (fun v54 : Bool => J34 (!v54)) fun J53 => cond v46 ((idx p0.Name.Local 2).bind fun x55 =>
                 (AA (fun v58 : Bool => J53 v58) fun J57 => cond ((x55.toNat : Int) == 108) (J57 true) ((idx p0.Name.Local 2).bind fun x59 =>
                  J57 ((x59.toNat : Int) == 76)))) (J53 false))) fun J45 => cond v38 ((idx p0.Name.Local 1).bind fun x47 =>
               (AA (fun v50 : Bool => J45 v50) fun J49 => cond ((x47.toNat : Int) == 109) (J49 true) ((idx p0.Name.Local 1).bind fun x51 =>
                J49 ((x51.toNat : Int) == 77)))) (J45 false))) fun J37 => cond ((p0.Name.Local.length : Int) == 3) ((idx p0.Name.Local 0).bind fun x39 =>
             (AA (fun v42 : Bool => J37 v42) fun J41 => cond ((x39.toNat : Int) == 120) (J41 true) ((idx p0.Name.Local 0).bind fun x43 =>
              J41 ((x43.toNat : Int) == 88)))) (J37 false))) (J34 false))))) fun J15 =>
      (iter (CJ p0) FUEL 0).bind fun o =>
     match o with
     | .inl o1 => J15 o1
     | .inr o1 => some o1)) fun J2 => cond (p0.Kind == 2) ((CZ p0.Name).bind fun x4 =>
    J2 (!x4)) (J2 false))
def Cw (p0 : Aa) (rec11 : Int -> Option (Unit ⊕ Bool)) (a8 : Int) : Option (Unit ⊕ Bool) :=
  cond (decide (a8 < (p0.Attrs.length : Int)))
   ((idx p0.Attrs a8).bind fun x14 =>
    (CG x14.Value).bind fun x16 =>
   cond (!x16)
    (some (.inr false))
    (rec11 (IntKind.wrap .i64 (a8 + 1))))
   (some (.inl ()))
def D3 (p0 : Aa) : Option (Bool) :=
  AA (fun _ : Unit =>
    (CG p0.Text).bind fun x18 =>
   some x18) fun J7 =>
   (iter (Cw p0) FUEL 0).bind fun o =>
  match o with
  | .inl o1 => J7 o1
  | .inr o1 => some o1
def GS (p0 : Ad) (p1 : Ad) : Option (Bool) :=
  some ((Op.bytesLess p0.URI p1.URI) || ((p0.URI == p1.URI) && (Op.bytesLess p0.Local p1.Local)))
def Cy (p0 : Aa) (rec11 : Int -> Option (Unit ⊕ Bool)) (a8 : Int) : Option (Unit ⊕ Bool) :=
  cond (decide (a8 < (p0.Attrs.length : Int)))
   ((idx p0.Attrs (IntKind.wrap .i64 (a8 - 1))).bind fun x14 =>
    (idx p0.Attrs a8).bind fun x15 =>
    (GS x14.Name x15.Name).bind fun x16 =>
   cond (!x16)
    (some (.inr false))
    (rec11 (IntKind.wrap .i64 (a8 + 1))))
   (some (.inl ()))
def DZ (p0 : Aa) : Option (Bool) :=
  AA (fun _ : Unit =>
   some true) fun J7 =>
   (iter (Cy p0) FUEL 1).bind fun o =>
  match o with
  | .inl o1 => J7 o1
  | .inr o1 => some o1
def C2 (p0 : List By8) (p1 : List By8) (rec9 : Int -> Option (Unit ⊕ Bool)) (a6 : Int) : Option (Unit ⊕ Bool) :=
  cond (decide ((IntKind.wrap .i64 (a6 + (p1.length : Int))) <= (p0.length : Int)))
   ((slc p0 a6 (IntKind.wrap .i64 (a6 + (p1.length : Int)))).bind fun x12 =>
   cond (x12 == p1)
    (some (.inr true))
    (rec9 (IntKind.wrap .i64 (a6 + 1))))
   (some (.inl ()))
def Cp (p0 : List By8) (p1 : List By8) : Option (Bool) :=
  AA (fun _ : Unit =>
   some false) fun J5 =>
   (iter (C2 p0 p1) FUEL 0).bind fun o =>
  match o with
  | .inl o1 => J5 o1
  | .inr o1 => some o1
def CK (p0 : Aa) (rec13 : Int -> Option (Unit ⊕ Bool)) (a10 : Int) : Option (Unit ⊕ Bool) :=
  cond (decide (a10 < (p0.Kids.length : Int)))
   ((idx p0.Kids a10).bind fun x16 =>
    (AA (fun v19 : Bool => cond v19
      (some (.inr false))
      (rec13 (IntKind.wrap .i64 (a10 + 1)))) fun J18 => cond (x16.Kind == 3) ((idx p0.Kids (IntKind.wrap .i64 (a10 - 1))).bind fun x20 =>
     J18 (x20.Kind == 3)) (J18 false)))
   (some (.inl ()))
def Eb (p0 : Aa) : Option (Bool) :=
  AA (fun _ : Unit =>
   cond (p0.Kind == 3)
    (some (!(p0.Text == [])))
    (cond (p0.Kind == 4)
     ((Cp p0.Text [45, 45]).bind fun x24 =>
      (AA (fun v27 : Bool => (AA (fun v31 : Bool => some v31) fun J30 => cond v27 ((AA (fun v34 : Bool => J30 v34) fun J33 => cond (p0.Text == []) (J33 true) ((idx p0.Text (IntKind.wrap .i64 ((p0.Text.length : Int) - 1))).bind fun x35 =>
           J33 ((x35.toNat : Int) != 45)))) (J30 false))) fun J26 => cond (!x24) ((Cp p0.Text [13]).bind fun x28 =>
       J26 (!x28)) (J26 false)))
     (cond (p0.Kind == 5)
      ((Cp p0.Text [63, 62]).bind fun x37 =>
       (AA (fun v40 : Bool => (AA (fun v44 : Bool => some v44) fun J43 => cond v40 ((AA (fun v47 : Bool => J43 v47) fun J46 => cond (p0.Text == []) (J46 true) ((idx p0.Text 0).bind fun x48 =>
             (AA (fun v51 : Bool => (AA (fun v55 : Bool => J46 v55) fun J54 => cond v51 ((idx p0.Text 0).bind fun x56 =>
                J54 ((x56.toNat : Int) != 10)) (J54 false))) fun J50 => cond ((x48.toNat : Int) != 32) ((idx p0.Text 0).bind fun x52 =>
              J50 ((x52.toNat : Int) != 9)) (J50 false))))) (J43 false))) fun J39 => cond (!x37) ((Cp p0.Text [13]).bind fun x41 =>
        J39 (!x41)) (J39 false)))
      (some true)))) fun J9 =>
   (iter (CK p0) FUEL 1).bind fun o =>
  match o with
  | .inl o1 => J9 o1
  | .inr o1 => some o1
def BN (x2 : (List Aa)) (rec58 : Bool × Bool × Bool × Bool × Bool × Bool × Bool × Int -> Option ((Bool × Bool × Bool × Bool × Bool × Bool × Bool))) : Bool × Bool × Bool × Bool × Bool × Bool × Bool × Int -> Option ((Bool × Bool × Bool × Bool × Bool × Bool × Bool))
  | (a48, a49, a50, a51, a52, a53, a54, a55) =>
  cond (decide (a55 < (x2.length : Int)))
   ((idx x2 a55).bind fun x61 =>
    (AA (fun v65 : Bool => (AA (fun v69 : Bool => (AA (fun v73 : Bool => (AA (fun v77 : Bool => (AA (fun v81 : Bool => (AA (fun v85 : Bool => rec58 (v65, a49, v69, v73, v77, v81, v85, (IntKind.wrap .i64 (a55 + 1)))) fun J84 => cond a54 ((Eb x61).bind fun x86 =>
               J84 x86) (J84 false))) fun J80 => cond a53 ((DZ x61).bind fun x82 =>
             J80 x82) (J80 false))) fun J76 => cond a52 ((D3 x61).bind fun x78 =>
           J76 x78) (J76 false))) fun J72 => cond a51 ((Ee x61).bind fun x74 =>
         J72 x74) (J72 false))) fun J68 => cond a50 ((Ed x61).bind fun x70 =>
       J68 x70) (J68 false))) fun J64 => cond a48 ((Ei x61).bind fun x66 =>
     J64 x66) (J64 false)))
   (some (a48, a49, a50, a51, a52, a53, a54))
def Cx (p0 : Aa) (rec103 : Int × Int -> Option (Int)) : Int × Int -> Option (Int)
  | (a99, a100) =>
  cond (decide (a100 < (p0.Kids.length : Int)))
   (AA (fun a109 : Int =>
    rec103 (a109, (IntKind.wrap .i64 (a100 + 1)))) fun J110 =>
    (idx p0.Kids a100).bind fun x111 =>
   cond (x111.Kind == 2)
    (J110 (IntKind.wrap .i64 (a99 + 1)))
    (J110 a99))
   (some a99)
def Ez (a40 : Bool) (a41 : Bool) (a42 : Bool) (a43 : Bool) (a44 : Bool) (a45 : Bool) (a46 : Bool) (rec123 : Int -> Option (Unit ⊕ Int)) (a120 : Int) : Option (Unit ⊕ Int) :=
  cond (decide (a120 < 7))
   ((Yk 7 ([a40, a41, a42, a43, a44, a45, a46] : List Bool) a120).bind fun x126 =>
   cond (!x126)
    ((Yk 7 [33, 31, 5, 24, 21, 34, 32] a120).bind fun x128 =>
    some (.inr x128))
    (rec123 (IntKind.wrap .i64 (a120 + 1))))
   (some (.inl ()))
def Cr (p0 : Aa) : Option (Int) :=
  cond (p0.Kind != 1)
   (some 33)
   ((Ef p0).bind fun x2 =>
    (Fm p0 32).bind fun x3 =>
   AA (fun v : Bool × Bool × Bool × Bool × Bool × Bool × Bool => match v with
    | (a40, a41, a42, a43, a44, a45, a46) =>
    AA (fun a97 : Int =>
     AA (fun _ : Unit =>
      cond (a97 != 1)
       (some 30)
       (some 0)) fun J119 =>
      (iter (Ez a40 a41 a42 a43 a44 a45 a46) FUEL 0).bind fun o =>
     match o with
     | .inl o1 => J119 o1
     | .inr o1 => some o1) fun J98 =>
     (iter (Cx p0) FUEL (0, 0)).bind fun o =>
    J98 o) fun J47 =>
    (iter (BN x2) FUEL (true, (!x3), (decide ((x2.length : Int) <= 2001)), true, true, true, true, 0)).bind fun o =>
   J47 o)
def BG (x255 : Aa) (rec273 : (List (List By8)) × Int -> Option (((List (List By8))))) : (List (List By8)) × Int -> Option (((List (List By8))))
  | (a268, a270) =>
  cond (decide (a270 < (x255.Attrs.length : Int)))
   ((idx x255.Attrs a270).bind fun x276 =>
    (app 16 a268 [x276.Name.URI]).bind fun _ =>
   rec273 ((a268 ++ [x276.Name.URI]), (IntKind.wrap .i64 (a270 + 1))))
   (some a268)
def BH (a279 : List (List By8)) (x316 : List By8) (rec328 : Int -> Option (Int)) (a325 : Int) : Option (Int) :=
   (AA (fun v332 : Bool => cond v332
     (rec328 (IntKind.wrap .i64 (a325 + 1)))
     (some a325)) fun J331 => cond (decide (a325 < (a279.length : Int))) ((idx a279 a325).bind fun x333 =>
    J331 (Op.bytesLess x333 x316)) (J331 false))
def BF (a265 : List (List By8)) (rec283 : (List (List By8)) × Int -> Option (((List (List By8))))) : (List (List By8)) × Int -> Option (((List (List By8))))
  | (a279, a280) =>
  cond (decide (a280 < (a265.length : Int)))
   (AA (fun a314 : List (List By8) =>
    rec283 (a314, (IntKind.wrap .i64 (a280 + 1)))) fun J315 =>
    (idx a265 a280).bind fun x316 =>
   AA (fun a323 : Int =>
     (AA (fun v337 : Bool => cond v337
       ((slc a279 0 a323).bind fun x343 =>
        (slc a279 a323 (a279.length : Int)).bind fun x344 =>
        (app 16 ([] : List (List By8)) x343).bind fun _ =>
        (app 16 ([] ++ x343) [x316]).bind fun _ =>
        (app 16 (([] ++ x343) ++ [x316]) x344).bind fun _ =>
       J315 ((([] ++ x343) ++ [x316]) ++ x344))
       (J315 a279)) fun J336 => cond (!(x316 == [])) ((AA (fun v340 : Bool => J336 v340) fun J339 => cond (a323 == (a279.length : Int)) (J339 true) ((idx a279 a323).bind fun x341 =>
        J339 (!(x341 == x316))))) (J336 false))) fun J324 =>
    (iter (BH a279 x316) FUEL 0).bind fun o =>
   J324 o)
   (some a279)
def Cm (x166 : (List Aa)) (rec171 : (List (List By8)) × Int -> Option (((List (List By8))))) : (List (List By8)) × Int -> Option (((List (List By8))))
  | (a167, a168) =>
  cond (decide (a168 < (x166.length : Int)))
   (AA (fun a253 : List (List By8) =>
    rec171 (a253, (IntKind.wrap .i64 (a168 + 1)))) fun J254 =>
    (idx x166 a168).bind fun x255 =>
   AA (fun a265 : List (List By8) =>
     (iter (BF a265) FUEL (a167, 0)).bind fun o =>
    J254 o) fun J267 =>
    (iter (BG x255) FUEL ([x255.Name.URI], 0)).bind fun o =>
   J267 o)
   (some a167)
def DO (p0 : Aa) : Option ((List (List By8))) :=
  AA (fun a164 : List (List By8) =>
   some a164) fun J165 =>
   (Ef p0).bind fun x166 =>
   (iter (Cm x166) FUEL ([], 0)).bind fun o =>
  J165 o
def BT (x18 : (List (List By8))) (rec24 : (List (List By8)) × Int -> Option (((List (List By8))))) : (List (List By8)) × Int -> Option (((List (List By8))))
  | (a19, a21) =>
  cond (decide (a21 < (x18.length : Int)))
   (AA (fun a30 : List (List By8) =>
    rec24 (a30, (IntKind.wrap .i64 (a21 + 1)))) fun J32 =>
    (idx x18 a21).bind fun x33 =>
   cond (!(x33 == [104, 116, 116, 112, 58, 47, 47, 119, 119, 119, 46, 119, 51, 46, 111, 114, 103, 47, 88, 77, 76, 47, 49, 57, 57, 56, 47, 110, 97, 109, 101, 115, 112, 97, 99, 101]))
    ((app 16 a19 [x33]).bind fun _ =>
    J32 (a19 ++ [x33]))
    (J32 a19))
   (some a19)
def Dr (p0 : Aa) : Option ((List (List By8))) :=
  AA (fun a15 : List (List By8) =>
   some a15) fun J17 =>
   (DO p0).bind fun x18 =>
   (iter (BT x18) FUEL ([], 0)).bind fun o =>
  J17 o
def AH (p0 : List By8) (p1 : List By8) (p2 : List (List By8)) (a60 : Int) (rec113 : (List By8) × Int -> Option (((List By8)))) : (List By8) × Int -> Option (((List By8)))
  | (a109, a110) =>
  cond (decide (a110 < (p1.length : Int)))
   (AA (fun a120 : List By8 =>
    rec113 (a120, (IntKind.wrap .i64 (a110 + 1)))) fun J121 =>
    (idx p0 a60).bind fun x122 =>
    (idx p1 a110).bind fun x123 =>
   cond ((x122.toNat : Int) == (x123.toNat : Int))
    ((Yk 6 p2 a110).bind fun x125 =>
    J121 x125)
    (J121 a109))
   (some a109)
def B6 (p0 : List By8) (p1 : List By8) (p2 : List (List By8)) (rec63 : (List By8) × Int -> Option (((List By8)))) : (List By8) × Int -> Option (((List By8)))
  | (a59, a60) =>
  cond (decide (a60 < (p0.length : Int)))
   (AA (fun a92 : List By8 =>
    rec63 (a92, (IntKind.wrap .i64 (a60 + 1)))) fun J93 =>
    (slc p0 a60 (IntKind.wrap .i64 (a60 + 1))).bind fun x94 =>
   AA (fun a107 : List By8 =>
     (cat a59 a107).bind fun _ =>
    J93 (a59 ++ a107)) fun J108 =>
    (iter (AH p0 p1 p2 a60) FUEL (x94, 0)).bind fun o =>
   J108 o)
   (some a59)
def CN (p0 : List By8) (p1 : List By8) (p2 : List (List By8)) : Option ((List By8)) :=
  AA (fun a57 : List By8 =>
   some a57) fun J58 =>
   (iter (B6 p0 p1 p2) FUEL ([], 0)).bind fun o =>
  J58 o
def Ej (p0 : List By8) : Option ((List By8)) :=
   (CN p0 [38, 60, 62, 13] ([[38, 97, 109, 112, 59], [38, 108, 116, 59], [38, 103, 116, 59], [38, 35, 49, 51, 59], [], []] : List (List By8))).bind fun x1 =>
  some x1
def Cl (rec11 : Int × (List By8) -> Option (((List By8)))) : Int × (List By8) -> Option (((List By8)))
  | (a7, a8) =>
  cond (decide (0 < a7))
   ((u8 (IntKind.wrap .u8 (IntKind.wrap .i64 (48 + (Int.tmod a7 10))))).bind fun b14 =>
    (cat [b14] a8).bind fun _ =>
   rec11 ((IntKind.wrap .i64 (Int.tdiv a7 10)), ([b14] ++ a8)))
   (some a8)
def CV (p0 : Int) : Option ((List By8)) :=
  AA (fun a5 : List By8 =>
   some a5) fun J6 =>
   (iter (Cl) FUEL (p0, [])).bind fun o =>
  J6 o
def A4 (p0 : List (List By8)) (p1 : Ad) (rec11 : Int -> Option (Unit ⊕ ((List By8)))) (a8 : Int) : Option (Unit ⊕ ((List By8))) :=
  cond (decide (a8 < (p0.length : Int)))
   ((idx p0 a8).bind fun x14 =>
   cond (x14 == p1.URI)
    ((CV (IntKind.wrap .i64 (a8 + 1))).bind fun x16 =>
     (cat [110] x16).bind fun _ =>
     (cat ([110] ++ x16) [58]).bind fun _ =>
     (cat (([110] ++ x16) ++ [58]) p1.Local).bind fun _ =>
    some (.inr ((([110] ++ x16) ++ [58]) ++ p1.Local)))
    (rec11 (IntKind.wrap .i64 (a8 + 1))))
   (some (.inl ()))
def CQ (p0 : List (List By8)) (p1 : Ad) : Option ((List By8)) :=
  cond (p1.URI == [104, 116, 116, 112, 58, 47, 47, 119, 119, 119, 46, 119, 51, 46, 111, 114, 103, 47, 88, 77, 76, 47, 49, 57, 57, 56, 47, 110, 97, 109, 101, 115, 112, 97, 99, 101])
   ((cat [120, 109, 108, 58] p1.Local).bind fun _ =>
   some ([120, 109, 108, 58] ++ p1.Local))
   (AA (fun _ : Unit =>
    some p1.Local) fun J7 =>
    (iter (A4 p0 p1) FUEL 0).bind fun o =>
   match o with
   | .inl o1 => J7 o1
   | .inr o1 => some o1)
def Da (p0 : List By8) : Option ((List By8)) :=
   (CN p0 [38, 60, 34, 9, 10, 13] ([[38, 97, 109, 112, 59], [38, 108, 116, 59], [38, 113, 117, 111, 116, 59], [38, 35, 57, 59], [38, 35, 49, 48, 59], [38, 35, 49, 51, 59]] : List (List By8))).bind fun x1 =>
  some x1
def Bt (p0 : List (List By8)) (rec21 : (List By8) × Int -> Option (((List By8)))) : (List By8) × Int -> Option (((List By8)))
  | (a17, a18) =>
  cond (decide (a18 < (p0.length : Int)))
   ((idx p0 a18).bind fun x24 =>
    (cat a17 [32, 120, 109, 108, 110, 115, 58, 110]).bind fun _ =>
    (CV (IntKind.wrap .i64 (a18 + 1))).bind fun x25 =>
    (cat (a17 ++ [32, 120, 109, 108, 110, 115, 58, 110]) x25).bind fun _ =>
    (cat ((a17 ++ [32, 120, 109, 108, 110, 115, 58, 110]) ++ x25) [61, 34]).bind fun _ =>
    (Da x24).bind fun x26 =>
    (cat (((a17 ++ [32, 120, 109, 108, 110, 115, 58, 110]) ++ x25) ++ [61, 34]) x26).bind fun _ =>
    (cat ((((a17 ++ [32, 120, 109, 108, 110, 115, 58, 110]) ++ x25) ++ [61, 34]) ++ x26) [34]).bind fun _ =>
   rec21 ((((((a17 ++ [32, 120, 109, 108, 110, 115, 58, 110]) ++ x25) ++ [61, 34]) ++ x26) ++ [34]), (IntKind.wrap .i64 (a18 + 1))))
   (some a17)
def BZ (p0 : List (List By8)) (p1 : Aa) (rec42 : (List By8) × Int -> Option (((List By8)))) : (List By8) × Int -> Option (((List By8)))
  | (a38, a39) =>
  cond (decide (a39 < (p1.Attrs.length : Int)))
   ((idx p1.Attrs a39).bind fun x45 =>
    (cat a38 [32]).bind fun _ =>
    (CQ p0 x45.Name).bind fun x47 =>
    (cat (a38 ++ [32]) x47).bind fun _ =>
    (cat ((a38 ++ [32]) ++ x47) [61, 34]).bind fun _ =>
    (Da x45.Value).bind fun x48 =>
    (cat (((a38 ++ [32]) ++ x47) ++ [61, 34]) x48).bind fun _ =>
    (cat ((((a38 ++ [32]) ++ x47) ++ [61, 34]) ++ x48) [34]).bind fun _ =>
   rec42 ((((((a38 ++ [32]) ++ x47) ++ [61, 34]) ++ x48) ++ [34]), (IntKind.wrap .i64 (a39 + 1))))
   (some a38)
def BY (p0 : List (List By8)) (p1 : Aa) (rec0 : (List (List By8)) × Aa × Bool -> Option ((List By8))) (rec63 : (List By8) × Int -> Option (((List By8)))) : (List By8) × Int -> Option (((List By8)))
  | (a59, a60) =>
  cond (decide (a60 < (p1.Kids.length : Int)))
   ((idx p1.Kids a60).bind fun x66 =>
    (rec0 (p0, x66, false)).bind fun x68 =>
    (cat a59 x68).bind fun _ =>
   rec63 ((a59 ++ x68), (IntKind.wrap .i64 (a60 + 1))))
   (some a59)
def Cd (rec0 : (List (List By8)) × Aa × Bool -> Option ((List By8))) : (List (List By8)) × Aa × Bool -> Option ((List By8))
  | (p0, p1, p2) =>
  cond (p1.Kind == 3)
   ((Ej p1.Text).bind fun x2 =>
   some x2)
   (cond (p1.Kind == 4)
    ((cat [60, 33, 45, 45] p1.Text).bind fun _ =>
     (cat ([60, 33, 45, 45] ++ p1.Text) [45, 45, 62]).bind fun _ =>
    some (([60, 33, 45, 45] ++ p1.Text) ++ [45, 45, 62]))
    (cond (p1.Kind == 5)
     (cond (p1.Text == [])
      ((cat [60, 63] p1.Name.Local).bind fun _ =>
       (cat ([60, 63] ++ p1.Name.Local) [63, 62]).bind fun _ =>
      some (([60, 63] ++ p1.Name.Local) ++ [63, 62]))
      ((cat [60, 63] p1.Name.Local).bind fun _ =>
       (cat ([60, 63] ++ p1.Name.Local) [32]).bind fun _ =>
       (cat (([60, 63] ++ p1.Name.Local) ++ [32]) p1.Text).bind fun _ =>
       (cat ((([60, 63] ++ p1.Name.Local) ++ [32]) ++ p1.Text) [63, 62]).bind fun _ =>
      some (((([60, 63] ++ p1.Name.Local) ++ [32]) ++ p1.Text) ++ [63, 62])))
     ((CQ p0 p1.Name).bind fun x6 =>
      (cat [60] x6).bind fun _ =>
     AA (fun a14 : List By8 =>
      AA (fun a36 : List By8 =>
        (cat a36 [62]).bind fun _ =>
       AA (fun a57 : List By8 =>
         (cat a57 [60, 47]).bind fun _ =>
         (cat (a57 ++ [60, 47]) x6).bind fun _ =>
         (cat ((a57 ++ [60, 47]) ++ x6) [62]).bind fun _ =>
        some (((a57 ++ [60, 47]) ++ x6) ++ [62])) fun J58 =>
        (iter (BY p0 p1 rec0) FUEL ((a36 ++ [62]), 0)).bind fun o =>
       J58 o) fun J37 =>
       (iter (BZ p0 p1) FUEL (a14, 0)).bind fun o =>
      J37 o) fun J15 =>
     cond p2
      ((iter (Bt p0) FUEL (([60] ++ x6), 0)).bind fun o =>
      J15 o)
      (J15 ([60] ++ x6)))))
def Fj (p0 : List (List By8)) (p1 : Aa) (p2 : Bool) : Option ((List By8)) := iter Cd FUEL (p0, p1, p2)
def BM (p0 : Aa) (x3 : (List (List By8))) (rec16 : (List By8) × Int -> Option (((List By8)))) : (List By8) × Int -> Option (((List By8)))
  | (a12, a13) =>
  cond (decide (a13 < (p0.Kids.length : Int)))
   ((idx p0.Kids a13).bind fun x19 =>
    (Fj x3 x19 true).bind fun x21 =>
    (cat a12 x21).bind fun _ =>
    (cat (a12 ++ x21) [10]).bind fun _ =>
   rec16 (((a12 ++ x21) ++ [10]), (IntKind.wrap .i64 (a13 + 1))))
   (some a12)
def E3 (p0 : Aa) : Option ((List By8) × Int) :=
   (Cr p0).bind fun x1 =>
  cond (x1 != 0)
   (some ([], x1))
   ((Dr p0).bind fun x3 =>
   AA (fun a10 : List By8 =>
    cond (decide (65536 < (a10.length : Int)))
     (some ([], 6))
     (some (a10, 0))) fun J11 =>
    (iter (BM p0 x3) FUEL ([], 0)).bind fun o =>
   J11 o)
def Gs (p0 : Aa) (rec0 : Aa -> Option (Aa)) (rec42 : Int × (List By8) × (List By8) × (List Ae) × (List Aa) × (List By8) × Int -> Option ((Int × (List By8) × (List By8) × (List Ae) × (List Aa) × (List By8)))) : Int × (List By8) × (List By8) × (List Ae) × (List Aa) × (List By8) × Int -> Option ((Int × (List By8) × (List By8) × (List Ae) × (List Aa) × (List By8)))
  | (a31, a32, a33, a34, a36, a38, a39) =>
  cond (decide (a39 < (p0.Kids.length : Int)))
   ((idx p0.Kids a39).bind fun x45 =>
    (rec0 x45).bind fun x47 =>
    (app 104 a36 [x47]).bind fun _ =>
   rec42 (a31, a32, a33, a34, (a36 ++ [x47]), a38, (IntKind.wrap .i64 (a39 + 1))))
   (some (a31, a32, a33, a34, a36, a38))
def Lf (p0 : Aa) (rec0 : Aa -> Option (Aa)) (rec90 : Int × (List By8) × (List By8) × (List Ae) × (List Aa) × (List By8) × Int -> Option ((Int × (List By8) × (List By8) × (List Ae) × (List Aa) × (List By8)))) : Int × (List By8) × (List By8) × (List Ae) × (List Aa) × (List By8) × Int -> Option ((Int × (List By8) × (List By8) × (List Ae) × (List Aa) × (List By8)))
  | (a79, a80, a81, a82, a84, a86, a87) =>
  cond (decide (a87 < (p0.Kids.length : Int)))
   ((idx p0.Kids a87).bind fun x93 =>
    (rec0 x93).bind fun x95 =>
    (app 104 a84 [x95]).bind fun _ =>
   rec90 (a79, a80, a81, a82, (a84 ++ [x95]), a86, (IntKind.wrap .i64 (a87 + 1))))
   (some (a79, a80, a81, a82, a84, a86))
def Lh (p0 : Aa) (rec0 : Aa -> Option (Aa)) (rec139 : Int × (List By8) × (List By8) × (List Ae) × (List Aa) × (List By8) × Int -> Option ((Int × (List By8) × (List By8) × (List Ae) × (List Aa) × (List By8)))) : Int × (List By8) × (List By8) × (List Ae) × (List Aa) × (List By8) × Int -> Option ((Int × (List By8) × (List By8) × (List Ae) × (List Aa) × (List By8)))
  | (a128, a129, a130, a131, a133, a135, a136) =>
  cond (decide (a136 < (p0.Kids.length : Int)))
   ((idx p0.Kids a136).bind fun x142 =>
    (rec0 x142).bind fun x144 =>
    (app 104 a133 [x144]).bind fun _ =>
   rec139 (a128, a129, a130, a131, (a133 ++ [x144]), a135, (IntKind.wrap .i64 (a136 + 1))))
   (some (a128, a129, a130, a131, a133, a135))
def Gx (rec0 : Aa -> Option (Aa)) : Aa -> Option (Aa)
  | p0 =>
   (app 48 ([] : List Ae) p0.Attrs).bind fun _ =>
  AA (fun v : Int × (List By8) × (List By8) × (List Ae) × (List Aa) × (List By8) => match v with
   | (a22, a23, a24, a25, a27, a29) =>
   some (⟨a22, (⟨a23, a24⟩ : Ad), a25, a27, a29⟩ : Aa)) fun J30 =>
   (iter (Gs p0 rec0) FUEL (p0.Kind, p0.Name.URI, p0.Name.Local, ([] ++ p0.Attrs), [], p0.Text, 0)).bind fun o =>
  J30 o
def Mo (p0 : Aa) : Option (Aa) := iter Gx FUEL p0
end Go.Proofs.YtjofelloaofooaaGreatDoor
