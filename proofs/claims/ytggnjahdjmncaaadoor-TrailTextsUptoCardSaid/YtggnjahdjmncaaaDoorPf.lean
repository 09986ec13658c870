/- The plain functions. No condition. -/
import Derived.Test.YtggnjahdjmncaaaDoorEng23
import Derived.Test.YtggnjahdjmncaaaDoorLg
set_option linter.unusedVariables false
set_option linter.unusedSimpArgs false
set_option maxRecDepth 20000
set_option maxHeartbeats 8000000
namespace Go.Proofs.YtggnjahdjmncaaaDoor
structure T_char_span where
  lo : Int
  hi : Int
  deriving DecidableEq, Inhabited
def c_T_char_span (x : T_char_span) : List D := [.int .i32 x.lo, .int .i32 x.hi]
structure T_api_Name where
  URI : List UInt8
  Local : List UInt8
  deriving DecidableEq, Inhabited
def c_T_api_Name (x : T_api_Name) : List D := [.str x.URI, .str x.Local]
structure T_trail_Trail where
  Steps : List Int
  Attr : Bool
  Name : T_api_Name
  deriving DecidableEq, Inhabited
def c_T_trail_Trail (x : T_trail_Trail) : List D := [.sl 1 (List.map c_i64 x.Steps) 0, .bool x.Attr, .str x.Name.URI, .str x.Name.Local]
structure T_api_Attr where
  Name : T_api_Name
  Value : List UInt8
  deriving DecidableEq, Inhabited
def c_T_api_Attr (x : T_api_Attr) : List D := [.str x.Name.URI, .str x.Name.Local, .str x.Value]
structure T_api_Node where
  Kind : Int
  Name : T_api_Name
  Attrs : List T_api_Attr
  Kids : List T_api_Node
  Text : List UInt8
  deriving Inhabited
mutual
def c_T_api_Node : T_api_Node → List D
  | ⟨Kind, Name, Attrs, Kids, Text⟩ => [.int .i64 Kind, .str Name.URI, .str Name.Local, .sl 3 (List.map c_T_api_Attr Attrs) 0, .sl 6 (c_T_api_Node_l Kids) 0, .str Text]
def c_T_api_Node_l : List T_api_Node → List (List D)
  | [] => []
  | x :: l => c_T_api_Node x :: c_T_api_Node_l l
end
theorem c_T_api_Node_lm : ∀ l : List T_api_Node, c_T_api_Node_l l = List.map c_T_api_Node l
  | [] => by simp only [c_T_api_Node_l, List.map_nil]
  | x :: l => by simp only [c_T_api_Node_l, List.map_cons, c_T_api_Node_lm l]
theorem c_T_api_Node_eq (x : T_api_Node) : c_T_api_Node x = [.int .i64 x.Kind, .str x.Name.URI, .str x.Name.Local, .sl 3 (List.map c_T_api_Attr x.Attrs) 0, .sl 6 (List.map c_T_api_Node x.Kids) 0, .str x.Text] := by cases x; simp only [c_T_api_Node, c_T_api_Node_lm]

def F_slices_IndexFunc_int_int_l0 (p0 : List Int) (p1 : Int → Option Bool) (rec10 : Int → Option (Unit ⊕ Int)) (a7 : Int) : Option (Unit ⊕ Int) :=
  cond (decide (a7 < (p0.length : Int)))
   ((idx p0 a7).bind fun x13 =>
    (p1 x13).bind fun x14 =>
   cond x14
    (some (.inr a7))
    (rec10 (IntKind.wrap .i64 (a7 + (1 : Int)))))
   (some (.inl ()))
/-- slices.IndexFunc[[]int,int] -/
def F_slices_IndexFunc_int_int (p0 : List Int) (p1 : Int → Option Bool) : Option (Int) :=
  letJ (fun _ : Unit =>
   some (-1 : Int)) fun J6 =>
   (iter (F_slices_IndexFunc_int_int_l0 p0 p1) FUEL (0 : Int)).bind fun o =>
  match o with
  | .inl o1 => J6 o1
  | .inr o1 => some o1
/-- slices.ContainsFunc[[]int,int] -/
def F_slices_ContainsFunc_int_int (p0 : List Int) (p1 : Int → Option Bool) : Option (Bool) :=
   (F_slices_IndexFunc_int_int p0 p1).bind fun x1 =>
  some (decide ((0 : Int) ≤ x1))
/-- lectern/trail.right$1 -/
def F_trail_right_1 (p0 : Int) : Option (Bool) :=
  some ((decide (p0 < (0 : Int))) || (decide ((999999999 : Int) < p0)))
def F_char_in_l0 (p0 : Int) (p1 : List T_char_span) (rec10 : Int → Option (Unit ⊕ Bool)) (a7 : Int) : Option (Unit ⊕ Bool) :=
  cond (decide (a7 < (p1.length : Int)))
   ((idx p1 a7).bind fun x13 =>
   cond (decide (p0 ≤ x13.hi))
    (some (.inr (decide (x13.lo ≤ p0))))
    (rec10 (IntKind.wrap .i64 (a7 + (1 : Int)))))
   (some (.inl ()))
/-- lectern/char.in -/
def F_char_in (p0 : Int) (p1 : List T_char_span) : Option (Bool) :=
  letJ (fun _ : Unit =>
   some false) fun J6 =>
   (iter (F_char_in_l0 p0 p1) FUEL (0 : Int)).bind fun o =>
  match o with
  | .inl o1 => J6 o1
  | .inr o1 => some o1
/-- lectern/char.IsChar -/
def F_char_IsChar (p0 : Int) : Option (Bool) :=
   (letJ (fun v5 : Bool => some v5) fun J4 => cond (((p0 == (9 : Int)) || (p0 == (10 : Int))) || (p0 == (13 : Int))) (J4 true) ((F_char_in p0 ([(⟨(32 : Int), (55295 : Int)⟩ : T_char_span), (⟨(57344 : Int), (65533 : Int)⟩ : T_char_span), (⟨(65536 : Int), (1114111 : Int)⟩ : T_char_span)])).bind fun x6 =>
    J4 x6))
/-- lectern/char.Next -/
def F_char_Next (p0 : List UInt8) (p1 : Int) : Option (Int × Int × Int) :=
  cond ((decide (p1 < (0 : Int))) || (decide ((p0.length : Int) ≤ p1)))
   (some ((0 : Int), (0 : Int), (1 : Int)))
   ((slc p0 p1 (p0.length : Int)).bind fun x3 =>
    (L_DecodeRune x3).bind fun x4 =>
   cond ((x4.1 == (65533 : Int)) && (decide (x4.2 < (3 : Int))))
    (some ((0 : Int), (0 : Int), (20 : Int)))
    ((F_char_IsChar x4.1).bind fun x7 =>
    cond (!x7)
     (some ((0 : Int), (0 : Int), (21 : Int)))
     (some (x4.1, (IntKind.wrap .i64 (p1 + x4.2)), (0 : Int)))))
def F_char_Fault_l0 (p0 : List UInt8) (rec9 : Int → Option (Unit ⊕ (Int × Int))) (a6 : Int) : Option (Unit ⊕ (Int × Int)) :=
  cond (decide (a6 < (p0.length : Int)))
   ((F_char_Next p0 a6).bind fun x12 =>
   cond (x12.2.2 != (0 : Int))
    (some (.inr (a6, x12.2.2)))
    (rec9 x12.2.1))
   (some (.inl ()))
/-- lectern/char.Fault -/
def F_char_Fault (p0 : List UInt8) : Option (Int × Int) :=
  letJ (fun _ : Unit =>
   some ((0 : Int), (0 : Int))) fun J5 =>
   (iter (F_char_Fault_l0 p0) FUEL (0 : Int)).bind fun o =>
  match o with
  | .inl o1 => J5 o1
  | .inr o1 => some o1
/-- lectern/char.IsStart -/
def F_char_IsStart (p0 : Int) : Option (Bool) :=
  cond (decide (p0 < (128 : Int)))
   (some ((((decide ((97 : Int) ≤ p0)) && (decide (p0 ≤ (122 : Int)))) || ((decide ((65 : Int) ≤ p0)) && (decide (p0 ≤ (90 : Int))))) || (p0 == (95 : Int))))
   ((F_char_in p0 ([(⟨(192 : Int), (214 : Int)⟩ : T_char_span), (⟨(216 : Int), (246 : Int)⟩ : T_char_span), (⟨(248 : Int), (767 : Int)⟩ : T_char_span), (⟨(880 : Int), (893 : Int)⟩ : T_char_span), (⟨(895 : Int), (8191 : Int)⟩ : T_char_span), (⟨(8204 : Int), (8205 : Int)⟩ : T_char_span), (⟨(8304 : Int), (8591 : Int)⟩ : T_char_span), (⟨(11264 : Int), (12271 : Int)⟩ : T_char_span), (⟨(12289 : Int), (55295 : Int)⟩ : T_char_span), (⟨(63744 : Int), (64975 : Int)⟩ : T_char_span), (⟨(65008 : Int), (65533 : Int)⟩ : T_char_span), (⟨(65536 : Int), (983039 : Int)⟩ : T_char_span)])).bind fun x7 =>
   some x7)
/-- lectern/char.IsPart -/
def F_char_IsPart (p0 : Int) : Option (Bool) :=
   (F_char_IsStart p0).bind fun x1 =>
   (letJ (fun v10 : Bool => some v10) fun J9 => cond ((((x1 || (p0 == (45 : Int))) || (p0 == (46 : Int))) || ((decide ((48 : Int) ≤ p0)) && (decide (p0 ≤ (57 : Int))))) || (p0 == (183 : Int))) (J9 true) ((F_char_in p0 ([(⟨(768 : Int), (879 : Int)⟩ : T_char_span), (⟨(8255 : Int), (8256 : Int)⟩ : T_char_span)])).bind fun x11 =>
    J9 x11))
def F_char_Name_l0 (p0 : List UInt8) (rec23 : Nat → Option (Unit ⊕ Bool)) (a20 : Nat) : Option (Unit ⊕ Bool) :=
  cond (decide (a20 < p0.length))
   ((letJ (fun v27 : Bool => (letJ (fun v31 : Bool => cond v31
        (some (.inr false))
        (rec23 (a20 + wdS p0 a20))) fun J30 => cond v27 (J30 true) ((F_char_IsPart (rnS p0 a20)).bind fun x32 =>
       J30 (!x32)))) fun J26 => cond (((a20 : Nat) : Int) == (0 : Int)) ((F_char_IsStart (rnS p0 a20)).bind fun x28 =>
     J26 (!x28)) (J26 false)))
   (some (.inl ()))
/-- lectern/char.Name -/
def F_char_Name (p0 : List UInt8) : Option (Bool) :=
   (letJ (fun v4 : Bool => cond v4
     (some false)
     (letJ (fun _ : Unit =>
      some true) fun J18 =>
      (iter (F_char_Name_l0 p0) FUEL (0 : Nat)).bind fun o =>
     match o with
     | .inl o1 => J18 o1
     | .inr o1 => some o1)) fun J3 => cond ((p0 == ([] : List UInt8)) || (decide ((100 : Int) < (p0.length : Int)))) (J3 true) ((L_ValidString p0).bind fun x5 =>
    J3 (!x5)))
/-- lectern/trail.right -/
def F_trail_right (p0 : T_trail_Trail) : Option (Bool) :=
   (letJ (fun v3 : Bool => cond v3
     (some false)
     (cond (!p0.Attr)
      (some ((p0.Name.URI == (⟨([] : List UInt8), ([] : List UInt8)⟩ : T_api_Name).URI) && ((p0.Name.Local == (⟨([] : List UInt8), ([] : List UInt8)⟩ : T_api_Name).Local) && true)))
      ((F_char_Fault p0.Name.URI).bind fun x7 =>
       (F_char_Name p0.Name.Local).bind fun x8 =>
      some ((x8 && (decide ((p0.Name.URI.length : Int) ≤ (100 : Int)))) && (x7.2 == (0 : Int)))))) fun J2 => cond (decide ((64 : Int) < (p0.Steps.length : Int))) (J2 true) ((F_slices_ContainsFunc_int_int p0.Steps F_trail_right_1).bind fun x4 =>
    J2 x4))
def F_cmp_Or_string_l0 (p0 : List (List UInt8)) (rec9 : Int → Option (Unit ⊕ ((List UInt8)))) (a6 : Int) : Option (Unit ⊕ ((List UInt8))) :=
  cond (decide (a6 < (p0.length : Int)))
   ((idx p0 a6).bind fun x12 =>
   cond (!(x12 == ([] : List UInt8)))
    (some (.inr x12))
    (rec9 (IntKind.wrap .i64 (a6 + (1 : Int)))))
   (some (.inl ()))
/-- cmp.Or[string] -/
def F_cmp_Or_string (p0 : List (List UInt8)) : Option ((List UInt8)) :=
  letJ (fun _ : Unit =>
   some ([] : List UInt8)) fun J5 =>
   (iter (F_cmp_Or_string_l0 p0) FUEL (0 : Int)).bind fun o =>
  match o with
  | .inl o1 => J5 o1
  | .inr o1 => some o1
def F_trail_Show_l0 (p0 : T_trail_Trail) (rec14 : (List UInt8) × Int → Option (((List UInt8)))) : (List UInt8) × Int → Option (((List UInt8)))
  | (a10, a11) =>
  cond (decide (a11 < (p0.Steps.length : Int)))
   ((idx p0.Steps a11).bind fun x17 =>
    (L_Itoa x17).bind fun x18 =>
    (cat ([47] : List UInt8) x18).bind fun _ =>
    (cat a10 (([47] : List UInt8) ++ x18)).bind fun _ =>
   rec14 ((a10 ++ (([47] : List UInt8) ++ x18)), (IntKind.wrap .i64 (a11 + (1 : Int)))))
   (some a10)
/-- lectern/trail.Show -/
def F_trail_Show (p0 : T_trail_Trail) : Option ((List UInt8) × Int) :=
   (F_trail_right p0).bind fun x1 =>
  cond (!x1)
   (some (([] : List UInt8), (35 : Int)))
   (letJ (fun a8 : List UInt8 =>
    letJ (fun a21 : List UInt8 =>
      (F_cmp_Or_string ([a21, ([47] : List UInt8)])).bind fun x25 =>
     some (x25, (0 : Int))) fun J22 =>
    cond p0.Attr
     ((cat ([47, 64] : List UInt8) p0.Name.Local).bind fun _ =>
      (cat a8 (([47, 64] : List UInt8) ++ p0.Name.Local)).bind fun _ =>
     cond (!(p0.Name.URI == ([] : List UInt8)))
      ((cat ([123] : List UInt8) p0.Name.URI).bind fun _ =>
       (cat (([123] : List UInt8) ++ p0.Name.URI) ([125] : List UInt8)).bind fun _ =>
       (cat (a8 ++ (([47, 64] : List UInt8) ++ p0.Name.Local)) ((([123] : List UInt8) ++ p0.Name.URI) ++ ([125] : List UInt8))).bind fun _ =>
      J22 ((a8 ++ (([47, 64] : List UInt8) ++ p0.Name.Local)) ++ ((([123] : List UInt8) ++ p0.Name.URI) ++ ([125] : List UInt8))))
      (J22 (a8 ++ (([47, 64] : List UInt8) ++ p0.Name.Local))))
     (J22 a8)) fun J9 =>
    (iter (F_trail_Show_l0 p0) FUEL (([] : List UInt8), (0 : Int))).bind fun o =>
   J9 o)
/-- internal/stringslite.HasSuffix -/
def F_stringslite_HasSuffix (p0 : List UInt8) (p1 : List UInt8) : Option (Bool) :=
   (letJ (fun v3 : Bool => some v3) fun J2 => cond (decide ((p1.length : Int) ≤ (p0.length : Int))) ((slc p0 (IntKind.wrap .i64 ((p0.length : Int) - (p1.length : Int))) (p0.length : Int)).bind fun x4 =>
    J2 (x4 == p1)) (J2 false))
/-- strings.HasSuffix -/
def F_strings_HasSuffix (p0 : List UInt8) (p1 : List UInt8) : Option (Bool) :=
   (F_stringslite_HasSuffix p0 p1).bind fun x1 =>
  some x1
def F_trail_Read_l0 (x53 : (List (List UInt8))) (rec62 : (List Int) × Bool × (List UInt8) × (List UInt8) × Int → Option (((List Int) × Bool × (List UInt8) × (List UInt8)))) : (List Int) × Bool × (List UInt8) × (List UInt8) × Int → Option (((List Int) × Bool × (List UInt8) × (List UInt8)))
  | (a54, a56, a57, a58, a59) =>
  cond (decide (a59 < (x53.length : Int)))
   (letJ (fun a70 : List Int =>
    rec62 (a70, a56, a57, a58, (IntKind.wrap .i64 (a59 + (1 : Int))))) fun J72 =>
    (idx x53 a59).bind fun x73 =>
    (L_Atoi x73).bind fun x74 =>
   cond ((!x74.2) && (decide ((a54.length : Int) ≤ (64 : Int))))
    ((app 8 a54 [x74.1]).bind fun _ =>
    J72 (a54 ++ [x74.1]))
    (J72 a54))
   (some (a54, a56, a57, a58))
/-- lectern/trail.Read -/
def F_trail_Read (p0 : List UInt8) : Option (T_trail_Trail × Int) :=
   (L_Cut p0 ([47, 64] : List UInt8)).bind fun x4 =>
  letJ (fun v : Bool × (List UInt8) × (List UInt8) => match v with
   | (a14, a15, a16) =>
   letJ (fun v : (List Int) × Bool × (List UInt8) × (List UInt8) => match v with
    | (a47, a49, a50, a51) =>
     (F_trail_Show (⟨a47, a49, (⟨a50, a51⟩ : T_api_Name)⟩ : T_trail_Trail)).bind fun x78 =>
    cond ((x78.2 != (0 : Int)) || (!(x78.1 == p0)))
     (some ((⟨([] : List Int), false, (⟨([] : List UInt8), ([] : List UInt8)⟩ : T_api_Name)⟩ : T_trail_Trail), (35 : Int)))
     (some ((⟨a47, a49, (⟨a50, a51⟩ : T_api_Name)⟩ : T_trail_Trail), (0 : Int)))) fun J52 =>
    (L_Split x4.1 ([47] : List UInt8)).bind fun x53 =>
    (iter (F_trail_Read_l0 x53) FUEL (([] : List Int), a14, a15, a16, (0 : Int))).bind fun o =>
   J52 o) fun J17 =>
  cond x4.2.2
   ((L_IndexByte x4.2.1 (123 : Int)).bind fun x19 =>
    (letJ (fun v22 : Bool => cond v22
      ((slc x4.2.1 (IntKind.wrap .i64 (x19 + (1 : Int))) (IntKind.wrap .i64 ((x4.2.1.length : Int) - (1 : Int)))).bind fun x25 =>
       (slc x4.2.1 (0 : Int) x19).bind fun x26 =>
      J17 (true, (⟨x25, x26⟩ : T_api_Name).URI, (⟨x25, x26⟩ : T_api_Name).Local))
      (J17 (true, ([] : List UInt8), x4.2.1))) fun J21 => cond (decide ((0 : Int) ≤ x19)) ((F_strings_HasSuffix x4.2.1 ([125] : List UInt8)).bind fun x23 =>
     J21 x23) (J21 false)))
   (J17 (false, ([] : List UInt8), ([] : List UInt8)))
/-- lectern/lecternlaw08.awake -/
def F_lecternlaw08_awake : Option (Bool) :=
   (F_trail_Show (⟨[(1 : Int), (0 : Int)], true, (⟨([117] : List UInt8), ([98] : List UInt8)⟩ : T_api_Name)⟩ : T_trail_Trail)).bind fun x1 =>
   (F_trail_Read ([47, 49, 47, 48, 47, 64, 98, 123, 117, 125] : List UInt8)).bind fun x2 =>
   (F_trail_Read ([47, 48, 49] : List UInt8)).bind fun x4 =>
  some (((((((x1.2 == (0 : Int)) && (x2.2 == (0 : Int))) && (x4.2 == (35 : Int))) && (x1.1 == ([47, 49, 47, 48, 47, 64, 98, 123, 117, 125] : List UInt8))) && ((x2.1.Steps.length : Int) == (2 : Int))) && x2.1.Attr) && (x2.1.Name.URI == ([117] : List UInt8)))
/-- lectern/lecternlaw08.doc -/
def F_lecternlaw08_doc (p0 : T_trail_Trail) : Option (T_trail_Trail) :=
  some p0
def F_lecternref01_Read_l0 (p0 : List UInt8) (p1 : Int) (a9 : Int) (rec33 : Int × Int → Option (Int ⊕ (Int × Int))) : Int × Int → Option (Int ⊕ (Int × Int))
  | (a29, a30) =>
  cond (decide (a30 < a9))
   ((idx p0 (IntKind.wrap .i64 (p1 + a30))).bind fun x36 =>
   cond ((decide ((IntKind.wrap .i64 (x36.toNat : Int)) < (128 : Int))) || (decide ((191 : Int) < (IntKind.wrap .i64 (x36.toNat : Int)))))
    (some (.inr ((0 : Int), (0 : Int))))
    (rec33 ((IntKind.wrap .i64 ((IntKind.wrap .i64 ((IntKind.wrap .i64 ((64 : Int) * a29)) + (IntKind.wrap .i64 (x36.toNat : Int)))) - (128 : Int))), (IntKind.wrap .i64 (a30 + (1 : Int))))))
   (some (.inl a29))
/-- lectern/lecternref01.Read -/
def F_lecternref01_Read (p0 : List UInt8) (p1 : Int) : Option (Int × Int) :=
   (idx p0 p1).bind fun x1 =>
  letJ (fun v : Int × Int × Int => match v with
   | (a9, a10, a11) =>
   cond (decide ((p0.length : Int) < (IntKind.wrap .i64 (p1 + a9))))
    (some ((0 : Int), (0 : Int)))
    (letJ (fun a27 : Int =>
     cond (((decide (a27 < a11)) || (decide ((1114111 : Int) < a27))) || ((decide ((55296 : Int) ≤ a27)) && (decide (a27 ≤ (57343 : Int)))))
      (some ((0 : Int), (0 : Int)))
      (some (a27, a9))) fun J28 =>
     (iter (F_lecternref01_Read_l0 p0 p1 a9) FUEL (a10, (1 : Int))).bind fun o =>
    match o with
    | .inl o1 => J28 o1
    | .inr o1 => some o1)) fun J12 =>
  cond (decide ((IntKind.wrap .i64 (x1.toNat : Int)) < (128 : Int)))
   (some ((IntKind.wrap .i64 (x1.toNat : Int)), (1 : Int)))
   (cond ((decide ((192 : Int) ≤ (IntKind.wrap .i64 (x1.toNat : Int)))) && (decide ((IntKind.wrap .i64 (x1.toNat : Int)) < (224 : Int))))
    (J12 ((2 : Int), (IntKind.wrap .i64 ((IntKind.wrap .i64 (x1.toNat : Int)) - (192 : Int))), (128 : Int)))
    (cond ((decide ((224 : Int) ≤ (IntKind.wrap .i64 (x1.toNat : Int)))) && (decide ((IntKind.wrap .i64 (x1.toNat : Int)) < (240 : Int))))
     (J12 ((3 : Int), (IntKind.wrap .i64 ((IntKind.wrap .i64 (x1.toNat : Int)) - (224 : Int))), (2048 : Int)))
     (cond ((decide ((240 : Int) ≤ (IntKind.wrap .i64 (x1.toNat : Int)))) && (decide ((IntKind.wrap .i64 (x1.toNat : Int)) < (248 : Int))))
      (J12 ((4 : Int), (IntKind.wrap .i64 ((IntKind.wrap .i64 (x1.toNat : Int)) - (240 : Int))), (65536 : Int)))
      (some ((0 : Int), (0 : Int))))))
/-- lectern/lecternref01.Char -/
def F_lecternref01_Char (p0 : Int) : Option (Bool) :=
  some ((((((p0 == (9 : Int)) || (p0 == (10 : Int))) || (p0 == (13 : Int))) || ((decide ((32 : Int) ≤ p0)) && (decide (p0 ≤ (55295 : Int))))) || ((decide ((57344 : Int) ≤ p0)) && (decide (p0 ≤ (65533 : Int))))) || ((decide ((65536 : Int) ≤ p0)) && (decide (p0 ≤ (1114111 : Int)))))
def F_lecternref01_Fault_l0 (p0 : List UInt8) (rec11 : Int → Option (Unit ⊕ (Int × Int))) (a8 : Int) : Option (Unit ⊕ (Int × Int)) :=
  cond (decide (a8 < (p0.length : Int)))
   ((F_lecternref01_Read p0 a8).bind fun x14 =>
   cond (x14.2 == (0 : Int))
    (some (.inr (a8, (20 : Int))))
    ((F_lecternref01_Char x14.1).bind fun x16 =>
    cond (!x16)
     (some (.inr (a8, (21 : Int))))
     (rec11 (IntKind.wrap .i64 (a8 + x14.2)))))
   (some (.inl ()))
/-- lectern/lecternref01.Fault -/
def F_lecternref01_Fault (p0 : List UInt8) : Option (Int × Int) :=
  letJ (fun _ : Unit =>
   some ((0 : Int), (0 : Int))) fun J7 =>
   (iter (F_lecternref01_Fault_l0 p0) FUEL (0 : Int)).bind fun o =>
  match o with
  | .inl o1 => J7 o1
  | .inr o1 => some o1
/-- lectern/lecternref01.Start -/
def F_lecternref01_Start (p0 : Int) : Option (Bool) :=
  letJ (fun a5 : Bool =>
   cond a5
    (some true)
    (cond ((decide ((192 : Int) ≤ p0)) && (decide (p0 ≤ (767 : Int))))
     (some ((p0 != (215 : Int)) && (p0 != (247 : Int))))
     (cond ((decide ((880 : Int) ≤ p0)) && (decide (p0 ≤ (8191 : Int))))
      (some (p0 != (894 : Int)))
      (letJ (fun a18 : Bool =>
       cond a18
        (some true)
        (letJ (fun a27 : Bool =>
         cond a27
          (some true)
          (cond ((decide ((63744 : Int) ≤ p0)) && (decide (p0 ≤ (65533 : Int))))
           (some ((decide (p0 < (64976 : Int))) || (decide ((65008 : Int) ≤ p0))))
           (some ((decide ((65536 : Int) ≤ p0)) && (decide (p0 ≤ (983039 : Int))))))) fun J28 =>
        cond ((decide ((8304 : Int) ≤ p0)) && (decide (p0 ≤ (8591 : Int))))
         (J28 ((decide ((8304 : Int) ≤ p0)) && (decide (p0 ≤ (8591 : Int)))))
         (cond ((decide ((11264 : Int) ≤ p0)) && (decide (p0 ≤ (12271 : Int))))
          (J28 ((decide ((11264 : Int) ≤ p0)) && (decide (p0 ≤ (12271 : Int)))))
          (J28 ((decide ((12289 : Int) ≤ p0)) && (decide (p0 ≤ (55295 : Int)))))))) fun J19 =>
      cond (p0 == (8204 : Int))
       (J19 (p0 == (8204 : Int)))
       (J19 (p0 == (8205 : Int))))))) fun J6 =>
  cond ((decide ((65 : Int) ≤ p0)) && (decide (p0 ≤ (90 : Int))))
   (J6 ((decide ((65 : Int) ≤ p0)) && (decide (p0 ≤ (90 : Int)))))
   (cond (p0 == (95 : Int))
    (J6 (p0 == (95 : Int)))
    (J6 ((decide ((97 : Int) ≤ p0)) && (decide (p0 ≤ (122 : Int))))))
/-- lectern/lecternref01.Part -/
def F_lecternref01_Part (p0 : Int) : Option (Bool) :=
   (F_lecternref01_Start p0).bind fun x1 =>
  some (((((((x1 || (p0 == (45 : Int))) || (p0 == (46 : Int))) || ((decide ((48 : Int) ≤ p0)) && (decide (p0 ≤ (57 : Int))))) || (p0 == (183 : Int))) || ((decide ((768 : Int) ≤ p0)) && (decide (p0 ≤ (879 : Int))))) || (p0 == (8255 : Int))) || (p0 == (8256 : Int)))
def F_lecternref01_Name_l0 (p0 : List UInt8) (rec22 : Int → Option (Unit ⊕ Bool)) (a19 : Int) : Option (Unit ⊕ Bool) :=
  cond (decide (a19 < (p0.length : Int)))
   ((F_lecternref01_Read p0 a19).bind fun x25 =>
    (letJ (fun v28 : Bool => (letJ (fun v32 : Bool => cond v32
        (some (.inr false))
        (rec22 (IntKind.wrap .i64 (a19 + x25.2)))) fun J31 => cond v28 (J31 true) ((letJ (fun v35 : Bool => J31 v35) fun J34 => cond (a19 == (0 : Int)) ((F_lecternref01_Start x25.1).bind fun x36 =>
         J34 (!x36)) (J34 false))))) fun J27 => cond (x25.2 == (0 : Int)) (J27 true) ((F_lecternref01_Part x25.1).bind fun x29 =>
     J27 (!x29))))
   (some (.inl ()))
/-- lectern/lecternref01.Name -/
def F_lecternref01_Name (p0 : List UInt8) : Option (Bool) :=
  cond (((p0.length : Int) == (0 : Int)) || (decide ((100 : Int) < (p0.length : Int))))
   (some false)
   (letJ (fun _ : Unit =>
    some true) fun J18 =>
    (iter (F_lecternref01_Name_l0 p0) FUEL (0 : Int)).bind fun o =>
   match o with
   | .inl o1 => J18 o1
   | .inr o1 => some o1)
def F_lecternref08_Right_l0 (p0 : T_trail_Trail) (rec11 : Int → Option (Unit ⊕ Bool)) (a8 : Int) : Option (Unit ⊕ Bool) :=
  cond (decide (a8 < (p0.Steps.length : Int)))
   ((idx p0.Steps a8).bind fun x14 =>
   cond ((decide (x14 < (0 : Int))) || (decide ((999999999 : Int) < x14)))
    (some (.inr false))
    (rec11 (IntKind.wrap .i64 (a8 + (1 : Int)))))
   (some (.inl ()))
/-- lectern/lecternref08.Right -/
def F_lecternref08_Right (p0 : T_trail_Trail) : Option (Bool) :=
  cond (decide ((64 : Int) < (p0.Steps.length : Int)))
   (some false)
   (letJ (fun _ : Unit =>
    cond (!p0.Attr)
     (some ((p0.Name.URI == (⟨([] : List UInt8), ([] : List UInt8)⟩ : T_api_Name).URI) && ((p0.Name.Local == (⟨([] : List UInt8), ([] : List UInt8)⟩ : T_api_Name).Local) && true)))
     ((F_lecternref01_Fault p0.Name.URI).bind fun x18 =>
      (F_lecternref01_Name p0.Name.Local).bind fun x19 =>
     some ((x19 && (decide ((p0.Name.URI.length : Int) ≤ (100 : Int)))) && (x18.2 == (0 : Int))))) fun J7 =>
    (iter (F_lecternref08_Right_l0 p0) FUEL (0 : Int)).bind fun o =>
   match o with
   | .inl o1 => J7 o1
   | .inr o1 => some o1)
def F_lecternref08_digits_l0 (rec12 : Int × (List UInt8) → Option ((Int × (List UInt8)))) : Int × (List UInt8) → Option ((Int × (List UInt8)))
  | (a8, a9) =>
  cond (decide ((9 : Int) < a8))
   ((u8 (IntKind.wrap .u8 (IntKind.wrap .i64 ((48 : Int) + (Int.tmod a8 (10 : Int)))))).bind fun b15 =>
    (cat [b15] a9).bind fun _ =>
   rec12 ((IntKind.wrap .i64 (Int.tdiv a8 (10 : Int))), ([b15] ++ a9)))
   (some (a8, a9))
/-- lectern/lecternref08.digits -/
def F_lecternref08_digits (p0 : Int) : Option ((List UInt8)) :=
  letJ (fun v : Int × (List UInt8) => match v with
   | (a5, a6) =>
    (u8 (IntKind.wrap .u8 (IntKind.wrap .i64 ((48 : Int) + a5)))).bind fun b16 =>
    (cat [b16] a6).bind fun _ =>
   some ([b16] ++ a6)) fun J7 =>
   (iter (F_lecternref08_digits_l0) FUEL (p0, ([] : List UInt8))).bind fun o =>
  J7 o
def F_lecternref08_Show_l0 (p0 : T_trail_Trail) (rec12 : (List UInt8) × Int → Option (((List UInt8)))) : (List UInt8) × Int → Option (((List UInt8)))
  | (a8, a9) =>
  cond (decide (a9 < (p0.Steps.length : Int)))
   ((idx p0.Steps a9).bind fun x15 =>
    (cat a8 ([47] : List UInt8)).bind fun _ =>
    (F_lecternref08_digits x15).bind fun x16 =>
    (cat (a8 ++ ([47] : List UInt8)) x16).bind fun _ =>
   rec12 (((a8 ++ ([47] : List UInt8)) ++ x16), (IntKind.wrap .i64 (a9 + (1 : Int)))))
   (some a8)
/-- lectern/lecternref08.Show -/
def F_lecternref08_Show (p0 : T_trail_Trail) : Option ((List UInt8)) :=
  letJ (fun a6 : List UInt8 =>
   letJ (fun a19 : List UInt8 =>
    cond (a19 == ([] : List UInt8))
     (some ([47] : List UInt8))
     (some a19)) fun J20 =>
   cond p0.Attr
    ((cat a6 ([47, 64] : List UInt8)).bind fun _ =>
     (cat (a6 ++ ([47, 64] : List UInt8)) p0.Name.Local).bind fun _ =>
    cond (!(p0.Name.URI == ([] : List UInt8)))
     ((cat ((a6 ++ ([47, 64] : List UInt8)) ++ p0.Name.Local) ([123] : List UInt8)).bind fun _ =>
      (cat (((a6 ++ ([47, 64] : List UInt8)) ++ p0.Name.Local) ++ ([123] : List UInt8)) p0.Name.URI).bind fun _ =>
      (cat ((((a6 ++ ([47, 64] : List UInt8)) ++ p0.Name.Local) ++ ([123] : List UInt8)) ++ p0.Name.URI) ([125] : List UInt8)).bind fun _ =>
     J20 (((((a6 ++ ([47, 64] : List UInt8)) ++ p0.Name.Local) ++ ([123] : List UInt8)) ++ p0.Name.URI) ++ ([125] : List UInt8)))
     (J20 ((a6 ++ ([47, 64] : List UInt8)) ++ p0.Name.Local)))
    (J20 a6)) fun J7 =>
   (iter (F_lecternref08_Show_l0 p0) FUEL (([] : List UInt8), (0 : Int))).bind fun o =>
  J7 o
def F_lecternref08_Read_l1 (p0 : List UInt8) (a80 : Int) (rec114 : Int × Int → Option ((Int × Int))) : Int × Int → Option ((Int × Int))
  | (a110, a111) =>
   (letJ (fun v119 : Bool => (letJ (fun v123 : Bool => cond v123
       ((idx p0 a110).bind fun x126 =>
       rec114 ((IntKind.wrap .i64 (a110 + (1 : Int))), (IntKind.wrap .i64 ((IntKind.wrap .i64 ((10 : Int) * a111)) + (IntKind.wrap .i64 (IntKind.wrap .u8 ((x126.toNat : Int) - (48 : Int))))))))
       (some (a110, a111))) fun J122 => cond v119 ((idx p0 a110).bind fun x124 =>
      J122 (decide ((x124.toNat : Int) ≤ (57 : Int)))) (J122 false))) fun J118 => cond ((decide (a110 < (p0.length : Int))) && (decide ((IntKind.wrap .i64 (a110 - a80)) ≤ (9 : Int)))) ((idx p0 a110).bind fun x120 =>
    J118 (decide ((48 : Int) ≤ (x120.toNat : Int)))) (J118 false))
def F_lecternref08_Read_l0 (p0 : List UInt8) (rec83 : (List Int) × Bool × (List UInt8) × (List UInt8) × (List Int) × Bool × (List UInt8) × (List UInt8) × Int → Option (((List Int) × Bool × (List UInt8) × (List UInt8) × (List Int) × Bool × (List UInt8) × (List UInt8) × Int) ⊕ (T_trail_Trail × Bool))) : (List Int) × Bool × (List UInt8) × (List UInt8) × (List Int) × Bool × (List UInt8) × (List UInt8) × Int → Option (((List Int) × Bool × (List UInt8) × (List UInt8) × (List Int) × Bool × (List UInt8) × (List UInt8) × Int) ⊕ (T_trail_Trail × Bool))
  | (a71, a72, a73, a74, a75, a77, a78, a79, a80) =>
   (letJ (fun v87 : Bool => (letJ (fun v91 : Bool => cond v91
       (letJ (fun v : Int × Int => match v with
        | (a107, a108) =>
         (letJ (fun v129 : Bool => cond (v129 || ((a75.length : Int) == (64 : Int)))
           (some (.inr ((⟨([] : List Int), false, (⟨([] : List UInt8), ([] : List UInt8)⟩ : T_api_Name)⟩ : T_trail_Trail), false)))
           ((app 8 a75 [a108]).bind fun _ =>
           rec83 (a71, a72, a73, a74, (a75 ++ [a108]), a77, a78, a79, a107))) fun J128 => cond (a107 == (IntKind.wrap .i64 (a80 + (1 : Int)))) (J128 true) ((idx p0 (IntKind.wrap .i64 (a80 + (1 : Int)))).bind fun x130 =>
          J128 (((x130.toNat : Int) == (48 : Int)) && (decide ((IntKind.wrap .i64 (a80 + (2 : Int))) < a107)))))) fun J109 =>
        (iter (F_lecternref08_Read_l1 p0 a80) FUEL ((IntKind.wrap .i64 (a80 + (1 : Int))), (0 : Int))).bind fun o =>
       J109 o)
       (some (.inl (a71, a72, a73, a74, a75, a77, a78, a79, a80)))) fun J90 => cond v87 ((idx p0 (IntKind.wrap .i64 (a80 + (1 : Int)))).bind fun x92 =>
      J90 ((x92.toNat : Int) != (64 : Int))) (J90 false))) fun J86 => cond (decide ((IntKind.wrap .i64 (a80 + (1 : Int))) < (p0.length : Int))) ((idx p0 a80).bind fun x88 =>
    J86 ((x88.toNat : Int) == (47 : Int))) (J86 false))
def F_lecternref08_Read_l2 (p0 : List UInt8) (rec156 : Int → Option (Int)) (a153 : Int) : Option (Int) :=
   (letJ (fun v160 : Bool => cond v160
     (rec156 (IntKind.wrap .i64 (a153 + (1 : Int))))
     (some a153)) fun J159 => cond (decide (a153 < (p0.length : Int))) ((idx p0 a153).bind fun x161 =>
    J159 ((x161.toNat : Int) != (123 : Int))) (J159 false))
/-- lectern/lecternref08.Read -/
def F_lecternref08_Read (p0 : List UInt8) : Option (T_trail_Trail × Bool) :=
  cond (p0 == ([47] : List UInt8))
   (some ((⟨([] : List Int), false, (⟨([] : List UInt8), ([] : List UInt8)⟩ : T_api_Name)⟩ : T_trail_Trail), true))
   (letJ (fun v : (List Int) × Bool × (List UInt8) × (List UInt8) × (List Int) × Bool × (List UInt8) × (List UInt8) × Int => match v with
    | (a60, a61, a62, a63, a64, a66, a67, a68, a69) =>
    cond (a69 == (p0.length : Int))
     (some ((⟨a64, a66, (⟨a67, a68⟩ : T_api_Name)⟩ : T_trail_Trail), (decide ((0 : Int) < a69))))
     ((letJ (fun v138 : Bool => (letJ (fun v142 : Bool => cond v142
          (some ((⟨([] : List Int), false, (⟨([] : List UInt8), ([] : List UInt8)⟩ : T_api_Name)⟩ : T_trail_Trail), false))
          (letJ (fun a151 : Int =>
            (slc p0 (IntKind.wrap .i64 (a69 + (2 : Int))) a151).bind fun x163 =>
           letJ (fun a169 : List UInt8 =>
             (F_lecternref08_Right (⟨a64, true, (⟨a169, x163⟩ : T_api_Name)⟩ : T_trail_Trail)).bind fun x176 =>
            some ((⟨a64, true, (⟨a169, x163⟩ : T_api_Name)⟩ : T_trail_Trail), x176)) fun J170 =>
           cond (decide (a151 < (p0.length : Int)))
            ((idx p0 (IntKind.wrap .i64 ((p0.length : Int) - (1 : Int)))).bind fun x172 =>
            cond (((x172.toNat : Int) != (125 : Int)) || (decide ((p0.length : Int) ≤ (IntKind.wrap .i64 (a151 + (2 : Int))))))
             (some ((⟨([] : List Int), false, (⟨([] : List UInt8), ([] : List UInt8)⟩ : T_api_Name)⟩ : T_trail_Trail), false))
             ((slc p0 (IntKind.wrap .i64 (a151 + (1 : Int))) (IntKind.wrap .i64 ((p0.length : Int) - (1 : Int)))).bind fun x175 =>
             J170 x175))
            (J170 a67)) fun J152 =>
           (iter (F_lecternref08_Read_l2 p0) FUEL (IntKind.wrap .i64 (a69 + (2 : Int)))).bind fun o =>
          J152 o)) fun J141 => cond v138 (J141 true) ((idx p0 (IntKind.wrap .i64 (a69 + (1 : Int)))).bind fun x143 =>
         J141 ((x143.toNat : Int) != (64 : Int))))) fun J137 => cond (decide ((p0.length : Int) ≤ (IntKind.wrap .i64 (a69 + (1 : Int))))) (J137 true) ((idx p0 a69).bind fun x139 =>
       J137 ((x139.toNat : Int) != (47 : Int)))))) fun J70 =>
    (iter (F_lecternref08_Read_l0 p0) FUEL (([] : List Int), false, ([] : List UInt8), ([] : List UInt8), ([] : List Int), false, ([] : List UInt8), ([] : List UInt8), (0 : Int))).bind fun o =>
   match o with
   | .inl o1 => J70 o1
   | .inr o1 => some o1)
def F_lecternref05_SameInts_l0 (p0 : List Int) (p1 : List Int) (rec11 : Int → Option (Unit ⊕ Bool)) (a8 : Int) : Option (Unit ⊕ Bool) :=
  cond (decide (a8 < (p0.length : Int)))
   ((idx p0 a8).bind fun x14 =>
    (idx p1 a8).bind fun x15 =>
   cond (x14 != x15)
    (some (.inr false))
    (rec11 (IntKind.wrap .i64 (a8 + (1 : Int)))))
   (some (.inl ()))
/-- lectern/lecternref05.SameInts -/
def F_lecternref05_SameInts (p0 : List Int) (p1 : List Int) : Option (Bool) :=
  cond ((p0.length : Int) != (p1.length : Int))
   (some false)
   (letJ (fun _ : Unit =>
    some true) fun J7 =>
    (iter (F_lecternref05_SameInts_l0 p0 p1) FUEL (0 : Int)).bind fun o =>
   match o with
   | .inl o1 => J7 o1
   | .inr o1 => some o1)
/-- lectern/lecternref08.Same -/
def F_lecternref08_Same (p0 : T_trail_Trail) (p1 : T_trail_Trail) : Option (Bool) :=
   (letJ (fun v4 : Bool => some v4) fun J3 => cond ((p0.Attr == p1.Attr) && ((p0.Name.URI == p1.Name.URI) && ((p0.Name.Local == p1.Name.Local) && true))) ((F_lecternref05_SameInts p0.Steps p1.Steps).bind fun x5 =>
    J3 x5) (J3 false))
/-- lectern/lecternlaw08.TrailTexts -/
def F_lecternlaw08_TrailTexts (p0 : T_trail_Trail) (p1 : List UInt8) : Option (Bool) :=
   (F_lecternlaw08_awake ).bind fun x1 =>
  cond (!x1)
   (some false)
   ((F_trail_Show p0).bind fun x3 =>
    (F_trail_Read p1).bind fun x4 =>
    (F_lecternlaw08_doc p0).bind fun x6 =>
    (F_lecternref08_Right x6).bind fun x7 =>
    (letJ (fun v10 : Bool => cond (v10 || ((x3.2 != (0 : Int)) && ((x3.2 != (35 : Int)) || (!(x3.1 == ([] : List UInt8))))))
      (some false)
      ((F_lecternref08_Read p1).bind fun x24 =>
      cond (!x24.2)
       ((letJ (fun v29 : Bool => some v29) fun J28 => cond (x4.2 == (35 : Int)) ((F_lecternlaw08_doc x4.1).bind fun x30 =>
          (F_lecternref08_Same x30 (⟨([] : List Int), false, (⟨([] : List UInt8), ([] : List UInt8)⟩ : T_api_Name)⟩ : T_trail_Trail)).bind fun x31 =>
         J28 x31) (J28 false)))
       (letJ (fun a38 : Bool =>
        some a38) fun J39 =>
       cond (x4.2 == (0 : Int))
        ((F_lecternlaw08_doc x4.1).bind fun x42 =>
         (F_lecternref08_Same x42 x24.1).bind fun x43 =>
        J39 x43)
        (J39 false)))) fun J9 => cond (!(x7 == (x3.2 == (0 : Int)))) (J9 true) ((letJ (fun v13 : Bool => J9 v13) fun J12 => cond (x3.2 == (0 : Int)) ((F_lecternlaw08_doc p0).bind fun x14 =>
        (F_lecternref08_Show x14).bind fun x15 =>
       J12 (!(x3.1 == x15))) (J12 false)))))
/-- cmp.isNaN[int] -/
def F_cmp_isNaN_int (p0 : Int) : Option (Bool) :=
  some (p0 != p0)
/-- cmp.Compare[int] -/
def F_cmp_Compare_int (p0 : Int) (p1 : Int) : Option (Int) :=
   (F_cmp_isNaN_int p0).bind fun x1 =>
   (F_cmp_isNaN_int p1).bind fun x2 =>
  cond x1
   (cond x2
    (some (0 : Int))
    (some (-1 : Int)))
   (cond x2
    (some (1 : Int))
    (cond (decide (p0 < p1))
     (some (-1 : Int))
     (cond (decide (p1 < p0))
      (some (1 : Int))
      (some (0 : Int)))))
/-- cmp.isNaN[string] -/
def F_cmp_isNaN_string (p0 : List UInt8) : Option (Bool) :=
  some (!(p0 == p0))
/-- cmp.Compare[string] -/
def F_cmp_Compare_string (p0 : List UInt8) (p1 : List UInt8) : Option (Int) :=
   (F_cmp_isNaN_string p0).bind fun x1 =>
   (F_cmp_isNaN_string p1).bind fun x2 =>
  cond x1
   (cond x2
    (some (0 : Int))
    (some (-1 : Int)))
   (cond x2
    (some (1 : Int))
    (cond (Op.bytesLess p0 p1)
     (some (-1 : Int))
     (cond (!(Op.bytesLess p0 p1 || p0 == p1))
      (some (1 : Int))
      (some (0 : Int)))))
def F_cmp_Or_int_l0 (p0 : List Int) (rec9 : Int → Option (Unit ⊕ Int)) (a6 : Int) : Option (Unit ⊕ Int) :=
  cond (decide (a6 < (p0.length : Int)))
   ((idx p0 a6).bind fun x12 =>
   cond (x12 != (0 : Int))
    (some (.inr x12))
    (rec9 (IntKind.wrap .i64 (a6 + (1 : Int)))))
   (some (.inl ()))
/-- cmp.Or[int] -/
def F_cmp_Or_int (p0 : List Int) : Option (Int) :=
  letJ (fun _ : Unit =>
   some (0 : Int)) fun J5 =>
   (iter (F_cmp_Or_int_l0 p0) FUEL (0 : Int)).bind fun o =>
  match o with
  | .inl o1 => J5 o1
  | .inr o1 => some o1
/-- lectern/tree.Order -/
def F_tree_Order (p0 : T_api_Name) (p1 : T_api_Name) : Option (Int) :=
   (F_cmp_Compare_string p0.URI p1.URI).bind fun x1 =>
   (F_cmp_Compare_string p0.Local p1.Local).bind fun x2 =>
   (F_cmp_Or_int ([x1, x2])).bind fun x3 =>
  some x3
def F_trail_Compare_l0 (p0 : T_trail_Trail) (p1 : T_trail_Trail) (rec11 : Int → Option (Unit ⊕ Int)) (a8 : Int) : Option (Unit ⊕ Int) :=
  cond (decide (a8 < (if (p1.Steps.length : Int) < (p0.Steps.length : Int) then (p1.Steps.length : Int) else (p0.Steps.length : Int))))
   ((idx p0.Steps a8).bind fun x14 =>
    (idx p1.Steps a8).bind fun x15 =>
    (F_cmp_Compare_int x14 x15).bind fun x16 =>
   cond (x16 != (0 : Int))
    (some (.inr x16))
    (rec11 (IntKind.wrap .i64 (a8 + (1 : Int)))))
   (some (.inl ()))
/-- lectern/trail.Compare -/
def F_trail_Compare (p0 : T_trail_Trail) (p1 : T_trail_Trail) : Option (Int) :=
  letJ (fun _ : Unit =>
    (F_cmp_Compare_int (p0.Steps.length : Int) (p1.Steps.length : Int)).bind fun x18 =>
   cond (x18 != (0 : Int))
    (some x18)
    (cond (p0.Attr && p1.Attr)
     ((F_tree_Order p0.Name p1.Name).bind fun x22 =>
     some x22)
     (cond p0.Attr
      (some (1 : Int))
      (cond p1.Attr
       (some (-1 : Int))
       (some (0 : Int)))))) fun J7 =>
   (iter (F_trail_Compare_l0 p0 p1) FUEL (0 : Int)).bind fun o =>
  match o with
  | .inl o1 => J7 o1
  | .inr o1 => some o1
/-- lectern/lecternlaw08.TrailBack -/
def F_lecternlaw08_TrailBack (p0 : T_trail_Trail) (p1 : List UInt8) : Option (Bool) :=
   (F_lecternlaw08_awake ).bind fun x1 =>
  cond (!x1)
   (some false)
   ((F_trail_Show p0).bind fun x3 =>
   letJ (fun _ : Unit =>
     (F_trail_Read p1).bind fun x48 =>
    cond (x48.2 != (0 : Int))
     (some true)
     ((F_trail_Show x48.1).bind fun x51 =>
     some ((x51.2 == (0 : Int)) && (x51.1 == p1)))) fun J25 =>
   cond (x3.2 == (0 : Int))
    ((F_trail_Read x3.1).bind fun x27 =>
    letJ (fun a37 : Bool =>
     cond a37
      (some false)
      (J25 ())) fun J38 =>
    cond (x27.2 != (0 : Int))
     (J38 true)
     ((F_trail_Compare x27.1 p0).bind fun x41 =>
     cond (x41 != (0 : Int))
      (J38 true)
      ((F_lecternlaw08_doc x27.1).bind fun x44 =>
       (F_lecternlaw08_doc p0).bind fun x45 =>
       (F_lecternref08_Same x44 x45).bind fun x46 =>
      J38 (!x46))))
    (J25 ()))
def F_tree_Copy_l0 (p0 : T_api_Node) (rec0 : T_api_Node → Option (T_api_Node)) (rec37 : Int × (List UInt8) × (List UInt8) × (List T_api_Attr) × (List T_api_Node) × (List UInt8) × Int → Option ((Int × (List UInt8) × (List UInt8) × (List T_api_Attr) × (List T_api_Node) × (List UInt8)))) : Int × (List UInt8) × (List UInt8) × (List T_api_Attr) × (List T_api_Node) × (List UInt8) × Int → Option ((Int × (List UInt8) × (List UInt8) × (List T_api_Attr) × (List T_api_Node) × (List UInt8)))
  | (a27, a28, a29, a30, a31, a33, a34) =>
  cond (decide (a34 < (p0.Kids.length : Int)))
   ((idx p0.Kids a34).bind fun x40 =>
    (rec0 x40).bind fun x42 =>
    (app 104 a31 [x42]).bind fun _ =>
   rec37 (a27, a28, a29, a30, (a31 ++ [x42]), a33, (IntKind.wrap .i64 (a34 + (1 : Int)))))
   (some (a27, a28, a29, a30, a31, a33))
/-- lectern/tree.Copy -/
def F_tree_Copy_b (rec0 : T_api_Node → Option (T_api_Node)) : T_api_Node → Option (T_api_Node)
  | p0 =>
   (app 48 ([] : List T_api_Attr) p0.Attrs).bind fun _ =>
  letJ (fun v : Int × (List UInt8) × (List UInt8) × (List T_api_Attr) × (List T_api_Node) × (List UInt8) => match v with
   | (a19, a20, a21, a22, a23, a25) =>
   some (⟨a19, (⟨a20, a21⟩ : T_api_Name), a22, a23, a25⟩ : T_api_Node)) fun J26 =>
   (iter (F_tree_Copy_l0 p0 rec0) FUEL (p0.Kind, p0.Name.URI, p0.Name.Local, (([] : List T_api_Attr) ++ p0.Attrs), ([] : List T_api_Node), p0.Text, (0 : Int))).bind fun o =>
  J26 o
def F_tree_Copy (p0 : T_api_Node) : Option (T_api_Node) := iter F_tree_Copy_b FUEL p0
def F_tree_At_l0 (p1 : List Int) (rec49 : Int × (List UInt8) × (List UInt8) × (List T_api_Attr) × (List T_api_Node) × (List UInt8) × Int × (List UInt8) × (List UInt8) × (List T_api_Attr) × (List T_api_Node) × (List UInt8) × Int → Option ((Int × (List UInt8) × (List UInt8) × (List T_api_Attr) × (List T_api_Node) × (List UInt8) × Int × (List UInt8) × (List UInt8) × (List T_api_Attr) × (List T_api_Node) × (List UInt8)) ⊕ (T_api_Node × Int))) : Int × (List UInt8) × (List UInt8) × (List T_api_Attr) × (List T_api_Node) × (List UInt8) × Int × (List UInt8) × (List UInt8) × (List T_api_Attr) × (List T_api_Node) × (List UInt8) × Int → Option ((Int × (List UInt8) × (List UInt8) × (List T_api_Attr) × (List T_api_Node) × (List UInt8) × Int × (List UInt8) × (List UInt8) × (List T_api_Attr) × (List T_api_Node) × (List UInt8)) ⊕ (T_api_Node × Int))
  | (a34, a35, a36, a37, a38, a39, a40, a41, a42, a43, a44, a45, a46) =>
  cond (decide (a46 < (p1.length : Int)))
   ((idx p1 a46).bind fun x52 =>
   cond ((decide (x52 < (0 : Int))) || (decide ((a38.length : Int) ≤ x52)))
    (some (.inr ((⟨(0 : Int), (⟨([] : List UInt8), ([] : List UInt8)⟩ : T_api_Name), ([] : List T_api_Attr), ([] : List T_api_Node), ([] : List UInt8)⟩ : T_api_Node), (35 : Int))))
    ((idx a38 x52).bind fun x55 =>
    rec49 (x55.Kind, x55.Name.URI, x55.Name.Local, x55.Attrs, x55.Kids, x55.Text, a40, a41, a42, a43, a44, a45, (IntKind.wrap .i64 (a46 + (1 : Int))))))
   (some (.inl (a34, a35, a36, a37, a38, a39, a40, a41, a42, a43, a44, a45)))
/-- lectern/tree.At -/
def F_tree_At (p0 : T_api_Node) (p1 : List Int) : Option (T_api_Node × Int) :=
  letJ (fun v : Int × (List UInt8) × (List UInt8) × (List T_api_Attr) × (List T_api_Node) × (List UInt8) × Int × (List UInt8) × (List UInt8) × (List T_api_Attr) × (List T_api_Node) × (List UInt8) => match v with
   | (a21, a22, a23, a24, a25, a26, a27, a28, a29, a30, a31, a32) =>
    (F_tree_Copy (⟨a21, (⟨a22, a23⟩ : T_api_Name), a24, a25, a26⟩ : T_api_Node)).bind fun x56 =>
   some (x56, (0 : Int))) fun J33 =>
   (iter (F_tree_At_l0 p1) FUEL (p0.Kind, p0.Name.URI, p0.Name.Local, p0.Attrs, p0.Kids, p0.Text, (0 : Int), ([] : List UInt8), ([] : List UInt8), ([] : List T_api_Attr), ([] : List T_api_Node), ([] : List UInt8), (0 : Int))).bind fun o =>
  match o with
  | .inl o1 => J33 o1
  | .inr o1 => some o1
def F_trail_texts_l0 (p0 : T_api_Node) (rec0 : T_api_Node → Option ((List UInt8))) (rec16 : (List UInt8) × Int → Option (((List UInt8)))) : (List UInt8) × Int → Option (((List UInt8)))
  | (a12, a13) =>
  cond (decide (a13 < (p0.Kids.length : Int)))
   ((idx p0.Kids a13).bind fun x19 =>
   letJ (fun a22 : List UInt8 =>
     (rec0 x19).bind fun x25 =>
     (cat a22 x25).bind fun _ =>
    rec16 ((a22 ++ x25), (IntKind.wrap .i64 (a13 + (1 : Int))))) fun J23 =>
   cond (x19.Kind == (3 : Int))
    ((cat a12 x19.Text).bind fun _ =>
    J23 (a12 ++ x19.Text))
    (J23 a12))
   (some a12)
/-- lectern/trail.texts -/
def F_trail_texts_b (rec0 : T_api_Node → Option ((List UInt8))) : T_api_Node → Option ((List UInt8))
  | p0 =>
  letJ (fun a10 : List UInt8 =>
   some a10) fun J11 =>
   (iter (F_trail_texts_l0 p0 rec0) FUEL (([] : List UInt8), (0 : Int))).bind fun o =>
  J11 o
def F_trail_texts (p0 : T_api_Node) : Option ((List UInt8)) := iter F_trail_texts_b FUEL p0
def F_trail_Value_l0 (p1 : T_trail_Trail) (x1 : T_api_Node × Int) (rec29 : Int → Option (Unit ⊕ ((List UInt8) × Int))) (a26 : Int) : Option (Unit ⊕ ((List UInt8) × Int)) :=
  cond (decide (a26 < (x1.1.Attrs.length : Int)))
   ((idx x1.1.Attrs a26).bind fun x32 =>
   cond ((x1.1.Kind == (2 : Int)) && ((x32.Name.URI == p1.Name.URI) && ((x32.Name.Local == p1.Name.Local) && true)))
    (some (.inr (x32.Value, (0 : Int))))
    (rec29 (IntKind.wrap .i64 (a26 + (1 : Int)))))
   (some (.inl ()))
/-- lectern/trail.Value -/
def F_trail_Value (p0 : T_api_Node) (p1 : T_trail_Trail) : Option ((List UInt8) × Int) :=
   (F_tree_At p0 p1.Steps).bind fun x1 =>
  cond (x1.2 != (0 : Int))
   (some (([] : List UInt8), x1.2))
   (letJ (fun _ : Unit =>
    cond (((x1.1.Kind == (3 : Int)) || (x1.1.Kind == (4 : Int))) || (x1.1.Kind == (5 : Int)))
     (some (x1.1.Text, (0 : Int)))
     ((F_trail_texts x1.1).bind fun x39 =>
     some (x39, (0 : Int)))) fun J17 =>
   cond p1.Attr
    (letJ (fun _ : Unit =>
     some (([] : List UInt8), (7 : Int))) fun J25 =>
     (iter (F_trail_Value_l0 p1 x1) FUEL (0 : Int)).bind fun o =>
    match o with
    | .inl o1 => J25 o1
    | .inr o1 => some o1)
    (J17 ()))
def F_lecternref05_At_l0 (p1 : List Int) (rec49 : Int × (List UInt8) × (List UInt8) × (List T_api_Attr) × (List T_api_Node) × (List UInt8) × Int × (List UInt8) × (List UInt8) × (List T_api_Attr) × (List T_api_Node) × (List UInt8) × Int → Option ((Int × (List UInt8) × (List UInt8) × (List T_api_Attr) × (List T_api_Node) × (List UInt8) × Int × (List UInt8) × (List UInt8) × (List T_api_Attr) × (List T_api_Node) × (List UInt8)) ⊕ (T_api_Node × Bool))) : Int × (List UInt8) × (List UInt8) × (List T_api_Attr) × (List T_api_Node) × (List UInt8) × Int × (List UInt8) × (List UInt8) × (List T_api_Attr) × (List T_api_Node) × (List UInt8) × Int → Option ((Int × (List UInt8) × (List UInt8) × (List T_api_Attr) × (List T_api_Node) × (List UInt8) × Int × (List UInt8) × (List UInt8) × (List T_api_Attr) × (List T_api_Node) × (List UInt8)) ⊕ (T_api_Node × Bool))
  | (a34, a35, a36, a37, a38, a39, a40, a41, a42, a43, a44, a45, a46) =>
  cond (decide (a46 < (p1.length : Int)))
   ((idx p1 a46).bind fun x52 =>
   cond ((decide (x52 < (0 : Int))) || (decide ((a38.length : Int) ≤ x52)))
    (some (.inr ((⟨(0 : Int), (⟨([] : List UInt8), ([] : List UInt8)⟩ : T_api_Name), ([] : List T_api_Attr), ([] : List T_api_Node), ([] : List UInt8)⟩ : T_api_Node), false)))
    ((idx a38 x52).bind fun x55 =>
    rec49 (x55.Kind, x55.Name.URI, x55.Name.Local, x55.Attrs, x55.Kids, x55.Text, a40, a41, a42, a43, a44, a45, (IntKind.wrap .i64 (a46 + (1 : Int))))))
   (some (.inl (a34, a35, a36, a37, a38, a39, a40, a41, a42, a43, a44, a45)))
/-- lectern/lecternref05.At -/
def F_lecternref05_At (p0 : T_api_Node) (p1 : List Int) : Option (T_api_Node × Bool) :=
  letJ (fun v : Int × (List UInt8) × (List UInt8) × (List T_api_Attr) × (List T_api_Node) × (List UInt8) × Int × (List UInt8) × (List UInt8) × (List T_api_Attr) × (List T_api_Node) × (List UInt8) => match v with
   | (a21, a22, a23, a24, a25, a26, a27, a28, a29, a30, a31, a32) =>
   some ((⟨a21, (⟨a22, a23⟩ : T_api_Name), a24, a25, a26⟩ : T_api_Node), true)) fun J33 =>
   (iter (F_lecternref05_At_l0 p1) FUEL (p0.Kind, p0.Name.URI, p0.Name.Local, p0.Attrs, p0.Kids, p0.Text, (0 : Int), ([] : List UInt8), ([] : List UInt8), ([] : List T_api_Attr), ([] : List T_api_Node), ([] : List UInt8), (0 : Int))).bind fun o =>
  match o with
  | .inl o1 => J33 o1
  | .inr o1 => some o1
def F_lecternref05_Flat_l0 (p0 : T_api_Node) (rec0 : T_api_Node → Option ((List T_api_Node))) (rec18 : (List T_api_Node) × Int → Option (((List T_api_Node)))) : (List T_api_Node) × Int → Option (((List T_api_Node)))
  | (a13, a15) =>
  cond (decide (a15 < (p0.Kids.length : Int)))
   ((idx p0.Kids a15).bind fun x21 =>
    (rec0 x21).bind fun x23 =>
    (app 104 a13 x23).bind fun _ =>
   rec18 ((a13 ++ x23), (IntKind.wrap .i64 (a15 + (1 : Int)))))
   (some a13)
/-- lectern/lecternref05.Flat -/
def F_lecternref05_Flat_b (rec0 : T_api_Node → Option ((List T_api_Node))) : T_api_Node → Option ((List T_api_Node))
  | p0 =>
  letJ (fun a10 : List T_api_Node =>
   some a10) fun J12 =>
   (iter (F_lecternref05_Flat_l0 p0 rec0) FUEL ([p0], (0 : Int))).bind fun o =>
  J12 o
def F_lecternref05_Flat (p0 : T_api_Node) : Option ((List T_api_Node)) := iter F_lecternref05_Flat_b FUEL p0
def F_lecternref08_Value_l0 (p1 : T_trail_Trail) (x1 : T_api_Node × Bool) (rec29 : Int → Option (Unit ⊕ ((List UInt8) × Int))) (a26 : Int) : Option (Unit ⊕ ((List UInt8) × Int)) :=
  cond (decide (a26 < (x1.1.Attrs.length : Int)))
   ((idx x1.1.Attrs a26).bind fun x32 =>
   cond ((x1.1.Kind == (2 : Int)) && ((x32.Name.URI == p1.Name.URI) && ((x32.Name.Local == p1.Name.Local) && true)))
    (some (.inr (x32.Value, (0 : Int))))
    (rec29 (IntKind.wrap .i64 (a26 + (1 : Int)))))
   (some (.inl ()))
def F_lecternref08_Value_l1 (x53 : List T_api_Node) (rec58 : (List UInt8) × Int → Option (((List UInt8)))) : (List UInt8) × Int → Option (((List UInt8)))
  | (a54, a55) =>
  cond (decide (a55 < (x53.length : Int)))
   (letJ (fun a64 : List UInt8 =>
    rec58 (a64, (IntKind.wrap .i64 (a55 + (1 : Int))))) fun J65 =>
    (idx x53 a55).bind fun x66 =>
   cond (x66.Kind == (3 : Int))
    ((cat a54 x66.Text).bind fun _ =>
    J65 (a54 ++ x66.Text))
    (J65 a54))
   (some a54)
/-- lectern/lecternref08.Value -/
def F_lecternref08_Value (p0 : T_api_Node) (p1 : T_trail_Trail) : Option ((List UInt8) × Int) :=
   (F_lecternref05_At p0 p1.Steps).bind fun x1 =>
  cond (!x1.2)
   (some (([] : List UInt8), (35 : Int)))
   (letJ (fun _ : Unit =>
    cond (((x1.1.Kind == (3 : Int)) || (x1.1.Kind == (4 : Int))) || (x1.1.Kind == (5 : Int)))
     (some (x1.1.Text, (0 : Int)))
     ((F_lecternref05_Flat x1.1).bind fun x39 =>
     letJ (fun a51 : List UInt8 =>
      some (a51, (0 : Int))) fun J52 =>
      (slc x39 (1 : Int) (x39.length : Int)).bind fun x53 =>
      (iter (F_lecternref08_Value_l1 x53) FUEL (([] : List UInt8), (0 : Int))).bind fun o =>
     J52 o)) fun J17 =>
   cond p1.Attr
    (letJ (fun _ : Unit =>
     some (([] : List UInt8), (7 : Int))) fun J25 =>
     (iter (F_lecternref08_Value_l0 p1 x1) FUEL (0 : Int)).bind fun o =>
    match o with
    | .inl o1 => J25 o1
    | .inr o1 => some o1)
    (J17 ()))
/-- lectern/lecternlaw08.TrailValues -/
def F_lecternlaw08_TrailValues (p0 : T_api_Node) (p1 : T_trail_Trail) : Option (Bool) :=
   (F_lecternlaw08_awake ).bind fun x1 =>
  cond (!x1)
   (some false)
   ((F_trail_Value p0 p1).bind fun x3 =>
    (F_lecternlaw08_doc p1).bind fun x4 =>
    (F_lecternref08_Value p0 x4).bind fun x5 =>
   some ((x3.1 == x5.1) && (x3.2 == x5.2)))
def F_lecternlaw08_TrailJoins_l0 (p0 : T_api_Node) (p1 : List Int) (x3 : T_api_Node × Bool) (rec39 : (List UInt8) × Int → Option (((List UInt8)) ⊕ Bool)) : (List UInt8) × Int → Option (((List UInt8)) ⊕ Bool)
  | (a35, a36) =>
  cond (decide (a36 < (x3.1.Kids.length : Int)))
   ((idx x3.1.Kids a36).bind fun x42 =>
    (app 8 ([] : List Int) p1).bind fun _ =>
    (app 8 (([] : List Int) ++ p1) [a36]).bind fun _ =>
    (F_trail_Value p0 (⟨((([] : List Int) ++ p1) ++ [a36]), false, (⟨([] : List UInt8), ([] : List UInt8)⟩ : T_api_Name)⟩ : T_trail_Trail)).bind fun x47 =>
   cond (x47.2 != (0 : Int))
    (some (.inr false))
    (letJ (fun a51 : List UInt8 =>
     cond ((x42.Kind == (1 : Int)) || ((((decide (x42.Kind < (1 : Int))) || (decide ((5 : Int) < x42.Kind))) || (x42.Kind != (2 : Int))) && (decide ((0 : Int) < (x42.Kids.length : Int)))))
      (some (.inr true))
      (rec39 (a51, (IntKind.wrap .i64 (a36 + (1 : Int)))))) fun J52 =>
    cond ((x42.Kind == (3 : Int)) || (x42.Kind == (2 : Int)))
     ((cat a35 x47.1).bind fun _ =>
     J52 (a35 ++ x47.1))
     (J52 a35)))
   (some (.inl a35))
/-- lectern/lecternlaw08.TrailJoins -/
def F_lecternlaw08_TrailJoins (p0 : T_api_Node) (p1 : List Int) : Option (Bool) :=
   (F_lecternlaw08_awake ).bind fun x1 =>
  cond (!x1)
   (some false)
   ((F_lecternref05_At p0 p1).bind fun x3 =>
   cond ((!x3.2) || ((x3.1.Kind != (1 : Int)) && (x3.1.Kind != (2 : Int))))
    (some true)
    ((F_trail_Value p0 (⟨p1, false, (⟨([] : List UInt8), ([] : List UInt8)⟩ : T_api_Name)⟩ : T_trail_Trail)).bind fun x9 =>
    letJ (fun a33 : List UInt8 =>
     some ((x9.2 == (0 : Int)) && (x9.1 == a33))) fun J34 =>
     (iter (F_lecternlaw08_TrailJoins_l0 p0 p1 x3) FUEL (([] : List UInt8), (0 : Int))).bind fun o =>
    match o with
    | .inl o1 => J34 o1
    | .inr o1 => some o1))
def F_slices_Equal_int_int_l0 (p0 : List Int) (p1 : List Int) (rec11 : Int → Option (Unit ⊕ Bool)) (a8 : Int) : Option (Unit ⊕ Bool) :=
  cond (decide (a8 < (p0.length : Int)))
   ((idx p0 a8).bind fun x14 =>
    (idx p1 a8).bind fun x15 =>
   cond (x14 != x15)
    (some (.inr false))
    (rec11 (IntKind.wrap .i64 (a8 + (1 : Int)))))
   (some (.inl ()))
/-- slices.Equal[[]int,int] -/
def F_slices_Equal_int_int (p0 : List Int) (p1 : List Int) : Option (Bool) :=
  cond ((p0.length : Int) != (p1.length : Int))
   (some false)
   (letJ (fun _ : Unit =>
    some true) fun J7 =>
    (iter (F_slices_Equal_int_int_l0 p0 p1) FUEL (0 : Int)).bind fun o =>
   match o with
   | .inl o1 => J7 o1
   | .inr o1 => some o1)
/-- lectern/trail.Under -/
def F_trail_Under (p0 : T_trail_Trail) (p1 : T_trail_Trail) : Option (Bool) :=
  cond p0.Attr
   ((F_trail_Compare p0 p1).bind fun x2 =>
   some (x2 == (0 : Int)))
   (letJ (fun a7 : Bool =>
    some a7) fun J8 =>
   cond (decide ((p0.Steps.length : Int) ≤ (p1.Steps.length : Int)))
    ((slc p1.Steps (0 : Int) (p0.Steps.length : Int)).bind fun x11 =>
     (F_slices_Equal_int_int p0.Steps x11).bind fun x12 =>
    J8 x12)
    (J8 false))
/-- lectern/lecternlaw08.TrailOrders -/
def F_lecternlaw08_TrailOrders (p0 : T_trail_Trail) (p1 : T_trail_Trail) (p2 : T_trail_Trail) : Option (Bool) :=
   (F_lecternlaw08_awake ).bind fun x1 =>
  cond (!x1)
   (some false)
   ((F_trail_Compare p0 p1).bind fun x3 =>
    (F_trail_Compare p1 p2).bind fun x4 =>
    (F_trail_Compare p0 p2).bind fun x5 =>
    (F_trail_Compare p1 p0).bind fun x6 =>
   cond ((((x3 != (IntKind.wrap .i64 (0 - x6))) || (((decide (x3 ≤ (0 : Int))) && (decide (x4 ≤ (0 : Int)))) && (decide ((0 : Int) < x5)))) || (((decide ((0 : Int) ≤ x3)) && (decide ((0 : Int) ≤ x4))) && (decide (x5 < (0 : Int))))) || ((x3 == (0 : Int)) && (x4 != x5)))
    (some false)
    ((F_trail_Under p0 p1).bind fun x21 =>
     (letJ (fun v25 : Bool => cond v25
       (some false)
       ((F_trail_Under p0 p1).bind fun x33 =>
        (letJ (fun v37 : Bool => some (!(v37 && (decide ((0 : Int) ≤ x4))))) fun J36 => cond (x33 && (decide (x5 < (0 : Int)))) ((F_trail_Under p0 p2).bind fun x38 =>
         J36 (!x38)) (J36 false)))) fun J24 => cond (x21 && (decide ((0 : Int) < x3))) (J24 true) ((F_trail_Under p0 p1).bind fun x26 =>
       (letJ (fun v29 : Bool => J24 (v29 && (x3 != (0 : Int)))) fun J28 => cond x26 ((F_trail_Under p1 p0).bind fun x30 =>
        J28 x30) (J28 false))))))
/-- lectern/trail.Up -/
def F_trail_Up (p0 : T_trail_Trail) : Option (T_trail_Trail × Bool) :=
  cond p0.Attr
   ((L_CloneInts p0.Steps).bind fun x3 =>
   some ((⟨x3, false, (⟨([] : List UInt8), ([] : List UInt8)⟩ : T_api_Name)⟩ : T_trail_Trail), true))
   (cond (decide ((0 : Int) < (p0.Steps.length : Int)))
    ((slc p0.Steps (0 : Int) (IntKind.wrap .i64 ((p0.Steps.length : Int) - (1 : Int)))).bind fun x5 =>
     (L_CloneInts x5).bind fun x6 =>
    some ((⟨x6, false, (⟨([] : List UInt8), ([] : List UInt8)⟩ : T_api_Name)⟩ : T_trail_Trail), true))
    (some ((⟨([] : List Int), false, (⟨([] : List UInt8), ([] : List UInt8)⟩ : T_api_Name)⟩ : T_trail_Trail), false)))
def F_lecternlaw08_TrailUps_l0 (p0 : T_trail_Trail) (p1 : T_trail_Trail) (rec48 : Int × (List Int) × Bool × (List UInt8) × (List UInt8) × Bool → Option (Int ⊕ Bool)) : Int × (List Int) × Bool × (List UInt8) × (List UInt8) × Bool → Option (Int ⊕ Bool)
  | (a39, a41, a42, a43, a44, a45) =>
  cond a45
   ((F_trail_Under (⟨a41, a42, (⟨a43, a44⟩ : T_api_Name)⟩ : T_trail_Trail) p0).bind fun x51 =>
    (letJ (fun v54 : Bool => cond v54
      (some (.inr false))
      ((F_trail_Up (⟨a41, a42, (⟨a43, a44⟩ : T_api_Name)⟩ : T_trail_Trail)).bind fun x62 =>
       (letJ (fun v65 : Bool => cond v65
         (some (.inr false))
         (rec48 ((IntKind.wrap .i64 (a39 + (1 : Int))), x62.1.Steps, x62.1.Attr, x62.1.Name.URI, x62.1.Name.Local, x62.2))) fun J64 => cond x62.2 ((F_trail_Under x62.1 (⟨a41, a42, (⟨a43, a44⟩ : T_api_Name)⟩ : T_trail_Trail)).bind fun x66 =>
         (letJ (fun v69 : Bool => J64 (v69 || x62.1.Attr)) fun J68 => cond (!x66) (J68 true) ((F_trail_Compare x62.1 (⟨a41, a42, (⟨a43, a44⟩ : T_api_Name)⟩ : T_trail_Trail)).bind fun x70 =>
          J68 (x70 != (-1 : Int))))) (J64 false)))) fun J53 => cond (!x51) (J53 true) ((F_trail_Under p1 (⟨a41, a42, (⟨a43, a44⟩ : T_api_Name)⟩ : T_trail_Trail)).bind fun x55 =>
      (letJ (fun v58 : Bool => J53 v58) fun J57 => cond x55 ((F_trail_Under p1 p0).bind fun x59 =>
       J57 (!x59)) (J57 false)))))
   (some (.inl a39))
/-- lectern/lecternlaw08.TrailUps -/
def F_lecternlaw08_TrailUps (p0 : T_trail_Trail) (p1 : T_trail_Trail) : Option (Bool) :=
   (F_lecternlaw08_awake ).bind fun x1 =>
  cond (!x1)
   (some false)
   (cond (decide ((200 : Int) < (p0.Steps.length : Int)))
    (some true)
    (letJ (fun a36 : Int =>
     letJ (fun a75 : Int =>
      some (a36 == a75)) fun J76 =>
     cond p0.Attr
      (J76 (IntKind.wrap .i64 ((IntKind.wrap .i64 ((p0.Steps.length : Int) + (1 : Int))) + (1 : Int))))
      (J76 (IntKind.wrap .i64 ((p0.Steps.length : Int) + (1 : Int))))) fun J37 =>
     (iter (F_lecternlaw08_TrailUps_l0 p0 p1) FUEL ((0 : Int), p0.Steps, p0.Attr, p0.Name.URI, p0.Name.Local, true)).bind fun o =>
    match o with
    | .inl o1 => J37 o1
    | .inr o1 => some o1))
end Go.Proofs.YtggnjahdjmncaaaDoor
