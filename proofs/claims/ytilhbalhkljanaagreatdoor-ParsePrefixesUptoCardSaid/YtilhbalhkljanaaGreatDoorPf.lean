/- The plain functions. No condition. -/
import Derived.Test.YtilhbalhkljanaaGreatDoorEng34
import Derived.Test.YtilhbalhkljanaaGreatDoorLg03
set_option linter.unusedVariables false
set_option linter.unusedSimpArgs false
set_option maxRecDepth 20000
set_option maxHeartbeats 8000000
namespace Go.Proofs.YtilhbalhkljanaaGreatDoor
abbrev LB := List UInt8
structure T_char_span where
  lo : Int
  hi : Int
  deriving DecidableEq, Inhabited
def c_T_char_span (x : T_char_span) : List D := [.int .i32 x.lo, .int .i32 x.hi]
structure TS where
  b : LB
  at_ : Int
  deriving DecidableEq, Inhabited
def cTS (x : TS) : List D := [.sl 1 (List.map c_u8 x.b) 0, .int .i64 x.at_]
structure TP where
  Name : LB
  Value : LB
  deriving DecidableEq, Inhabited
def cP (x : TP) : List D := [.str x.Name, .str x.Value]
structure TK where
  Kind : Int
  At : Int
  Name : LB
  Pairs : List TP
  Text : LB
  Refs : Int
  deriving DecidableEq, Inhabited
def cTK (x : TK) : List D := [.int .i64 x.Kind, .int .i64 x.At, .str x.Name, .sl 2 (List.map cP x.Pairs) 0, .str x.Text, .int .i64 x.Refs]
structure T_scope_bind where
  prefix_ : LB
  uri : LB
  deriving DecidableEq, Inhabited
def c_T_scope_bind (x : T_scope_bind) : List D := [.str x.prefix_, .str x.uri]
structure T_scope_Scope where
  binds : List T_scope_bind
  deriving DecidableEq, Inhabited
def c_T_scope_Scope (x : T_scope_Scope) : List D := [.sl 2 (List.map c_T_scope_bind x.binds) 0]
structure T_api_Name where
  URI : LB
  Local : LB
  deriving DecidableEq, Inhabited
def c_T_api_Name (x : T_api_Name) : List D := [.str x.URI, .str x.Local]
structure T_api_Attr where
  Name : T_api_Name
  Value : LB
  deriving DecidableEq, Inhabited
def c_T_api_Attr (x : T_api_Attr) : List D := [.str x.Name.URI, .str x.Name.Local, .str x.Value]
structure T_api_Node where
  Kind : Int
  Name : T_api_Name
  Attrs : List T_api_Attr
  Kids : List T_api_Node
  Text : LB
  deriving Inhabited
mutual
def c_T_api_Node : T_api_Node → List D
  | ⟨Kind, Name, Attrs, Kids, Text⟩ => [.int .i64 Kind, .str Name.URI, .str Name.Local, .sl 3 (List.map c_T_api_Attr Attrs) 0, .sl 6 (c_T_api_Node_l Kids) 0, .str Text]
def c_T_api_Node_l : List T_api_Node → List (List D)
  | [] => []
  | x :: l => c_T_api_Node x :: c_T_api_Node_l l
end
theorem c_T_api_Node_lm : ∀ l : List T_api_Node, c_T_api_Node_l l = List.map c_T_api_Node l
  | [] => by simp only [c_T_api_Node_l, List.map_nil]
  | x :: l => by simp only [c_T_api_Node_l, List.map_cons, c_T_api_Node_lm l]
theorem c_T_api_Node_eq (x : T_api_Node) : c_T_api_Node x = [.int .i64 x.Kind, .str x.Name.URI, .str x.Name.Local, .sl 3 (List.map c_T_api_Attr x.Attrs) 0, .sl 6 (List.map c_T_api_Node x.Kids) 0, .str x.Text] := by cases x; simp only [c_T_api_Node, c_T_api_Node_lm]
theorem c_T_api_Node_len (x : T_api_Node) : (c_T_api_Node x).length = 6 := by rw [c_T_api_Node_eq]; rfl
structure T_parse_open where
  node : T_api_Node
  raw : LB
  in_ : T_scope_Scope
  deriving Inhabited
def c_T_parse_open (x : T_parse_open) : List D := [.int .i64 x.node.Kind, .str x.node.Name.URI, .str x.node.Name.Local, .sl 3 (List.map c_T_api_Attr x.node.Attrs) 0, .sl 6 (List.map c_T_api_Node x.node.Kids) 0, .str x.node.Text, .str x.raw, .sl 2 (List.map c_T_scope_bind x.in_.binds) 0]
structure T_parse_reader where
  open_ : List T_parse_open
  nodes : Int
  done : Bool
  deriving Inhabited
def c_T_parse_reader (x : T_parse_reader) : List D := [.sl 8 (List.map c_T_parse_open x.open_) 0, .int .i64 x.nodes, .bool x.done]
def F_bytes_Equal (p0 : LB) (p1 : LB) : Option (Bool) :=
  some (p0 == p1)
def F_bytes_HasPrefix (p0 : LB) (p1 : LB) : Option (Bool) :=
   (letJ (fun v3 : Bool => some v3) fun J2 => cond (decide ((p1.length : Int) ≤ (p0.length : Int))) ((slc p0 (0 : Int) (p1.length : Int)).bind fun x4 =>
     (F_bytes_Equal x4 p1).bind fun x5 =>
    J2 x5) (J2 false))
def F_bytes_TrimPrefix (p0 : LB) (p1 : LB) : Option (LB) :=
   (F_bytes_HasPrefix p0 p1).bind fun x1 =>
  cond x1
   ((slc p0 (p1.length : Int) (p0.length : Int)).bind fun x3 =>
   some x3)
   (some p0)
def F_char_Lines_l0 (p0 : LB) (rec55 : LB × Int → Option ((LB))) : LB × Int → Option ((LB))
  | (a51, a52) =>
  cond (decide (a52 < (p0.length : Int)))
   (letJ (fun a78 : LB =>
    rec55 (a78, (IntKind.wrap .i64 (a52 + (1 : Int))))) fun J79 =>
    (idx p0 a52).bind fun x80 =>
   letJ (fun a88 : Int =>
     (u8 a88).bind fun b97 =>
     (app 1 a51 [b97]).bind fun _ =>
     (some (a51 ++ [b97])).bind fun a99 =>
    J79 a99) fun J89 =>
    (letJ (fun v93 : Bool => cond v93
      (J79 a51)
      (cond ((x80.toNat : Int) == (13 : Int))
       (J89 (10 : Int))
       (J89 (x80.toNat : Int)))) fun J92 => cond (((x80.toNat : Int) == (10 : Int)) && (decide ((0 : Int) < a52))) ((idx p0 (IntKind.wrap .i64 (a52 - (1 : Int)))).bind fun x94 =>
     J92 ((x94.toNat : Int) == (13 : Int))) (J92 false)))
   (some a51)
def F_char_Lines (p0 : LB) : Option (LB) :=
   (mkG 1 (0 : Int) (p0.length : Int)).bind fun _ =>
   (some (List.replicate (Int.toNat (0 : Int)) (0 : UInt8))).bind fun a2 =>
  letJ (fun a48 : LB =>
   some a48) fun J49 =>
   (iter (F_char_Lines_l0 p0) FUEL (a2, (0 : Int))).bind fun o =>
  J49 o
def F_scan_Plain (p0 : LB) : Option (LB) :=
   (u8 (239 : Int)).bind fun b1 =>
   (u8 (187 : Int)).bind fun b2 =>
   (u8 (191 : Int)).bind fun b3 =>
   (F_bytes_TrimPrefix p0 ([b1, b2, b3])).bind fun x4 =>
   (F_char_Lines x4).bind fun x5 =>
  some x5
def F_char_in_l0 (p0 : Int) (p1 : List T_char_span) (rec10 : Int → Option (Unit ⊕ Bool)) (a7 : Int) : Option (Unit ⊕ Bool) :=
  cond (decide (a7 < (p1.length : Int)))
   ((idx p1 a7).bind fun x13 =>
   cond (decide (p0 ≤ x13.hi))
    (some (.inr (decide (x13.lo ≤ p0))))
    (rec10 (IntKind.wrap .i64 (a7 + (1 : Int)))))
   (some (.inl ()))
def F_char_in (p0 : Int) (p1 : List T_char_span) : Option (Bool) :=
  letJ (fun _ : Unit =>
   some false) fun J6 =>
   (iter (F_char_in_l0 p0 p1) FUEL (0 : Int)).bind fun o =>
  match o with
  | .inl o1 => J6 o1
  | .inr o1 => some o1
def F_char_IsChar (p0 : Int) : Option (Bool) :=
   (letJ (fun v5 : Bool => some v5) fun J4 => cond (((p0 == (9 : Int)) || (p0 == (10 : Int))) || (p0 == (13 : Int))) (J4 true) ((F_char_in p0 ([(⟨(32 : Int), (55295 : Int)⟩ : T_char_span), (⟨(57344 : Int), (65533 : Int)⟩ : T_char_span), (⟨(65536 : Int), (1114111 : Int)⟩ : T_char_span)])).bind fun x6 =>
    J4 x6))
def F_char_Next (p0 : LB) (p1 : Int) : Option (Int × Int × Int) :=
  cond ((decide (p1 < (0 : Int))) || (decide ((p0.length : Int) ≤ p1)))
   (some ((0 : Int), (0 : Int), (1 : Int)))
   ((slc p0 p1 (p0.length : Int)).bind fun x3 =>
    (L_DecodeRune x3).bind fun x4 =>
   cond ((x4.1 == (65533 : Int)) && (decide (x4.2 < (3 : Int))))
    (some ((0 : Int), (0 : Int), (20 : Int)))
    ((F_char_IsChar x4.1).bind fun x7 =>
    cond (!x7)
     (some ((0 : Int), (0 : Int), (21 : Int)))
     (some (x4.1, (IntKind.wrap .i64 (p1 + x4.2)), (0 : Int)))))
def F_char_Fault_l0 (p0 : LB) (rec9 : Int → Option (Unit ⊕ (Int × Int))) (a6 : Int) : Option (Unit ⊕ (Int × Int)) :=
  cond (decide (a6 < (p0.length : Int)))
   ((F_char_Next p0 a6).bind fun x12 =>
   cond (x12.2.2 != (0 : Int))
    (some (.inr (a6, x12.2.2)))
    (rec9 x12.2.1))
   (some (.inl ()))
def F_char_Fault (p0 : LB) : Option (Int × Int) :=
  letJ (fun _ : Unit =>
   some ((0 : Int), (0 : Int))) fun J5 =>
   (iter (F_char_Fault_l0 p0) FUEL (0 : Int)).bind fun o =>
  match o with
  | .inl o1 => J5 o1
  | .inr o1 => some o1
def F_scan_scanner_here (p0 : TS) (p1 : LB) : Option (Bool) :=
   (slc p0.b p0.at_ (p0.b.length : Int)).bind fun x1 =>
   (F_bytes_HasPrefix x1 p1).bind fun x2 =>
  some x2
def F_scan_scanner_spaces_l0 (p0 : TS) (rec13 : Int → Option (Int)) (a10 : Int) : Option (Int) :=
   (letJ (fun v17 : Bool => cond v17
     (rec13 (IntKind.wrap .i64 (a10 + (1 : Int))))
     (some a10)) fun J16 => cond (decide (a10 < (p0.b.length : Int))) ((idx p0.b a10).bind fun x18 =>
     (L_IndexByte ([32, 9, 10, 13] : LB) (x18.toNat : Int)).bind fun x19 =>
    J16 (decide ((0 : Int) ≤ x19))) (J16 false))
def F_scan_scanner_spaces (p0 : TS) (p1 : Int) : Option (Int) :=
  letJ (fun a8 : Int =>
   some a8) fun J9 =>
   (iter (F_scan_scanner_spaces_l0 p0) FUEL p1).bind fun o =>
  J9 o
def F_scan_scanner_sign (p0 : TS) (p1 : LB) : Option (Int × TS) :=
   (F_scan_scanner_here p0 p1).bind fun x1 =>
  cond (!x1)
   (some ((23 : Int), p0))
   (some ((0 : Int), (⟨p0.b, (IntKind.wrap .i64 (p0.at_ + (p1.length : Int)))⟩ : TS)))
def F_scan_scanner_equals (p0 : TS) : Option (Int × TS) :=
   (F_scan_scanner_spaces p0 p0.at_).bind fun x1 =>
   (F_scan_scanner_sign (⟨p0.b, x1⟩ : TS) ([61] : LB)).bind fun x2 =>
   (F_scan_scanner_spaces x2.2 x2.2.at_).bind fun x3 =>
  some (x2.1, (⟨x2.2.b, x3⟩ : TS))
def F_scan_scanner_quoted (p0 : TS) : Option ((LB × Int) × TS) :=
   (F_scan_scanner_here p0 ([39] : LB)).bind fun x1 =>
   (letJ (fun v4 : Bool => cond v4
     (some ((([] : LB), (23 : Int)), p0))
     ((slc p0.b (IntKind.wrap .i64 (p0.at_ + (1 : Int))) (p0.b.length : Int)).bind fun x7 =>
      (idx p0.b p0.at_).bind fun x8 =>
      (L_bIndexByte x7 (x8.toNat : Int)).bind fun x9 =>
     cond (decide (x9 < (0 : Int)))
      (some ((([] : LB), (23 : Int)), p0))
      ((slc x7 (0 : Int) x9).bind fun x11 =>
      some ((x11, (0 : Int)), (⟨p0.b, (IntKind.wrap .i64 (p0.at_ + (IntKind.wrap .i64 (x9 + (2 : Int)))))⟩ : TS))))) fun J3 => cond (!x1) ((F_scan_scanner_here p0 ([34] : LB)).bind fun x5 =>
    J3 (!x5)) (J3 false))
def F_stringslite_HasPrefix (p0 : LB) (p1 : LB) : Option (Bool) :=
   (letJ (fun v3 : Bool => some v3) fun J2 => cond (decide ((p1.length : Int) ≤ (p0.length : Int))) ((slc p0 (0 : Int) (p1.length : Int)).bind fun x4 =>
    J2 (x4 == p1)) (J2 false))
def F_stringslite_CutPrefix (p0 : LB) (p1 : LB) : Option (LB × Bool) :=
   (F_stringslite_HasPrefix p0 p1).bind fun x1 =>
  cond (!x1)
   (some (p0, false))
   ((slc p0 (p1.length : Int) (p0.length : Int)).bind fun x3 =>
   some (x3, true))
def F_strings_CutPrefix (p0 : LB) (p1 : LB) : Option (LB × Bool) :=
   (F_stringslite_CutPrefix p0 p1).bind fun x1 =>
  some (x1.1, x1.2)
def F_scan_fits (p0 : LB) (p1 : LB) : Option (Bool) :=
  cond (p0 == ([118, 101, 114, 115, 105, 111, 110] : LB))
   ((F_strings_CutPrefix p1 ([49, 46] : LB)).bind fun x2 =>
    (letJ (fun v6 : Bool => some v6) fun J5 => cond (x2.2 && (!(x2.1 == ([] : LB)))) ((L_Trim x2.1 ([48, 49, 50, 51, 52, 53, 54, 55, 56, 57] : LB)).bind fun x7 =>
     J5 (x7 == ([] : LB))) (J5 false)))
   (cond (p0 == ([101, 110, 99, 111, 100, 105, 110, 103] : LB))
    ((letJ (fun v11 : Bool => (letJ (fun v16 : Bool => some v16) fun J15 => cond v11 ((L_Trim p1 ([65, 66, 67, 68, 69, 70, 71, 72, 73, 74, 75, 76, 77, 78, 79, 80, 81, 82, 83, 84, 85, 86, 87, 88, 89, 90, 97, 98, 99, 100, 101, 102, 103, 104, 105, 106, 107, 108, 109, 110, 111, 112, 113, 114, 115, 116, 117, 118, 119, 120, 121, 122, 48, 49, 50, 51, 52, 53, 54, 55, 56, 57, 46, 95, 45] : LB)).bind fun x17 =>
        J15 (x17 == ([] : LB))) (J15 false))) fun J10 => cond (!(p1 == ([] : LB))) ((idx p1 (0 : Int)).bind fun x12 =>
       (L_IndexByte ([65, 66, 67, 68, 69, 70, 71, 72, 73, 74, 75, 76, 77, 78, 79, 80, 81, 82, 83, 84, 85, 86, 87, 88, 89, 90, 97, 98, 99, 100, 101, 102, 103, 104, 105, 106, 107, 108, 109, 110, 111, 112, 113, 114, 115, 116, 117, 118, 119, 120, 121, 122] : LB) (x12.toNat : Int)).bind fun x13 =>
      J10 (decide ((0 : Int) ≤ x13))) (J10 false)))
    (some ((p1 == ([121, 101, 115] : LB)) || (p1 == ([110, 111] : LB)))))
def F_strings_EqualFold (p0 : LB) (p1 : LB) : Option (Bool) := none
def F_scan_scanner_decl (p0 : TS) (p1 : TK) : Option (Int × TS × TK) := none
def F_scan_scanner_upTo (p0 : TS) (p1 : TK) (p2 : Int) (p3 : LB) : Option (Int × TS × TK) :=
   (slc p0.b (IntKind.wrap .i64 (p0.at_ + p2)) (p0.b.length : Int)).bind fun x1 =>
   (L_bIndex x1 p3).bind fun x2 =>
  cond (decide (x2 < (0 : Int)))
   (some ((23 : Int), p0, p1))
   ((slc x1 (0 : Int) x2).bind fun x4 =>
   some ((0 : Int), (⟨p0.b, (IntKind.wrap .i64 (p0.at_ + (IntKind.wrap .i64 ((IntKind.wrap .i64 (p2 + x2)) + (p3.length : Int)))))⟩ : TS), (⟨p1.Kind, p1.At, p1.Name, p1.Pairs, x4, p1.Refs⟩ : TK)))
def F_char_IsStart (p0 : Int) : Option (Bool) :=
  cond (decide (p0 < (128 : Int)))
   (some ((((decide ((97 : Int) ≤ p0)) && (decide (p0 ≤ (122 : Int)))) || ((decide ((65 : Int) ≤ p0)) && (decide (p0 ≤ (90 : Int))))) || (p0 == (95 : Int))))
   ((F_char_in p0 ([(⟨(192 : Int), (214 : Int)⟩ : T_char_span), (⟨(216 : Int), (246 : Int)⟩ : T_char_span), (⟨(248 : Int), (767 : Int)⟩ : T_char_span), (⟨(880 : Int), (893 : Int)⟩ : T_char_span), (⟨(895 : Int), (8191 : Int)⟩ : T_char_span), (⟨(8204 : Int), (8205 : Int)⟩ : T_char_span), (⟨(8304 : Int), (8591 : Int)⟩ : T_char_span), (⟨(11264 : Int), (12271 : Int)⟩ : T_char_span), (⟨(12289 : Int), (55295 : Int)⟩ : T_char_span), (⟨(63744 : Int), (64975 : Int)⟩ : T_char_span), (⟨(65008 : Int), (65533 : Int)⟩ : T_char_span), (⟨(65536 : Int), (983039 : Int)⟩ : T_char_span)])).bind fun x7 =>
   some x7)
def F_char_IsPart (p0 : Int) : Option (Bool) :=
   (F_char_IsStart p0).bind fun x1 =>
   (letJ (fun v10 : Bool => some v10) fun J9 => cond ((((x1 || (p0 == (45 : Int))) || (p0 == (46 : Int))) || ((decide ((48 : Int) ≤ p0)) && (decide (p0 ≤ (57 : Int))))) || (p0 == (183 : Int))) (J9 true) ((F_char_in p0 ([(⟨(768 : Int), (879 : Int)⟩ : T_char_span), (⟨(8255 : Int), (8256 : Int)⟩ : T_char_span)])).bind fun x11 =>
    J9 x11))
def F_char_Name_l0 (p0 : LB) (rec23 : Nat → Option (Unit ⊕ Bool)) (a20 : Nat) : Option (Unit ⊕ Bool) :=
  cond (decide (a20 < p0.length))
   ((letJ (fun v27 : Bool => (letJ (fun v31 : Bool => cond v31
        (some (.inr false))
        (rec23 (a20 + wdS p0 a20))) fun J30 => cond v27 (J30 true) ((F_char_IsPart (rnS p0 a20)).bind fun x32 =>
       J30 (!x32)))) fun J26 => cond (((a20 : Nat) : Int) == (0 : Int)) ((F_char_IsStart (rnS p0 a20)).bind fun x28 =>
     J26 (!x28)) (J26 false)))
   (some (.inl ()))
def F_char_Name (p0 : LB) : Option (Bool) :=
   (letJ (fun v4 : Bool => cond v4
     (some false)
     (letJ (fun _ : Unit =>
      some true) fun J18 =>
      (iter (F_char_Name_l0 p0) FUEL (0 : Nat)).bind fun o =>
     match o with
     | .inl o1 => J18 o1
     | .inr o1 => some o1)) fun J3 => cond ((p0 == ([] : LB)) || (decide ((100 : Int) < (p0.length : Int)))) (J3 true) ((L_ValidString p0).bind fun x5 =>
    J3 (!x5)))
def F_char_Split (p0 : LB) : Option (LB × LB × Bool) :=
   (L_Cut p0 ([58] : LB)).bind fun x1 =>
   (letJ (fun v4 : Bool => cond v4
     (some (([] : LB), p0, true))
     ((letJ (fun v9 : Bool => (letJ (fun v13 : Bool => cond v13
          (some (x1.1, x1.2.1, true))
          (some (([] : LB), ([] : LB), false))) fun J12 => cond v9 ((F_char_Name x1.2.1).bind fun x14 =>
         J12 x14) (J12 false))) fun J8 => cond x1.2.2 ((F_char_Name x1.1).bind fun x10 =>
       J8 x10) (J8 false)))) fun J3 => cond (!x1.2.2) ((F_char_Name p0).bind fun x5 =>
    J3 x5) (J3 false))
def F_scan_scanner_name_l0 (p0 : TS) (rec22 : Int → Option (Int)) (a19 : Int) : Option (Int) :=
  cond (decide (a19 < (p0.b.length : Int)))
   ((slc p0.b a19 (p0.b.length : Int)).bind fun x25 =>
    (L_DecodeRune x25).bind fun x26 =>
    (letJ (fun v29 : Bool => cond v29
      (some a19)
      (rec22 (IntKind.wrap .i64 (a19 + x26.2)))) fun J28 => cond (x26.1 != (58 : Int)) ((F_char_IsPart x26.1).bind fun x30 =>
      (letJ (fun v33 : Bool => J28 v33) fun J32 => cond (!x30) (J32 true) ((letJ (fun v36 : Bool => J32 v36) fun J35 => cond (a19 == p0.at_) ((F_char_IsStart x26.1).bind fun x37 =>
         J35 (!x37)) (J35 false))))) (J28 false)))
   (some a19)
def F_scan_scanner_name (p0 : TS) : Option ((LB × Int) × TS) :=
  letJ (fun a17 : Int =>
    (slc p0.b p0.at_ a17).bind fun x39 =>
   cond (x39 == ([] : LB))
    (some ((([] : LB), (23 : Int)), p0))
    ((F_char_Split x39).bind fun x41 =>
    cond (!x41.2.2)
     (some ((([] : LB), (24 : Int)), p0))
     (some ((x39, (0 : Int)), (⟨p0.b, a17⟩ : TS))))) fun J18 =>
   (iter (F_scan_scanner_name_l0 p0) FUEL p0.at_).bind fun o =>
  J18 o
def F_scan_scanner_instr (p0 : TS) (p1 : TK) : Option (Int × TS × TK) := none
def F_scan_scanner_closing (p0 : TS) (p1 : TK) : Option (Int × TS × TK) :=
   (F_scan_scanner_name (⟨p0.b, (IntKind.wrap .i64 (p0.at_ + (2 : Int)))⟩ : TS)).bind fun x1 =>
  cond (x1.1.2 != (0 : Int))
   (some (x1.1.2, x1.2, (⟨(3 : Int), p1.At, p1.Name, p1.Pairs, p1.Text, p1.Refs⟩ : TK)))
   ((F_scan_scanner_spaces x1.2 x1.2.at_).bind fun x3 =>
    (F_scan_scanner_sign (⟨x1.2.b, x3⟩ : TS) ([62] : LB)).bind fun x4 =>
   some (x4.1, x4.2, (⟨(3 : Int), p1.At, x1.1.1, p1.Pairs, p1.Text, p1.Refs⟩ : TK)))
def F_refer_digit (p0 : Int) : Option (Int) :=
  cond ((decide ((48 : Int) ≤ p0)) && (decide (p0 ≤ (57 : Int))))
   (some (IntKind.wrap .i64 (IntKind.wrap .u8 (p0 - (48 : Int)))))
   (cond ((decide ((97 : Int) ≤ p0)) && (decide (p0 ≤ (102 : Int))))
    (some (IntKind.wrap .i64 ((IntKind.wrap .i64 (IntKind.wrap .u8 (p0 - (97 : Int)))) + (10 : Int))))
    (cond ((decide ((65 : Int) ≤ p0)) && (decide (p0 ≤ (70 : Int))))
     (some (IntKind.wrap .i64 ((IntKind.wrap .i64 (IntKind.wrap .u8 (p0 - (65 : Int)))) + (10 : Int))))
     (some (99 : Int))))
def F_refer_meant_l0 (a9 : LB) (a10 : Int) (rec28 : Int × Int → Option (Int ⊕ (Int × Int))) : Int × Int → Option (Int ⊕ (Int × Int))
  | (a24, a25) =>
  cond (decide (a25 < (a9.length : Int)))
   ((idx a9 a25).bind fun x31 =>
    (F_refer_digit (x31.toNat : Int)).bind fun x32 =>
   cond (decide (a10 ≤ x32))
    (some (.inr ((0 : Int), (22 : Int))))
    (rec28 ((if (1114112 : Int) < (IntKind.wrap .i64 ((IntKind.wrap .i64 (a24 * a10)) + x32)) then (1114112 : Int) else (IntKind.wrap .i64 ((IntKind.wrap .i64 (a24 * a10)) + x32))), (IntKind.wrap .i64 (a25 + (1 : Int))))))
   (some (.inl a24))
def F_refer_meant (p0 : LB) : Option (Int × Int) :=
  cond (p0 == ([108, 116] : LB))
   (some ((60 : Int), (0 : Int)))
   (cond (p0 == ([103, 116] : LB))
    (some ((62 : Int), (0 : Int)))
    (cond (p0 == ([97, 109, 112] : LB))
     (some ((38 : Int), (0 : Int)))
     (cond (p0 == ([97, 112, 111, 115] : LB))
      (some ((39 : Int), (0 : Int)))
      (cond (p0 == ([113, 117, 111, 116] : LB))
       (some ((34 : Int), (0 : Int)))
       ((F_strings_CutPrefix p0 ([35] : LB)).bind fun x6 =>
       letJ (fun v : LB × Int => match v with
        | (a9, a10) =>
        cond ((!x6.2) || (a9 == ([] : LB)))
         (some ((0 : Int), (22 : Int)))
         (letJ (fun a22 : Int =>
           (F_char_IsChar (IntKind.wrap .i32 a22)).bind fun x34 =>
          cond (!x34)
           (some ((0 : Int), (21 : Int)))
           (some ((IntKind.wrap .i32 a22), (0 : Int)))) fun J23 =>
          (iter (F_refer_meant_l0 a9 a10) FUEL ((0 : Int), (0 : Int))).bind fun o =>
         match o with
         | .inl o1 => J23 o1
         | .inr o1 => some o1)) fun J11 =>
        (F_strings_CutPrefix x6.1 ([120] : LB)).bind fun x12 =>
       cond x12.2
        (J11 (x12.1, (16 : Int)))
        (J11 (x6.1, (10 : Int))))))))
def F_refer_Expand (p0 : LB) (p1 : Int) : Option (Int × Int × Int) :=
   (letJ (fun v4 : Bool => cond v4
     (some ((0 : Int), (0 : Int), (1 : Int)))
     ((slc p0 p1 (p0.length : Int)).bind fun x7 =>
      (L_bIndexByte x7 (59 : Int)).bind fun x8 =>
     cond (decide (x8 < (0 : Int)))
      (some ((0 : Int), (0 : Int), (22 : Int)))
      ((slc p0 (IntKind.wrap .i64 (p1 + (1 : Int))) (IntKind.wrap .i64 (p1 + x8))).bind fun x10 =>
       (F_refer_meant x10).bind fun x11 =>
      cond (x11.2 != (0 : Int))
       (some ((0 : Int), (0 : Int), x11.2))
       (some (x11.1, (IntKind.wrap .i64 ((IntKind.wrap .i64 (p1 + x8)) + (1 : Int))), (0 : Int)))))) fun J3 => cond ((decide (p1 < (0 : Int))) || (decide ((p0.length : Int) ≤ p1))) (J3 true) ((idx p0 p1).bind fun x5 =>
    J3 ((x5.toNat : Int) != (38 : Int))))
def F_refer_read_l0 (p0 : LB) (p1 : Bool) (rec60 : LB × Int → Option ((LB) ⊕ (LB × Int × Int))) : LB × Int → Option ((LB) ⊕ (LB × Int × Int))
  | (a55, a57) =>
  cond (decide (a57 < (p0.length : Int)))
   ((F_char_Next p0 a57).bind fun x63 =>
   letJ (fun v : Int × Int => match v with
    | (a85, a86) =>
     (app 1 a55 (Utf8.encode a85).data.toList).bind fun _ =>
    rec60 ((a55 ++ (Utf8.encode a85).data.toList), a86)) fun J87 =>
   cond (x63.2.2 != (0 : Int))
    (some (.inr (([] : LB), a57, x63.2.2)))
    ((letJ (fun v91 : Bool => cond v91
       (some (.inr (([] : LB), a57, (23 : Int))))
       (cond (x63.1 == (38 : Int))
        ((F_refer_Expand p0 a57).bind fun x101 =>
        cond (x101.2.2 != (0 : Int))
         (some (.inr (([] : LB), a57, x101.2.2)))
         (J87 (x101.1, x101.2.1)))
        (cond (p1 && (((x63.1 == (9 : Int)) || (x63.1 == (10 : Int))) || (x63.1 == (13 : Int))))
         (J87 ((32 : Int), x63.2.1))
         (J87 (x63.1, x63.2.1))))) fun J90 => cond (x63.1 == (60 : Int)) (J90 true) ((letJ (fun v94 : Bool => J90 v94) fun J93 => cond (!p1) ((slc p0 a57 (p0.length : Int)).bind fun x95 =>
         (F_bytes_HasPrefix x95 ([93, 93, 62] : LB)).bind fun x98 =>
        J93 x98) (J93 false))))))
   (some (.inl a55))
def F_refer_read (p0 : LB) (p1 : Bool) : Option (LB × Int × Int) :=
  letJ (fun a52 : LB =>
   some (a52, (0 : Int), (0 : Int))) fun J54 =>
   (iter (F_refer_read_l0 p0 p1) FUEL (([] : LB), (0 : Int))).bind fun o =>
  match o with
  | .inl o1 => J54 o1
  | .inr o1 => some o1
def F_refer_ReadValue (p0 : LB) : Option (LB × Int × Int) :=
   (F_refer_read p0 true).bind fun x1 =>
  some (x1.1, x1.2.1, x1.2.2)
def F_scan_scanner_tag_l1 (a6 : Int) (a7 : Int) (a8 : LB) (a10 : List TP) (a11 : LB) (a12 : Int) (x27 : (LB × Int) × TS) (x31 : (LB × Int) × TS) (rec44 : Int → Option (Unit ⊕ (Int × TS × TK))) (a41 : Int) : Option (Unit ⊕ (Int × TS × TK)) :=
  cond (decide (a41 < (a10.length : Int)))
   ((idx a10 a41).bind fun x47 =>
   cond (x47.Name == x27.1.1)
    (some (.inr ((27 : Int), x31.2, (⟨a6, a7, a8, a10, a11, a12⟩ : TK))))
    (rec44 (IntKind.wrap .i64 (a41 + (1 : Int)))))
   (some (.inl ()))
def F_scan_scanner_tag_l0 (rec17 : LB × Int × Int × Int × LB × (List TP) × LB × Int × LB × LB → Option ((Int × TS × TK))) : LB × Int × Int × Int × LB × (List TP) × LB × Int × LB × LB → Option ((Int × TS × TK))
  | (a4, a5, a6, a7, a8, a10, a11, a12, a13, a14) =>
   (F_scan_scanner_spaces (⟨a4, a5⟩ : TS) a5).bind fun x19 =>
   (F_scan_scanner_here (⟨a4, x19⟩ : TS) ([47, 62] : LB)).bind fun x20 =>
  cond x20
   ((F_scan_scanner_sign (⟨a4, x19⟩ : TS) ([47, 62] : LB)).bind fun x22 =>
   some (x22.1, x22.2, (⟨(4 : Int), a7, a8, a10, a11, a12⟩ : TK)))
   ((F_scan_scanner_here (⟨a4, x19⟩ : TS) ([62] : LB)).bind fun x23 =>
   cond x23
    ((F_scan_scanner_sign (⟨a4, x19⟩ : TS) ([62] : LB)).bind fun x25 =>
    some (x25.1, x25.2, (⟨a6, a7, a8, a10, a11, a12⟩ : TK)))
    (cond (x19 == a5)
     (some ((23 : Int), (⟨a4, x19⟩ : TS), (⟨a6, a7, a8, a10, a11, a12⟩ : TK)))
     ((F_scan_scanner_name (⟨a4, x19⟩ : TS)).bind fun x27 =>
     cond (x27.1.2 != (0 : Int))
      (some (x27.1.2, x27.2, (⟨a6, a7, a8, a10, a11, a12⟩ : TK)))
      ((F_scan_scanner_equals x27.2).bind fun x29 =>
      cond (x29.1 != (0 : Int))
       (some (x29.1, x29.2, (⟨a6, a7, a8, a10, a11, a12⟩ : TK)))
       ((F_scan_scanner_quoted x29.2).bind fun x31 =>
       cond (x31.1.2 != (0 : Int))
        (some (x31.1.2, x31.2, (⟨a6, a7, a8, a10, a11, a12⟩ : TK)))
        ((F_refer_ReadValue x31.1.1).bind fun x33 =>
        cond (x33.2.2 != (0 : Int))
         (some (x33.2.2, x31.2, (⟨a6, a7, a8, a10, a11, a12⟩ : TK)))
         (letJ (fun _ : Unit =>
           (app 32 a10 [(⟨x27.1.1, x33.1⟩ : TP)]).bind fun _ =>
           (some (a10 ++ [(⟨x27.1.1, x33.1⟩ : TP)])).bind fun a51 =>
          rec17 (x31.2.b, x31.2.at_, a6, a7, a8, a51, a11, a12, x27.1.1, x33.1)) fun J40 =>
          (iter (F_scan_scanner_tag_l1 a6 a7 a8 a10 a11 a12 x27 x31) FUEL (0 : Int)).bind fun o =>
         match o with
         | .inl o1 => J40 o1
         | .inr o1 => some o1)))))))
def F_scan_scanner_tag (p0 : TS) (p1 : TK) : Option (Int × TS × TK) :=
   (F_scan_scanner_name (⟨p0.b, (IntKind.wrap .i64 (p0.at_ + (1 : Int)))⟩ : TS)).bind fun x2 =>
  cond (x2.1.2 != (0 : Int))
   (some (x2.1.2, x2.2, p1))
   ((iter (F_scan_scanner_tag_l0) FUEL (x2.2.b, x2.2.at_, (2 : Int), p1.At, x2.1.1, p1.Pairs, p1.Text, p1.Refs, ([] : LB), ([] : LB))).bind fun o =>
   some o)
def F_refer_ReadText (p0 : LB) : Option (LB × Int × Int) :=
   (F_refer_read p0 false).bind fun x1 =>
  some (x1.1, x1.2.1, x1.2.2)
def F_scan_scanner_text (p0 : TS) (p1 : TK) : Option (Int × TS × TK) :=
   (slc p0.b p0.at_ (p0.b.length : Int)).bind fun x1 =>
  letJ (fun a5 : LB =>
    (F_refer_ReadText a5).bind fun x10 =>
    (L_bCount a5 ([38] : LB)).bind fun x13 =>
   some (x10.2.2, (⟨p0.b, (IntKind.wrap .i64 (p0.at_ + (a5.length : Int)))⟩ : TS), (⟨(5 : Int), p1.At, p1.Name, p1.Pairs, x10.1, x13⟩ : TK))) fun J6 =>
   (L_bIndexByte x1 (60 : Int)).bind fun x7 =>
  cond (decide ((0 : Int) ≤ x7))
   ((slc x1 (0 : Int) x7).bind fun x9 =>
   J6 x9)
   (J6 x1)
def F_scan_scanner_token (p0 : TS) (p1 : TK) : Option (Int × TS × TK) :=
   (letJ (fun v3 : Bool => (letJ (fun v7 : Bool => cond v7
       ((F_scan_scanner_decl p0 p1).bind fun x10 =>
       some (x10.1, x10.2.1, x10.2.2))
       ((F_scan_scanner_here p0 ([60, 33, 45, 45] : LB)).bind fun x12 =>
       cond x12
        ((F_scan_scanner_upTo p0 (⟨(7 : Int), p1.At, p1.Name, p1.Pairs, p1.Text, p1.Refs⟩ : TK) (4 : Int) ([45, 45] : LB)).bind fun x14 =>
        cond (x14.1 != (0 : Int))
         (some (x14.1, x14.2.1, x14.2.2))
         ((F_scan_scanner_sign x14.2.1 ([62] : LB)).bind fun x17 =>
         some (x17.1, x17.2, x14.2.2)))
        ((F_scan_scanner_here p0 ([60, 33, 91, 67, 68, 65, 84, 65, 91] : LB)).bind fun x18 =>
        cond x18
         ((F_scan_scanner_upTo p0 (⟨(6 : Int), p1.At, p1.Name, p1.Pairs, p1.Text, p1.Refs⟩ : TK) (9 : Int) ([93, 93, 62] : LB)).bind fun x20 =>
         some (x20.1, x20.2.1, x20.2.2))
         ((F_scan_scanner_here p0 ([60, 33, 68, 79, 67, 84, 89, 80, 69] : LB)).bind fun x22 =>
         cond x22
          (some ((25 : Int), p0, p1))
          ((F_scan_scanner_here p0 ([60, 33] : LB)).bind fun x24 =>
          cond x24
           (some ((23 : Int), p0, p1))
           ((F_scan_scanner_here p0 ([60, 63] : LB)).bind fun x26 =>
           cond x26
            ((F_scan_scanner_instr p0 p1).bind fun x28 =>
            some (x28.1, x28.2.1, x28.2.2))
            ((F_scan_scanner_here p0 ([60, 47] : LB)).bind fun x30 =>
            cond x30
             ((F_scan_scanner_closing p0 p1).bind fun x32 =>
             some (x32.1, x32.2.1, x32.2.2))
             ((F_scan_scanner_here p0 ([60] : LB)).bind fun x34 =>
             cond x34
              ((F_scan_scanner_tag p0 p1).bind fun x36 =>
              some (x36.1, x36.2.1, x36.2.2))
              ((F_scan_scanner_text p0 p1).bind fun x38 =>
              some (x38.1, x38.2.1, x38.2.2)))))))))) fun J6 => cond v3 ((F_scan_scanner_spaces p0 (5 : Int)).bind fun x8 =>
      J6 (decide ((5 : Int) < x8))) (J6 false))) fun J2 => cond (p0.at_ == (0 : Int)) ((F_scan_scanner_here p0 ([60, 63, 120, 109, 108] : LB)).bind fun x4 =>
    J2 x4) (J2 false))
def F_scan_All_l0 (rec13 : LB × Int × (List TK) → Option (((List TK) × Int × Int))) : LB × Int × (List TK) → Option (((List TK) × Int × Int))
  | (a7, a8, a10) =>
  cond (a8 == (a7.length : Int))
   (some (a10, (0 : Int), (0 : Int)))
   ((F_scan_scanner_token (⟨a7, a8⟩ : TS) (⟨(0 : Int), a8, ([] : LB), ([] : List TP), ([] : LB), (0 : Int)⟩ : TK)).bind fun x20 =>
   cond (x20.1 != (0 : Int))
    (some (([] : List TK), a8, x20.1))
    ((app 80 a10 [x20.2.2]).bind fun _ =>
     (some (a10 ++ [x20.2.2])).bind fun a27 =>
    rec13 (x20.2.1.b, x20.2.1.at_, a27)))
def F_scan_All (p0 : LB) : Option ((List TK) × Int × Int) :=
  cond (decide ((65536 : Int) < (p0.length : Int)))
   (some (([] : List TK), (0 : Int), (6 : Int)))
   ((F_scan_Plain p0).bind fun x2 =>
    (F_char_Fault (⟨x2, (0 : Int)⟩ : TS).b).bind fun x4 =>
   cond (x4.2 != (0 : Int))
    (some (([] : List TK), x4.1, x4.2))
    ((iter (F_scan_All_l0) FUEL ((⟨x2, (0 : Int)⟩ : TS).b, (⟨x2, (0 : Int)⟩ : TS).at_, ([] : List TK))).bind fun o =>
    some o))
def F_scope_New : Option (T_scope_Scope) :=
  some (⟨([] : List T_scope_bind)⟩ : T_scope_Scope)
def F_parse_reader_put (p0 : T_parse_reader) (p1 : T_api_Node) : Option (Int × T_parse_reader) :=
  cond (decide ((8192 : Int) < (p1.Text.length : Int)))
   (some ((5 : Int), p0))
   ((topU p0.open_ (IntKind.wrap .i64 ((List.length p0.open_ : Int) - (1 : Int)))).bind fun x2 =>
    (app 104 x2.1.node.Kids [(⟨(0 : Int), (⟨([] : LB), ([] : LB)⟩ : T_api_Name), ([] : List T_api_Attr), ([] : List T_api_Node), ([] : LB)⟩ : T_api_Node)]).bind fun _ =>
    (some (x2.1.node.Kids ++ [p1])).bind fun a12 =>
   some ((0 : Int), (⟨((⟨(⟨x2.1.node.Kind, x2.1.node.Name, x2.1.node.Attrs, a12, x2.1.node.Text⟩ : T_api_Node), x2.1.raw, x2.1.in_⟩ : T_parse_open) :: x2.2), (IntKind.wrap .i64 (p0.nodes + (1 : Int))), p0.done⟩ : T_parse_reader)))
def F_parse_reader_text (p0 : T_parse_reader) (p1 : TK) : Option (Int × T_parse_reader) :=
  cond ((p0.open_.length : Int) == (1 : Int))
   ((letJ (fun v5 : Bool => cond v5
      (some ((30 : Int), p0))
      (some ((0 : Int), p0))) fun J4 => cond ((p1.Kind == (6 : Int)) || (decide ((0 : Int) < p1.Refs))) (J4 true) ((L_Trim p1.Text ([32, 9, 10, 13] : LB)).bind fun x6 =>
     J4 (!(x6 == ([] : LB))))))
   ((topU p0.open_ (IntKind.wrap .i64 ((List.length p0.open_ : Int) - (1 : Int)))).bind fun x8 =>
   cond (p1.Text == ([] : LB))
    (some ((0 : Int), p0))
    ((letJ (fun v21 : Bool => cond v21
       ((F_parse_reader_put p0 (⟨(3 : Int), (⟨([] : LB), ([] : LB)⟩ : T_api_Name), ([] : List T_api_Attr), ([] : List T_api_Node), p1.Text⟩ : T_api_Node)).bind fun x26 =>
       some (x26.1, x26.2))
       ((idx x8.1.node.Kids (IntKind.wrap .i64 ((x8.1.node.Kids.length : Int) - (1 : Int)))).bind fun x29 =>
        (cat x29.Text p1.Text).bind fun _ =>
        (idx x8.1.node.Kids (IntKind.wrap .i64 ((x8.1.node.Kids.length : Int) - (1 : Int)))).bind fun x30 =>
        (some (List.set x8.1.node.Kids (Int.toNat (IntKind.wrap .i64 ((x8.1.node.Kids.length : Int) - (1 : Int)))) (⟨x30.Kind, x30.Name, x30.Attrs, x30.Kids, (x29.Text ++ p1.Text)⟩ : T_api_Node))).bind fun a31 =>
        (idx a31 (IntKind.wrap .i64 ((x8.1.node.Kids.length : Int) - (1 : Int)))).bind fun x32 =>
       cond (decide ((8192 : Int) < (x32.Text.length : Int)))
        (some ((5 : Int), (⟨((⟨(⟨x8.1.node.Kind, x8.1.node.Name, x8.1.node.Attrs, a31, x8.1.node.Text⟩ : T_api_Node), x8.1.raw, x8.1.in_⟩ : T_parse_open) :: x8.2), p0.nodes, p0.done⟩ : T_parse_reader)))
        (some ((0 : Int), (⟨((⟨(⟨x8.1.node.Kind, x8.1.node.Name, x8.1.node.Attrs, a31, x8.1.node.Text⟩ : T_api_Node), x8.1.raw, x8.1.in_⟩ : T_parse_open) :: x8.2), p0.nodes, p0.done⟩ : T_parse_reader))))) fun J20 => cond (decide ((IntKind.wrap .i64 ((x8.1.node.Kids.length : Int) - (1 : Int))) < (0 : Int))) (J20 true) ((idx x8.1.node.Kids (IntKind.wrap .i64 ((x8.1.node.Kids.length : Int) - (1 : Int)))).bind fun x22 =>
      J20 (x22.Kind != (3 : Int))))))
def F_scope_declares (p0 : TP) : Option (LB × Bool) :=
   (F_char_Split p0.Name).bind fun x1 =>
  cond (x1.2.2 && (x1.1 == ([120, 109, 108, 110, 115] : LB)))
   (some (x1.2.1, true))
   (cond (p0.Name == ([120, 109, 108, 110, 115] : LB))
    (some (([] : LB), true))
    (some (([] : LB), false)))
def F_scope_wrong (p0 : LB) (p1 : LB) : Option (Int) :=
  letJ (fun a3 : Bool =>
   cond a3
    (some (29 : Int))
    (cond ((!(p0 == ([] : LB))) && (p1 == ([] : LB)))
     (some (28 : Int))
     (cond (decide ((100 : Int) < (p1.length : Int)))
      (some (6 : Int))
      (some (0 : Int))))) fun J4 =>
  cond (p0 == ([120, 109, 108, 110, 115] : LB))
   (J4 (p0 == ([120, 109, 108, 110, 115] : LB)))
   (cond (p1 == ([104, 116, 116, 112, 58, 47, 47, 119, 119, 119, 46, 119, 51, 46, 111, 114, 103, 47, 50, 48, 48, 48, 47, 120, 109, 108, 110, 115, 47] : LB))
    (J4 (p1 == ([104, 116, 116, 112, 58, 47, 47, 119, 119, 119, 46, 119, 51, 46, 111, 114, 103, 47, 50, 48, 48, 48, 47, 120, 109, 108, 110, 115, 47] : LB)))
    (J4 (!((p0 == ([120, 109, 108] : LB)) == (p1 == ([104, 116, 116, 112, 58, 47, 47, 119, 119, 119, 46, 119, 51, 46, 111, 114, 103, 47, 88, 77, 76, 47, 49, 57, 57, 56, 47, 110, 97, 109, 101, 115, 112, 97, 99, 101] : LB))))))
def F_slices_Index_string_string_l0 (p0 : List LB) (p1 : LB) (rec9 : Int → Option (Unit ⊕ Int)) (a6 : Int) : Option (Unit ⊕ Int) :=
  cond (decide (a6 < (p0.length : Int)))
   ((idx p0 a6).bind fun x12 =>
   cond (p1 == x12)
    (some (.inr a6))
    (rec9 (IntKind.wrap .i64 (a6 + (1 : Int)))))
   (some (.inl ()))
def F_slices_Index_string_string (p0 : List LB) (p1 : LB) : Option (Int) :=
  letJ (fun _ : Unit =>
   some (-1 : Int)) fun J5 =>
   (iter (F_slices_Index_string_string_l0 p0 p1) FUEL (0 : Int)).bind fun o =>
  match o with
  | .inl o1 => J5 o1
  | .inr o1 => some o1
def F_slices_Contains_string_string (p0 : List LB) (p1 : LB) : Option (Bool) :=
   (F_slices_Index_string_string p0 p1).bind fun x1 =>
  some (decide ((0 : Int) ≤ x1))
def F_scope_Scope_Open_1 (p0 : T_scope_bind) (p1 : LB) : Option (Bool) :=
  some (p0.prefix_ == p1)
def F_slices_IndexFunc_scope_bind_scope_bind_l0 (p0 : List T_scope_bind) (p1 : T_scope_bind → Option Bool) (rec10 : Int → Option (Unit ⊕ Int)) (a7 : Int) : Option (Unit ⊕ Int) :=
  cond (decide (a7 < (p0.length : Int)))
   ((idx p0 a7).bind fun x13 =>
    (p1 x13).bind fun x14 =>
   cond x14
    (some (.inr a7))
    (rec10 (IntKind.wrap .i64 (a7 + (1 : Int)))))
   (some (.inl ()))
def F_slices_IndexFunc_scope_bind_scope_bind (p0 : List T_scope_bind) (p1 : T_scope_bind → Option Bool) : Option (Int) :=
  letJ (fun _ : Unit =>
   some (-1 : Int)) fun J6 =>
   (iter (F_slices_IndexFunc_scope_bind_scope_bind_l0 p0 p1) FUEL (0 : Int)).bind fun o =>
  match o with
  | .inl o1 => J6 o1
  | .inr o1 => some o1
def F_slices_DeleteFunc_scope_bind_scope_bind (p0 : List T_scope_bind) (p1 : T_scope_bind → Option Bool) : Option (List T_scope_bind) :=
   (F_slices_IndexFunc_scope_bind_scope_bind p0 p1).bind fun x1 =>
  cond (x1 == (-1 : Int))
   (some p0)
   (none)
def F_scope_Scope_Open_l0 (p1 : List TP) (rec64 : (List T_scope_bind) × (List LB) × (List T_scope_bind) × Int → Option (((List T_scope_bind) × (List T_scope_bind)) ⊕ (T_scope_Scope × Int))) : (List T_scope_bind) × (List LB) × (List T_scope_bind) × Int → Option (((List T_scope_bind) × (List T_scope_bind)) ⊕ (T_scope_Scope × Int))
  | (a56, a57, a60, a61) =>
  cond (decide (a61 < (p1.length : Int)))
   (letJ (fun v : (List LB) × (List T_scope_bind) => match v with
    | (a85, a88) =>
    rec64 (a56, a85, a88, (IntKind.wrap .i64 (a61 + (1 : Int))))) fun J89 =>
    (idx p1 a61).bind fun x90 =>
    (F_scope_declares x90).bind fun x92 =>
   cond (!x92.2)
    (J89 (a57, a60))
    ((F_scope_wrong x92.1 x90.Value).bind fun x95 =>
    cond (x95 != (0 : Int))
     (some (.inr ((⟨([] : List T_scope_bind)⟩ : T_scope_Scope), x95)))
     ((F_slices_Contains_string_string a57 x92.1).bind fun x97 =>
     cond x97
      (some (.inr ((⟨([] : List T_scope_bind)⟩ : T_scope_Scope), (27 : Int))))
      ((app 16 a57 [x92.1]).bind fun _ =>
       (F_slices_DeleteFunc_scope_bind_scope_bind a60 (fun z0 => F_scope_Scope_Open_1 z0 x92.1)).bind fun x102 =>
      cond ((!(x92.1 == ([120, 109, 108] : LB))) && (!(x90.Value == ([] : LB))))
       ((app 32 x102 [(⟨x92.1, x90.Value⟩ : T_scope_bind)]).bind fun _ =>
        (some (x102 ++ [(⟨x92.1, x90.Value⟩ : T_scope_bind)])).bind fun a107 =>
       J89 ((a57 ++ [x92.1]), a107))
       (J89 ((a57 ++ [x92.1]), x102))))))
   (some (.inl (a56, a60)))
def F_scope_Scope_Open (p0 : T_scope_Scope) (p1 : List TP) : Option (T_scope_Scope × Int) :=
   (app 32 [] p0.binds).bind fun x3 =>
  letJ (fun v : (List T_scope_bind) × (List T_scope_bind) => match v with
   | (a52, a54) =>
   some ((⟨a54⟩ : T_scope_Scope), (0 : Int))) fun J55 =>
   (iter (F_scope_Scope_Open_l0 p1) FUEL (([] : List T_scope_bind), ([] : List LB), x3, (0 : Int))).bind fun o =>
  match o with
  | .inl o1 => J55 o1
  | .inr o1 => some o1
def F_scope_Scope_Bound_l0 (p0 : T_scope_Scope) (p1 : LB) (rec11 : Int → Option (Unit ⊕ (LB × Bool))) (a8 : Int) : Option (Unit ⊕ (LB × Bool)) :=
  cond (decide (a8 < (p0.binds.length : Int)))
   ((idx p0.binds a8).bind fun x14 =>
   cond (x14.prefix_ == p1)
    (some (.inr (x14.uri, true)))
    (rec11 (IntKind.wrap .i64 (a8 + (1 : Int)))))
   (some (.inl ()))
def F_scope_Scope_Bound (p0 : T_scope_Scope) (p1 : LB) : Option (LB × Bool) :=
  cond (p1 == ([120, 109, 108] : LB))
   (some (([104, 116, 116, 112, 58, 47, 47, 119, 119, 119, 46, 119, 51, 46, 111, 114, 103, 47, 88, 77, 76, 47, 49, 57, 57, 56, 47, 110, 97, 109, 101, 115, 112, 97, 99, 101] : LB), true))
   (letJ (fun _ : Unit =>
    some (([] : LB), (p1 == ([] : LB)))) fun J7 =>
    (iter (F_scope_Scope_Bound_l0 p0 p1) FUEL (0 : Int)).bind fun o =>
   match o with
   | .inl o1 => J7 o1
   | .inr o1 => some o1)
def F_scope_Scope_Element (p0 : T_scope_Scope) (p1 : LB) : Option (T_api_Name × Int) :=
   (F_char_Split p1).bind fun x2 =>
  cond (!x2.2.2)
   (some ((⟨([] : LB), ([] : LB)⟩ : T_api_Name), (24 : Int)))
   (cond (x2.1 == ([120, 109, 108, 110, 115] : LB))
    (some ((⟨([] : LB), ([] : LB)⟩ : T_api_Name), (29 : Int)))
    ((F_scope_Scope_Bound p0 x2.1).bind fun x5 =>
    cond (!x5.2)
     (some ((⟨([] : LB), ([] : LB)⟩ : T_api_Name), (28 : Int)))
     (some ((⟨x5.1, x2.2.1⟩ : T_api_Name), (0 : Int)))))
def F_slices_insertionSortCmpFunc_api_Attr_l1 (p1 : Int) (p3 : T_api_Attr → T_api_Attr → Option Int) (rec38 : (List T_api_Attr) × Int → Option (((List T_api_Attr)))) : (List T_api_Attr) × Int → Option (((List T_api_Attr)))
  | (a33, a35) =>
  letJ (fun a45 : Bool =>
   cond a45
    ((idx a33 (IntKind.wrap .i64 (a35 - (1 : Int)))).bind fun x53 =>
     (idx a33 a35).bind fun x54 =>
     (idx a33 a35).bind fun x55 =>
     (some (List.set a33 (Int.toNat a35) x53)).bind fun a56 =>
     (idx a56 (IntKind.wrap .i64 (a35 - (1 : Int)))).bind fun x57 =>
     (some (List.set a56 (Int.toNat (IntKind.wrap .i64 (a35 - (1 : Int)))) x54)).bind fun a58 =>
    rec38 (a58, (IntKind.wrap .i64 (a35 - (1 : Int)))))
    (some a33)) fun J46 =>
  cond (decide (p1 < a35))
   ((idx a33 a35).bind fun x49 =>
    (idx a33 (IntKind.wrap .i64 (a35 - (1 : Int)))).bind fun x50 =>
    (p3 x49 x50).bind fun x51 =>
   J46 (decide (x51 < (0 : Int))))
   (J46 false)
def F_slices_insertionSortCmpFunc_api_Attr_l0 (p1 : Int) (p2 : Int) (p3 : T_api_Attr → T_api_Attr → Option Int) (rec6 : (List T_api_Attr) × Int → Option (((List T_api_Attr)))) : (List T_api_Attr) × Int → Option (((List T_api_Attr)))
  | (a1, a3) =>
  cond (decide (a3 < p2))
   (letJ (fun a30 : List T_api_Attr =>
    rec6 (a30, (IntKind.wrap .i64 (a3 + (1 : Int))))) fun J32 =>
    (iter (F_slices_insertionSortCmpFunc_api_Attr_l1 p1 p3) FUEL (a1, a3)).bind fun o =>
   J32 o)
   (some a1)
def F_slices_insertionSortCmpFunc_api_Attr (p0 : List T_api_Attr) (p1 : Int) (p2 : Int) (p3 : T_api_Attr → T_api_Attr → Option Int) : Option ((List T_api_Attr)) :=
   (iter (F_slices_insertionSortCmpFunc_api_Attr_l0 p1 p2 p3) FUEL (p0, (IntKind.wrap .i64 (p1 + (1 : Int))))).bind fun o =>
  some o
def F_slices_stableCmpFunc_api_Attr_l0 (p1 : Int) (p2 : T_api_Attr → T_api_Attr → Option Int) (rec20 : (List T_api_Attr) × Int × Int → Option (((List T_api_Attr) × Int))) : (List T_api_Attr) × Int × Int → Option (((List T_api_Attr) × Int))
  | (a14, a16, a17) =>
  cond (decide (a17 ≤ p1))
   ((F_slices_insertionSortCmpFunc_api_Attr a14 a16 a17 p2).bind fun x23 =>
    (some x23).bind fun a25 =>
    (eqL a25 a14).bind fun _ =>
   rec20 (a25, a17, (IntKind.wrap .i64 (a17 + (20 : Int)))))
   (some (a14, a16))
def F_slices_stableCmpFunc_api_Attr_l2 (p1 : Int) (rec46 : Int × Int → Option (Int)) : Int × Int → Option (Int)
  | (a42, a43) =>
  cond (decide (a43 ≤ p1))
   (none)
   (some a42)
def F_slices_stableCmpFunc_api_Attr_l1 (p1 : Int) (a29 : List T_api_Attr) (rec34 : Int → Option (((List T_api_Attr)))) (a31 : Int) : Option (((List T_api_Attr))) :=
  cond (decide (a31 < p1))
   (letJ (fun a40 : Int =>
    letJ (fun _ : Unit =>
     rec34 (IntKind.wrap .i64 (a31 * (2 : Int)))) fun J50 =>
    cond (decide ((IntKind.wrap .i64 (a40 + a31)) < p1))
     (none)
     (J50 ())) fun J41 =>
    (iter (F_slices_stableCmpFunc_api_Attr_l2 p1) FUEL ((0 : Int), (IntKind.wrap .i64 ((2 : Int) * a31)))).bind fun o =>
   J41 o)
   (some a29)
def F_slices_stableCmpFunc_api_Attr (p0 : List T_api_Attr) (p1 : Int) (p2 : T_api_Attr → T_api_Attr → Option Int) : Option ((List T_api_Attr)) :=
  letJ (fun v : (List T_api_Attr) × Int => match v with
   | (a10, a12) =>
    (F_slices_insertionSortCmpFunc_api_Attr a10 a12 p1 p2).bind fun x27 =>
    (some x27).bind fun a29 =>
    (eqL a29 a10).bind fun _ =>
    (iter (F_slices_stableCmpFunc_api_Attr_l1 p1 a29) FUEL (20 : Int)).bind fun o =>
   some o) fun J13 =>
   (iter (F_slices_stableCmpFunc_api_Attr_l0 p1 p2) FUEL (p0, (0 : Int), (20 : Int))).bind fun o =>
  J13 o
def F_slices_SortStableFunc_api_Attr_api_Attr (p0 : List T_api_Attr) (p1 : T_api_Attr → T_api_Attr → Option Int) : Option ((List T_api_Attr)) :=
   (F_slices_stableCmpFunc_api_Attr p0 (p0.length : Int) p1).bind fun x1 =>
   (some x1).bind fun a3 =>
   (eqL a3 p0).bind fun _ =>
  some a3
def F_cmp_isNaN_string (p0 : LB) : Option (Bool) :=
  some (!(p0 == p0))
def F_cmp_Compare_string (p0 : LB) (p1 : LB) : Option (Int) :=
   (F_cmp_isNaN_string p0).bind fun x1 =>
   (F_cmp_isNaN_string p1).bind fun x2 =>
  cond x1
   (cond x2
    (some (0 : Int))
    (some (-1 : Int)))
   (cond x2
    (some (1 : Int))
    (cond (Op.bytesLess p0 p1)
     (some (-1 : Int))
     (cond (!(Op.bytesLess p0 p1 || p0 == p1))
      (some (1 : Int))
      (some (0 : Int)))))
def F_cmp_Or_int_l0 (p0 : List Int) (rec9 : Int → Option (Unit ⊕ Int)) (a6 : Int) : Option (Unit ⊕ Int) :=
  cond (decide (a6 < (p0.length : Int)))
   ((idx p0 a6).bind fun x12 =>
   cond (x12 != (0 : Int))
    (some (.inr x12))
    (rec9 (IntKind.wrap .i64 (a6 + (1 : Int)))))
   (some (.inl ()))
def F_cmp_Or_int (p0 : List Int) : Option (Int) :=
  letJ (fun _ : Unit =>
   some (0 : Int)) fun J5 =>
   (iter (F_cmp_Or_int_l0 p0) FUEL (0 : Int)).bind fun o =>
  match o with
  | .inl o1 => J5 o1
  | .inr o1 => some o1
def F_scope_Scope_Attrs_1 (p0 : T_api_Attr) (p1 : T_api_Attr) : Option (Int) :=
   (F_cmp_Compare_string p0.Name.URI p1.Name.URI).bind fun x1 =>
   (F_cmp_Compare_string p0.Name.Local p1.Name.Local).bind fun x2 =>
   (F_cmp_Or_int ([x1, x2])).bind fun x3 =>
  some x3
def F_scope_Scope_Attrs_l0 (p0 : T_scope_Scope) (p1 : List TP) (rec44 : (List T_api_Attr) × Int → Option (((List T_api_Attr)) ⊕ ((List T_api_Attr) × Int))) : (List T_api_Attr) × Int → Option (((List T_api_Attr)) ⊕ ((List T_api_Attr) × Int))
  | (a40, a41) =>
  cond (decide (a41 < (p1.length : Int)))
   (letJ (fun a62 : List T_api_Attr =>
    rec44 (a62, (IntKind.wrap .i64 (a41 + (1 : Int))))) fun J63 =>
    (idx p1 a41).bind fun x64 =>
    (F_scope_declares x64).bind fun x66 =>
   cond x66.2
    (J63 a40)
    ((F_scope_Scope_Element p0 x64.Name).bind fun x68 =>
    cond (x68.2 != (0 : Int))
     (some (.inr (([] : List T_api_Attr), x68.2)))
     (letJ (fun a73 : LB =>
       (app 48 a40 [(⟨(⟨a73, x68.1.Local⟩ : T_api_Name), x64.Value⟩ : T_api_Attr)]).bind fun _ =>
       (some (a40 ++ [(⟨(⟨a73, x68.1.Local⟩ : T_api_Name), x64.Value⟩ : T_api_Attr)])).bind fun a78 =>
      J63 a78) fun J74 =>
      (F_char_Split x64.Name).bind fun x75 =>
     cond (x75.1 == ([] : LB))
      (J74 ([] : LB))
      (J74 x68.1.URI))))
   (some (.inl a40))
def F_scope_Scope_Attrs_l1 (a81 : List T_api_Attr) (rec99 : Int → Option (Unit ⊕ ((List T_api_Attr) × Int))) (a96 : Int) : Option (Unit ⊕ ((List T_api_Attr) × Int)) :=
  cond (decide (a96 < (a81.length : Int)))
   (letJ (fun a106 : Bool =>
    cond a106
     (some (.inr (([] : List T_api_Attr), (27 : Int))))
     (rec99 (IntKind.wrap .i64 (a96 + (1 : Int))))) fun J107 =>
   cond (decide ((0 : Int) < a96))
    ((idx a81 a96).bind fun x110 =>
     (idx a81 (IntKind.wrap .i64 (a96 - (1 : Int)))).bind fun x111 =>
    J107 ((x110.Name.URI == x111.Name.URI) && ((x110.Name.Local == x111.Name.Local) && true)))
    (J107 false))
   (some (.inl ()))
def F_scope_Scope_Attrs (p0 : T_scope_Scope) (p1 : List TP) : Option ((List T_api_Attr) × Int) :=
  letJ (fun a37 : List T_api_Attr =>
    (F_slices_SortStableFunc_api_Attr_api_Attr a37 F_scope_Scope_Attrs_1).bind fun x79 =>
    (some x79).bind fun a81 =>
    (eqL a81 a37).bind fun _ =>
   letJ (fun _ : Unit =>
    some (a81, (0 : Int))) fun J95 =>
    (iter (F_scope_Scope_Attrs_l1 a81) FUEL (0 : Int)).bind fun o =>
   match o with
   | .inl o1 => J95 o1
   | .inr o1 => some o1) fun J38 =>
   (iter (F_scope_Scope_Attrs_l0 p0 p1) FUEL (([] : List T_api_Attr), (0 : Int))).bind fun o =>
  match o with
  | .inl o1 => J38 o1
  | .inr o1 => some o1
def F_parse_reader_begin_l0 (p0 : T_parse_reader) (x78 : (List T_api_Attr) × Int) (rec90 : Int → Option (Unit ⊕ (Int × T_parse_reader))) (a87 : Int) : Option (Unit ⊕ (Int × T_parse_reader)) :=
  cond (decide (a87 < (x78.1.length : Int)))
   ((idx x78.1 a87).bind fun x93 =>
   cond ((decide ((64 : Int) < (x78.1.length : Int))) || (decide ((8192 : Int) < (x93.Value.length : Int))))
    (some (.inr ((5 : Int), p0)))
    (rec90 (IntKind.wrap .i64 (a87 + (1 : Int)))))
   (some (.inl ()))
def F_parse_reader_begin (p0 : T_parse_reader) (p1 : TK) : Option (Int × T_parse_reader) :=
   (letJ (fun v3 : Bool => cond v3
     (some ((30 : Int), p0))
     (cond (decide ((32 : Int) < (IntKind.wrap .i64 ((p0.open_.length : Int) - (1 : Int)))))
      (some ((31 : Int), p0))
      (letJ (fun v : (List T_scope_bind) × Int => match v with
       | (a39, a40) =>
       cond (a40 != (0 : Int))
        (some (a40, p0))
        ((F_scope_Scope_Element (⟨a39⟩ : T_scope_Scope) p1.Name).bind fun x75 =>
        cond (x75.2 != (0 : Int))
         (some (x75.2, p0))
         ((F_scope_Scope_Attrs (⟨a39⟩ : T_scope_Scope) p1.Pairs).bind fun x78 =>
         cond (x78.2 != (0 : Int))
          (some (x78.2, p0))
          (letJ (fun _ : Unit =>
            (app 144 p0.open_ [(⟨(⟨(2 : Int), x75.1, x78.1, ([] : List T_api_Node), ([] : LB)⟩ : T_api_Node), p1.Name, (⟨a39⟩ : T_scope_Scope)⟩ : T_parse_open)]).bind fun _ =>
           some ((0 : Int), (⟨((⟨(⟨(2 : Int), x75.1, x78.1, ([] : List T_api_Node), ([] : LB)⟩ : T_api_Node), p1.Name, (⟨a39⟩ : T_scope_Scope)⟩ : T_parse_open) :: p0.open_), (IntKind.wrap .i64 (p0.nodes + (1 : Int))), p0.done⟩ : T_parse_reader))) fun J86 =>
           (iter (F_parse_reader_begin_l0 p0 x78) FUEL (0 : Int)).bind fun o =>
          match o with
          | .inl o1 => J86 o1
          | .inr o1 => some o1)))) fun J41 =>
       (topU p0.open_ (IntKind.wrap .i64 ((List.length p0.open_ : Int) - (1 : Int)))).bind fun x42 =>
       (F_scope_Scope_Open x42.1.in_ p1.Pairs).bind fun x50 =>
      J41 (x50.1.binds, x50.2)))) fun J2 => cond ((p0.open_.length : Int) == (1 : Int)) (J2 p0.done) (J2 false))
def F_parse_reader_close (p0 : T_parse_reader) : Option (T_parse_reader) :=
   (topU p0.open_ (IntKind.wrap .i64 ((List.length p0.open_ : Int) - (1 : Int)))).bind fun x1 =>
   (topU p0.open_ (IntKind.wrap .i64 ((p0.open_.length : Int) - (1 : Int)))).bind fun x12 =>
   (topU x12.2 (IntKind.wrap .i64 ((List.length x12.2 : Int) - (1 : Int)))).bind fun x15 =>
   (app 104 x15.1.node.Kids [(⟨(0 : Int), (⟨([] : LB), ([] : LB)⟩ : T_api_Name), ([] : List T_api_Attr), ([] : List T_api_Node), ([] : LB)⟩ : T_api_Node)]).bind fun _ =>
   (some (x15.1.node.Kids ++ [x1.1.node])).bind fun a25 =>
   (letJ (fun v28 : Bool => some (⟨((⟨(⟨x15.1.node.Kind, x15.1.node.Name, x15.1.node.Attrs, a25, x15.1.node.Text⟩ : T_api_Node), x15.1.raw, x15.1.in_⟩ : T_parse_open) :: x15.2), p0.nodes, v28⟩ : T_parse_reader)) fun J27 => cond p0.done (J27 true) (J27 ((x12.2.length : Int) == (1 : Int))))
def F_parse_reader_take (p0 : T_parse_reader) (p1 : TK) : Option (Int × T_parse_reader) :=
  cond (p1.Kind == (7 : Int))
   ((F_parse_reader_put p0 (⟨(4 : Int), (⟨([] : LB), ([] : LB)⟩ : T_api_Name), ([] : List T_api_Attr), ([] : List T_api_Node), p1.Text⟩ : T_api_Node)).bind fun x2 =>
    (letJ (fun v7 : Bool => cond v7
      (some ((5 : Int), x2.2))
      (some (x2.1, x2.2))) fun J6 => cond (x2.1 == (0 : Int)) (J6 (decide ((2000 : Int) < x2.2.nodes))) (J6 false)))
   (cond (p1.Kind == (8 : Int))
    ((F_parse_reader_put p0 (⟨(5 : Int), (⟨([] : LB), p1.Name⟩ : T_api_Name), ([] : List T_api_Attr), ([] : List T_api_Node), p1.Text⟩ : T_api_Node)).bind fun x10 =>
     (letJ (fun v15 : Bool => cond v15
       (some ((5 : Int), x10.2))
       (some (x10.1, x10.2))) fun J14 => cond (x10.1 == (0 : Int)) (J14 (decide ((2000 : Int) < x10.2.nodes))) (J14 false)))
    (cond (p1.Kind == (5 : Int))
     ((F_parse_reader_text p0 p1).bind fun x18 =>
      (letJ (fun v23 : Bool => cond v23
        (some ((5 : Int), x18.2))
        (some (x18.1, x18.2))) fun J22 => cond (x18.1 == (0 : Int)) (J22 (decide ((2000 : Int) < x18.2.nodes))) (J22 false)))
     (cond (p1.Kind == (6 : Int))
      ((F_parse_reader_text p0 p1).bind fun x26 =>
       (letJ (fun v31 : Bool => cond v31
         (some ((5 : Int), x26.2))
         (some (x26.1, x26.2))) fun J30 => cond (x26.1 == (0 : Int)) (J30 (decide ((2000 : Int) < x26.2.nodes))) (J30 false)))
      (cond (p1.Kind == (2 : Int))
       ((F_parse_reader_begin p0 p1).bind fun x34 =>
        (letJ (fun v39 : Bool => cond v39
          (some ((5 : Int), x34.2))
          (some (x34.1, x34.2))) fun J38 => cond (x34.1 == (0 : Int)) (J38 (decide ((2000 : Int) < x34.2.nodes))) (J38 false)))
       (cond (p1.Kind == (4 : Int))
        ((F_parse_reader_begin p0 p1).bind fun x42 =>
        cond (x42.1 == (0 : Int))
         ((F_parse_reader_close x42.2).bind fun x46 =>
         cond (decide ((2000 : Int) < x46.nodes))
          (some ((5 : Int), x46))
          (some (x42.1, x46)))
         (some (x42.1, x42.2)))
        (cond (p1.Kind == (3 : Int))
         (cond ((p0.open_.length : Int) == (1 : Int))
          (some ((26 : Int), p0))
          ((topU p0.open_ (IntKind.wrap .i64 ((List.length p0.open_ : Int) - (1 : Int)))).bind fun x53 =>
          cond (!(x53.1.raw == p1.Name))
           (some ((26 : Int), p0))
           ((F_parse_reader_close p0).bind fun x66 =>
            (letJ (fun v71 : Bool => cond v71
              (some ((5 : Int), x66))
              (some ((0 : Int), x66))) fun J70 => cond ((0 : Int) == (0 : Int)) (J70 (decide ((2000 : Int) < x66.nodes))) (J70 false)))))
         ((letJ (fun v75 : Bool => cond v75
            (some ((5 : Int), p0))
            (some ((0 : Int), p0))) fun J74 => cond ((0 : Int) == (0 : Int)) (J74 (decide ((2000 : Int) < p0.nodes))) (J74 false)))))))))
def F_parse_Parse_l0 (x2 : (List TK) × Int × Int) (rec60 : Int × LB × LB × (List T_api_Attr) × (List T_api_Node) × LB × (List T_parse_open) × Int × Bool × Int → Option ((Int × LB × LB × (List T_api_Attr) × (List T_api_Node) × LB × (List T_parse_open) × Int × Bool) ⊕ (T_api_Node × Int × Int))) : Int × LB × LB × (List T_api_Attr) × (List T_api_Node) × LB × (List T_parse_open) × Int × Bool × Int → Option ((Int × LB × LB × (List T_api_Attr) × (List T_api_Node) × LB × (List T_parse_open) × Int × Bool) ⊕ (T_api_Node × Int × Int))
  | (a44, a45, a46, a47, a48, a49, a51, a55, a56, a57) =>
  cond (decide (a57 < (x2.1.length : Int)))
   ((idx x2.1 a57).bind fun x63 =>
    (F_parse_reader_take (⟨a51, a55, a56⟩ : T_parse_reader) x63).bind fun x65 =>
   cond (x65.1 != (0 : Int))
    (some (.inr ((⟨(0 : Int), (⟨([] : LB), ([] : LB)⟩ : T_api_Name), ([] : List T_api_Attr), ([] : List T_api_Node), ([] : LB)⟩ : T_api_Node), x63.At, x65.1)))
    (rec60 (a44, a45, a46, a47, a48, a49, x65.2.open_, x65.2.nodes, x65.2.done, (IntKind.wrap .i64 (a57 + (1 : Int))))))
   (some (.inl (a44, a45, a46, a47, a48, a49, a51, a55, a56)))
def F_parse_Parse (p0 : LB) : Option (T_api_Node × Int × Int) :=
   (F_scan_All p0).bind fun x2 =>
  cond (x2.2.2 != (0 : Int))
   (some ((⟨(0 : Int), (⟨([] : LB), ([] : LB)⟩ : T_api_Name), ([] : List T_api_Attr), ([] : List T_api_Node), ([] : LB)⟩ : T_api_Node), x2.2.1, x2.2.2))
   ((F_scope_New ).bind fun x4 =>
   letJ (fun v : Int × LB × LB × (List T_api_Attr) × (List T_api_Node) × LB × (List T_parse_open) × Int × Bool => match v with
    | (a30, a31, a32, a33, a34, a35, a37, a41, a42) =>
    cond (decide ((1 : Int) < (a37.length : Int)))
     ((F_scan_Plain p0).bind fun x70 =>
     some ((⟨(0 : Int), (⟨([] : LB), ([] : LB)⟩ : T_api_Name), ([] : List T_api_Attr), ([] : List T_api_Node), ([] : LB)⟩ : T_api_Node), (x70.length : Int), (26 : Int)))
     (cond (!a42)
      ((F_scan_Plain p0).bind fun x72 =>
      some ((⟨(0 : Int), (⟨([] : LB), ([] : LB)⟩ : T_api_Name), ([] : List T_api_Attr), ([] : List T_api_Node), ([] : LB)⟩ : T_api_Node), (x72.length : Int), (30 : Int)))
      ((topU a37 (0 : Int)).bind fun x73 =>
      some (x73.1.node, (0 : Int), (0 : Int))))) fun J43 =>
    (iter (F_parse_Parse_l0 x2) FUEL ((0 : Int), ([] : LB), ([] : LB), ([] : List T_api_Attr), ([] : List T_api_Node), ([] : LB), [(⟨(⟨(1 : Int), (⟨([] : LB), ([] : LB)⟩ : T_api_Name), ([] : List T_api_Attr), ([] : List T_api_Node), ([] : LB)⟩ : T_api_Node), ([] : LB), x4⟩ : T_parse_open)], (0 : Int), false, (0 : Int))).bind fun o =>
   match o with
   | .inl o1 => J43 o1
   | .inr o1 => some o1)
def F_lecternlaw06_awake : Option (Bool) :=
   (F_parse_Parse ([60, 97, 32, 120, 109, 108, 110, 115, 61, 39, 117, 39, 32, 98, 61, 39, 49, 39, 62, 120, 60, 33, 91, 67, 68, 65, 84, 65, 91, 60, 93, 93, 62, 38, 97, 109, 112, 59, 60, 47, 97, 62] : LB)).bind fun x3 =>
   (F_parse_Parse ([60, 97, 62, 60, 47, 98, 62] : LB)).bind fun x7 =>
   (letJ (fun v14 : Bool => (letJ (fun v18 : Bool => (letJ (fun v22 : Bool => some v22) fun J21 => cond v18 ((idx x3.1.Kids (0 : Int)).bind fun x23 =>
         (idx x23.Kids (0 : Int)).bind fun x24 =>
        J21 (x24.Text == ([120, 60, 38] : LB))) (J21 false))) fun J17 => cond v14 ((idx x3.1.Kids (0 : Int)).bind fun x19 =>
      J17 ((x19.Kids.length : Int) == (1 : Int))) (J17 false))) fun J13 => cond ((((x3.2.2 == (0 : Int)) && (x7.2.2 == (26 : Int))) && (x7.2.1 == (3 : Int))) && ((x3.1.Kids.length : Int) == (1 : Int))) ((idx x3.1.Kids (0 : Int)).bind fun x15 =>
    J13 ((x15.Name.URI == (⟨([117] : LB), ([97] : LB)⟩ : T_api_Name).URI) && ((x15.Name.Local == (⟨([117] : LB), ([97] : LB)⟩ : T_api_Name).Local) && true))) (J13 false))
def F_lecternref01_Read_l0 (p0 : LB) (p1 : Int) (a9 : Int) (rec33 : Int × Int → Option (Int ⊕ (Int × Int))) : Int × Int → Option (Int ⊕ (Int × Int))
  | (a29, a30) =>
  cond (decide (a30 < a9))
   ((idx p0 (IntKind.wrap .i64 (p1 + a30))).bind fun x36 =>
   cond ((decide ((IntKind.wrap .i64 (x36.toNat : Int)) < (128 : Int))) || (decide ((191 : Int) < (IntKind.wrap .i64 (x36.toNat : Int)))))
    (some (.inr ((0 : Int), (0 : Int))))
    (rec33 ((IntKind.wrap .i64 ((IntKind.wrap .i64 ((IntKind.wrap .i64 ((64 : Int) * a29)) + (IntKind.wrap .i64 (x36.toNat : Int)))) - (128 : Int))), (IntKind.wrap .i64 (a30 + (1 : Int))))))
   (some (.inl a29))
def F_lecternref01_Read (p0 : LB) (p1 : Int) : Option (Int × Int) :=
   (idx p0 p1).bind fun x1 =>
  letJ (fun v : Int × Int × Int => match v with
   | (a9, a10, a11) =>
   cond (decide ((p0.length : Int) < (IntKind.wrap .i64 (p1 + a9))))
    (some ((0 : Int), (0 : Int)))
    (letJ (fun a27 : Int =>
     cond (((decide (a27 < a11)) || (decide ((1114111 : Int) < a27))) || ((decide ((55296 : Int) ≤ a27)) && (decide (a27 ≤ (57343 : Int)))))
      (some ((0 : Int), (0 : Int)))
      (some (a27, a9))) fun J28 =>
     (iter (F_lecternref01_Read_l0 p0 p1 a9) FUEL (a10, (1 : Int))).bind fun o =>
    match o with
    | .inl o1 => J28 o1
    | .inr o1 => some o1)) fun J12 =>
  cond (decide ((IntKind.wrap .i64 (x1.toNat : Int)) < (128 : Int)))
   (some ((IntKind.wrap .i64 (x1.toNat : Int)), (1 : Int)))
   (cond ((decide ((192 : Int) ≤ (IntKind.wrap .i64 (x1.toNat : Int)))) && (decide ((IntKind.wrap .i64 (x1.toNat : Int)) < (224 : Int))))
    (J12 ((2 : Int), (IntKind.wrap .i64 ((IntKind.wrap .i64 (x1.toNat : Int)) - (192 : Int))), (128 : Int)))
    (cond ((decide ((224 : Int) ≤ (IntKind.wrap .i64 (x1.toNat : Int)))) && (decide ((IntKind.wrap .i64 (x1.toNat : Int)) < (240 : Int))))
     (J12 ((3 : Int), (IntKind.wrap .i64 ((IntKind.wrap .i64 (x1.toNat : Int)) - (224 : Int))), (2048 : Int)))
     (cond ((decide ((240 : Int) ≤ (IntKind.wrap .i64 (x1.toNat : Int)))) && (decide ((IntKind.wrap .i64 (x1.toNat : Int)) < (248 : Int))))
      (J12 ((4 : Int), (IntKind.wrap .i64 ((IntKind.wrap .i64 (x1.toNat : Int)) - (240 : Int))), (65536 : Int)))
      (some ((0 : Int), (0 : Int))))))
def F_lecternref01_Start (p0 : Int) : Option (Bool) :=
  letJ (fun a5 : Bool =>
   cond a5
    (some true)
    (cond ((decide ((192 : Int) ≤ p0)) && (decide (p0 ≤ (767 : Int))))
     (some ((p0 != (215 : Int)) && (p0 != (247 : Int))))
     (cond ((decide ((880 : Int) ≤ p0)) && (decide (p0 ≤ (8191 : Int))))
      (some (p0 != (894 : Int)))
      (letJ (fun a18 : Bool =>
       cond a18
        (some true)
        (letJ (fun a27 : Bool =>
         cond a27
          (some true)
          (cond ((decide ((63744 : Int) ≤ p0)) && (decide (p0 ≤ (65533 : Int))))
           (some ((decide (p0 < (64976 : Int))) || (decide ((65008 : Int) ≤ p0))))
           (some ((decide ((65536 : Int) ≤ p0)) && (decide (p0 ≤ (983039 : Int))))))) fun J28 =>
        cond ((decide ((8304 : Int) ≤ p0)) && (decide (p0 ≤ (8591 : Int))))
         (J28 ((decide ((8304 : Int) ≤ p0)) && (decide (p0 ≤ (8591 : Int)))))
         (cond ((decide ((11264 : Int) ≤ p0)) && (decide (p0 ≤ (12271 : Int))))
          (J28 ((decide ((11264 : Int) ≤ p0)) && (decide (p0 ≤ (12271 : Int)))))
          (J28 ((decide ((12289 : Int) ≤ p0)) && (decide (p0 ≤ (55295 : Int)))))))) fun J19 =>
      cond (p0 == (8204 : Int))
       (J19 (p0 == (8204 : Int)))
       (J19 (p0 == (8205 : Int))))))) fun J6 =>
  cond ((decide ((65 : Int) ≤ p0)) && (decide (p0 ≤ (90 : Int))))
   (J6 ((decide ((65 : Int) ≤ p0)) && (decide (p0 ≤ (90 : Int)))))
   (cond (p0 == (95 : Int))
    (J6 (p0 == (95 : Int)))
    (J6 ((decide ((97 : Int) ≤ p0)) && (decide (p0 ≤ (122 : Int))))))
def F_lecternref01_Part (p0 : Int) : Option (Bool) :=
   (F_lecternref01_Start p0).bind fun x1 =>
  some (((((((x1 || (p0 == (45 : Int))) || (p0 == (46 : Int))) || ((decide ((48 : Int) ≤ p0)) && (decide (p0 ≤ (57 : Int))))) || (p0 == (183 : Int))) || ((decide ((768 : Int) ≤ p0)) && (decide (p0 ≤ (879 : Int))))) || (p0 == (8255 : Int))) || (p0 == (8256 : Int)))
def F_lecternref01_Name_l0 (p0 : LB) (rec22 : Int → Option (Unit ⊕ Bool)) (a19 : Int) : Option (Unit ⊕ Bool) :=
  cond (decide (a19 < (p0.length : Int)))
   ((F_lecternref01_Read p0 a19).bind fun x25 =>
    (letJ (fun v28 : Bool => (letJ (fun v32 : Bool => cond v32
        (some (.inr false))
        (rec22 (IntKind.wrap .i64 (a19 + x25.2)))) fun J31 => cond v28 (J31 true) ((letJ (fun v35 : Bool => J31 v35) fun J34 => cond (a19 == (0 : Int)) ((F_lecternref01_Start x25.1).bind fun x36 =>
         J34 (!x36)) (J34 false))))) fun J27 => cond (x25.2 == (0 : Int)) (J27 true) ((F_lecternref01_Part x25.1).bind fun x29 =>
     J27 (!x29))))
   (some (.inl ()))
def F_lecternref01_Name (p0 : LB) : Option (Bool) :=
  cond (((p0.length : Int) == (0 : Int)) || (decide ((100 : Int) < (p0.length : Int))))
   (some false)
   (letJ (fun _ : Unit =>
    some true) fun J18 =>
    (iter (F_lecternref01_Name_l0 p0) FUEL (0 : Int)).bind fun o =>
   match o with
   | .inl o1 => J18 o1
   | .inr o1 => some o1)
def F_lecternref02_written_l1 (p0 : LB) (p1 : LB) (p2 : List LB) (a60 : Int) (rec113 : LB × Int → Option ((LB))) : LB × Int → Option ((LB))
  | (a109, a110) =>
  cond (decide (a110 < (p1.length : Int)))
   (letJ (fun a120 : LB =>
    rec113 (a120, (IntKind.wrap .i64 (a110 + (1 : Int))))) fun J121 =>
    (idx p0 a60).bind fun x122 =>
    (idx p1 a110).bind fun x123 =>
   cond ((x122.toNat : Int) == (x123.toNat : Int))
    ((idxN 6 p2 a110).bind fun x125 =>
    J121 x125)
    (J121 a109))
   (some a109)
def F_lecternref02_written_l0 (p0 : LB) (p1 : LB) (p2 : List LB) (rec63 : LB × Int → Option ((LB))) : LB × Int → Option ((LB))
  | (a59, a60) =>
  cond (decide (a60 < (p0.length : Int)))
   (letJ (fun a92 : LB =>
    rec63 (a92, (IntKind.wrap .i64 (a60 + (1 : Int))))) fun J93 =>
    (slc p0 a60 (IntKind.wrap .i64 (a60 + (1 : Int)))).bind fun x94 =>
   letJ (fun a107 : LB =>
     (cat a59 a107).bind fun _ =>
    J93 (a59 ++ a107)) fun J108 =>
    (iter (F_lecternref02_written_l1 p0 p1 p2 a60) FUEL (x94, (0 : Int))).bind fun o =>
   J108 o)
   (some a59)
def F_lecternref02_written (p0 : LB) (p1 : LB) (p2 : List LB) : Option (LB) :=
  letJ (fun a57 : LB =>
   some a57) fun J58 =>
   (iter (F_lecternref02_written_l0 p0 p1 p2) FUEL (([] : LB), (0 : Int))).bind fun o =>
  J58 o
def F_lecternref02_Quote (p0 : LB) : Option (LB) :=
   (F_lecternref02_written p0 ([38, 60, 34, 9, 10, 13] : LB) ([([38, 97, 109, 112, 59] : LB), ([38, 108, 116, 59] : LB), ([38, 113, 117, 111, 116, 59] : LB), ([38, 35, 57, 59] : LB), ([38, 35, 49, 48, 59] : LB), ([38, 35, 49, 51, 59] : LB)] : List LB)).bind fun x1 =>
  some x1
def F_lecternref04_SameAttrs_l0 (p0 : List T_api_Attr) (p1 : List T_api_Attr) (rec11 : Int → Option (Unit ⊕ Bool)) (a8 : Int) : Option (Unit ⊕ Bool) :=
  cond (decide (a8 < (p0.length : Int)))
   ((idx p0 a8).bind fun x14 =>
    (idx p1 a8).bind fun x15 =>
   cond (!(((x14.Name.URI == x15.Name.URI) && ((x14.Name.Local == x15.Name.Local) && true)) && ((x14.Value == x15.Value) && true)))
    (some (.inr false))
    (rec11 (IntKind.wrap .i64 (a8 + (1 : Int)))))
   (some (.inl ()))
def F_lecternref04_SameAttrs (p0 : List T_api_Attr) (p1 : List T_api_Attr) : Option (Bool) :=
  cond ((p0.length : Int) != (p1.length : Int))
   (some false)
   (letJ (fun _ : Unit =>
    some true) fun J7 =>
    (iter (F_lecternref04_SameAttrs_l0 p0 p1) FUEL (0 : Int)).bind fun o =>
   match o with
   | .inl o1 => J7 o1
   | .inr o1 => some o1)
def F_lecternref05_Same_l0 (p0 : T_api_Node) (p1 : T_api_Node) (rec0 : T_api_Node × T_api_Node → Option (Bool)) (rec19 : Int → Option (Unit ⊕ Bool)) (a16 : Int) : Option (Unit ⊕ Bool) :=
  cond (decide (a16 < (p0.Kids.length : Int)))
   ((idx p0.Kids a16).bind fun x22 =>
    (idx p1.Kids a16).bind fun x23 =>
    (rec0 (x22, x23)).bind fun x24 =>
   cond (!x24)
    (some (.inr false))
    (rec19 (IntKind.wrap .i64 (a16 + (1 : Int)))))
   (some (.inl ()))
def F_lecternref05_Same_b (rec0 : T_api_Node × T_api_Node → Option (Bool)) : T_api_Node × T_api_Node → Option (Bool)
  | (p0, p1) =>
   (letJ (fun v5 : Bool => cond (v5 || ((p0.Kids.length : Int) != (p1.Kids.length : Int)))
     (some false)
     (letJ (fun _ : Unit =>
      some true) fun J15 =>
      (iter (F_lecternref05_Same_l0 p0 p1 rec0) FUEL (0 : Int)).bind fun o =>
     match o with
     | .inl o1 => J15 o1
     | .inr o1 => some o1)) fun J4 => cond (((p0.Kind != p1.Kind) || (!((p0.Name.URI == p1.Name.URI) && ((p0.Name.Local == p1.Name.Local) && true)))) || (!(p0.Text == p1.Text))) (J4 true) ((F_lecternref04_SameAttrs p0.Attrs p1.Attrs).bind fun x6 =>
    J4 (!x6)))
def F_lecternref05_Same (p0 : T_api_Node) (p1 : T_api_Node) : Option (Bool) := iter F_lecternref05_Same_b FUEL (p0, p1)
def F_lecternlaw06_ParsePrefixes (p0 : LB) (p1 : LB) (p2 : LB) (p3 : LB) : Option (Bool) :=
   (F_lecternlaw06_awake ).bind fun x1 =>
  cond (!x1)
   (some false)
   ((F_lecternref01_Name p0).bind fun x3 =>
    (letJ (fun v6 : Bool => (letJ (fun v10 : Bool => cond ((((v10 || (p0 == ([120, 109, 108] : LB))) || (p1 == ([120, 109, 108] : LB))) || (p0 == ([120, 109, 108, 110, 115] : LB))) || (p1 == ([120, 109, 108, 110, 115] : LB)))
        (some true)
        ((F_lecternref02_Quote p3).bind fun x17 =>
         (cat ([60] : LB) p0).bind fun _ =>
         (cat (([60] : LB) ++ p0) ([58] : LB)).bind fun _ =>
         (cat ((([60] : LB) ++ p0) ++ ([58] : LB)) p2).bind fun _ =>
         (cat (((([60] : LB) ++ p0) ++ ([58] : LB)) ++ p2) ([32, 120, 109, 108, 110, 115, 58] : LB)).bind fun _ =>
         (cat ((((([60] : LB) ++ p0) ++ ([58] : LB)) ++ p2) ++ ([32, 120, 109, 108, 110, 115, 58] : LB)) p0).bind fun _ =>
         (cat (((((([60] : LB) ++ p0) ++ ([58] : LB)) ++ p2) ++ ([32, 120, 109, 108, 110, 115, 58] : LB)) ++ p0) ([61, 34] : LB)).bind fun _ =>
         (cat ((((((([60] : LB) ++ p0) ++ ([58] : LB)) ++ p2) ++ ([32, 120, 109, 108, 110, 115, 58] : LB)) ++ p0) ++ ([61, 34] : LB)) x17).bind fun _ =>
         (cat (((((((([60] : LB) ++ p0) ++ ([58] : LB)) ++ p2) ++ ([32, 120, 109, 108, 110, 115, 58] : LB)) ++ p0) ++ ([61, 34] : LB)) ++ x17) ([34, 32] : LB)).bind fun _ =>
         (cat ((((((((([60] : LB) ++ p0) ++ ([58] : LB)) ++ p2) ++ ([32, 120, 109, 108, 110, 115, 58] : LB)) ++ p0) ++ ([61, 34] : LB)) ++ x17) ++ ([34, 32] : LB)) p0).bind fun _ =>
         (cat (((((((((([60] : LB) ++ p0) ++ ([58] : LB)) ++ p2) ++ ([32, 120, 109, 108, 110, 115, 58] : LB)) ++ p0) ++ ([61, 34] : LB)) ++ x17) ++ ([34, 32] : LB)) ++ p0) ([58, 120, 61, 39, 49, 39, 62, 60] : LB)).bind fun _ =>
         (cat ((((((((((([60] : LB) ++ p0) ++ ([58] : LB)) ++ p2) ++ ([32, 120, 109, 108, 110, 115, 58] : LB)) ++ p0) ++ ([61, 34] : LB)) ++ x17) ++ ([34, 32] : LB)) ++ p0) ++ ([58, 120, 61, 39, 49, 39, 62, 60] : LB)) p0).bind fun _ =>
         (cat (((((((((((([60] : LB) ++ p0) ++ ([58] : LB)) ++ p2) ++ ([32, 120, 109, 108, 110, 115, 58] : LB)) ++ p0) ++ ([61, 34] : LB)) ++ x17) ++ ([34, 32] : LB)) ++ p0) ++ ([58, 120, 61, 39, 49, 39, 62, 60] : LB)) ++ p0) ([58, 98, 47, 62, 60, 47] : LB)).bind fun _ =>
         (cat ((((((((((((([60] : LB) ++ p0) ++ ([58] : LB)) ++ p2) ++ ([32, 120, 109, 108, 110, 115, 58] : LB)) ++ p0) ++ ([61, 34] : LB)) ++ x17) ++ ([34, 32] : LB)) ++ p0) ++ ([58, 120, 61, 39, 49, 39, 62, 60] : LB)) ++ p0) ++ ([58, 98, 47, 62, 60, 47] : LB)) p0).bind fun _ =>
         (cat (((((((((((((([60] : LB) ++ p0) ++ ([58] : LB)) ++ p2) ++ ([32, 120, 109, 108, 110, 115, 58] : LB)) ++ p0) ++ ([61, 34] : LB)) ++ x17) ++ ([34, 32] : LB)) ++ p0) ++ ([58, 120, 61, 39, 49, 39, 62, 60] : LB)) ++ p0) ++ ([58, 98, 47, 62, 60, 47] : LB)) ++ p0) ([58] : LB)).bind fun _ =>
         (cat ((((((((((((((([60] : LB) ++ p0) ++ ([58] : LB)) ++ p2) ++ ([32, 120, 109, 108, 110, 115, 58] : LB)) ++ p0) ++ ([61, 34] : LB)) ++ x17) ++ ([34, 32] : LB)) ++ p0) ++ ([58, 120, 61, 39, 49, 39, 62, 60] : LB)) ++ p0) ++ ([58, 98, 47, 62, 60, 47] : LB)) ++ p0) ++ ([58] : LB)) p2).bind fun _ =>
         (cat (((((((((((((((([60] : LB) ++ p0) ++ ([58] : LB)) ++ p2) ++ ([32, 120, 109, 108, 110, 115, 58] : LB)) ++ p0) ++ ([61, 34] : LB)) ++ x17) ++ ([34, 32] : LB)) ++ p0) ++ ([58, 120, 61, 39, 49, 39, 62, 60] : LB)) ++ p0) ++ ([58, 98, 47, 62, 60, 47] : LB)) ++ p0) ++ ([58] : LB)) ++ p2) ([62] : LB)).bind fun _ =>
         (F_parse_Parse ((((((((((((((((([60] : LB) ++ p0) ++ ([58] : LB)) ++ p2) ++ ([32, 120, 109, 108, 110, 115, 58] : LB)) ++ p0) ++ ([61, 34] : LB)) ++ x17) ++ ([34, 32] : LB)) ++ p0) ++ ([58, 120, 61, 39, 49, 39, 62, 60] : LB)) ++ p0) ++ ([58, 98, 47, 62, 60, 47] : LB)) ++ p0) ++ ([58] : LB)) ++ p2) ++ ([62] : LB))).bind fun x18 =>
         (cat ([60] : LB) p2).bind fun _ =>
         (cat (([60] : LB) ++ p2) ([32, 120, 109, 108, 110, 115, 61, 34] : LB)).bind fun _ =>
         (cat ((([60] : LB) ++ p2) ++ ([32, 120, 109, 108, 110, 115, 61, 34] : LB)) x17).bind fun _ =>
         (cat (((([60] : LB) ++ p2) ++ ([32, 120, 109, 108, 110, 115, 61, 34] : LB)) ++ x17) ([34, 32, 120, 109, 108, 110, 115, 58] : LB)).bind fun _ =>
         (cat ((((([60] : LB) ++ p2) ++ ([32, 120, 109, 108, 110, 115, 61, 34] : LB)) ++ x17) ++ ([34, 32, 120, 109, 108, 110, 115, 58] : LB)) p1).bind fun _ =>
         (cat (((((([60] : LB) ++ p2) ++ ([32, 120, 109, 108, 110, 115, 61, 34] : LB)) ++ x17) ++ ([34, 32, 120, 109, 108, 110, 115, 58] : LB)) ++ p1) ([61, 34] : LB)).bind fun _ =>
         (cat ((((((([60] : LB) ++ p2) ++ ([32, 120, 109, 108, 110, 115, 61, 34] : LB)) ++ x17) ++ ([34, 32, 120, 109, 108, 110, 115, 58] : LB)) ++ p1) ++ ([61, 34] : LB)) x17).bind fun _ =>
         (cat (((((((([60] : LB) ++ p2) ++ ([32, 120, 109, 108, 110, 115, 61, 34] : LB)) ++ x17) ++ ([34, 32, 120, 109, 108, 110, 115, 58] : LB)) ++ p1) ++ ([61, 34] : LB)) ++ x17) ([34, 32] : LB)).bind fun _ =>
         (cat ((((((((([60] : LB) ++ p2) ++ ([32, 120, 109, 108, 110, 115, 61, 34] : LB)) ++ x17) ++ ([34, 32, 120, 109, 108, 110, 115, 58] : LB)) ++ p1) ++ ([61, 34] : LB)) ++ x17) ++ ([34, 32] : LB)) p1).bind fun _ =>
         (cat (((((((((([60] : LB) ++ p2) ++ ([32, 120, 109, 108, 110, 115, 61, 34] : LB)) ++ x17) ++ ([34, 32, 120, 109, 108, 110, 115, 58] : LB)) ++ p1) ++ ([61, 34] : LB)) ++ x17) ++ ([34, 32] : LB)) ++ p1) ([58, 120, 61, 39, 49, 39, 62, 60] : LB)).bind fun _ =>
         (cat ((((((((((([60] : LB) ++ p2) ++ ([32, 120, 109, 108, 110, 115, 61, 34] : LB)) ++ x17) ++ ([34, 32, 120, 109, 108, 110, 115, 58] : LB)) ++ p1) ++ ([61, 34] : LB)) ++ x17) ++ ([34, 32] : LB)) ++ p1) ++ ([58, 120, 61, 39, 49, 39, 62, 60] : LB)) p1).bind fun _ =>
         (cat (((((((((((([60] : LB) ++ p2) ++ ([32, 120, 109, 108, 110, 115, 61, 34] : LB)) ++ x17) ++ ([34, 32, 120, 109, 108, 110, 115, 58] : LB)) ++ p1) ++ ([61, 34] : LB)) ++ x17) ++ ([34, 32] : LB)) ++ p1) ++ ([58, 120, 61, 39, 49, 39, 62, 60] : LB)) ++ p1) ([58, 98, 62, 60, 47] : LB)).bind fun _ =>
         (cat ((((((((((((([60] : LB) ++ p2) ++ ([32, 120, 109, 108, 110, 115, 61, 34] : LB)) ++ x17) ++ ([34, 32, 120, 109, 108, 110, 115, 58] : LB)) ++ p1) ++ ([61, 34] : LB)) ++ x17) ++ ([34, 32] : LB)) ++ p1) ++ ([58, 120, 61, 39, 49, 39, 62, 60] : LB)) ++ p1) ++ ([58, 98, 62, 60, 47] : LB)) p1).bind fun _ =>
         (cat (((((((((((((([60] : LB) ++ p2) ++ ([32, 120, 109, 108, 110, 115, 61, 34] : LB)) ++ x17) ++ ([34, 32, 120, 109, 108, 110, 115, 58] : LB)) ++ p1) ++ ([61, 34] : LB)) ++ x17) ++ ([34, 32] : LB)) ++ p1) ++ ([58, 120, 61, 39, 49, 39, 62, 60] : LB)) ++ p1) ++ ([58, 98, 62, 60, 47] : LB)) ++ p1) ([58, 98, 32, 62, 60, 47] : LB)).bind fun _ =>
         (cat ((((((((((((((([60] : LB) ++ p2) ++ ([32, 120, 109, 108, 110, 115, 61, 34] : LB)) ++ x17) ++ ([34, 32, 120, 109, 108, 110, 115, 58] : LB)) ++ p1) ++ ([61, 34] : LB)) ++ x17) ++ ([34, 32] : LB)) ++ p1) ++ ([58, 120, 61, 39, 49, 39, 62, 60] : LB)) ++ p1) ++ ([58, 98, 62, 60, 47] : LB)) ++ p1) ++ ([58, 98, 32, 62, 60, 47] : LB)) p2).bind fun _ =>
         (cat (((((((((((((((([60] : LB) ++ p2) ++ ([32, 120, 109, 108, 110, 115, 61, 34] : LB)) ++ x17) ++ ([34, 32, 120, 109, 108, 110, 115, 58] : LB)) ++ p1) ++ ([61, 34] : LB)) ++ x17) ++ ([34, 32] : LB)) ++ p1) ++ ([58, 120, 61, 39, 49, 39, 62, 60] : LB)) ++ p1) ++ ([58, 98, 62, 60, 47] : LB)) ++ p1) ++ ([58, 98, 32, 62, 60, 47] : LB)) ++ p2) ([62] : LB)).bind fun _ =>
         (F_parse_Parse ((((((((((((((((([60] : LB) ++ p2) ++ ([32, 120, 109, 108, 110, 115, 61, 34] : LB)) ++ x17) ++ ([34, 32, 120, 109, 108, 110, 115, 58] : LB)) ++ p1) ++ ([61, 34] : LB)) ++ x17) ++ ([34, 32] : LB)) ++ p1) ++ ([58, 120, 61, 39, 49, 39, 62, 60] : LB)) ++ p1) ++ ([58, 98, 62, 60, 47] : LB)) ++ p1) ++ ([58, 98, 32, 62, 60, 47] : LB)) ++ p2) ++ ([62] : LB))).bind fun x20 =>
         (cat ([60] : LB) p0).bind fun _ =>
         (cat (([60] : LB) ++ p0) ([58] : LB)).bind fun _ =>
         (cat ((([60] : LB) ++ p0) ++ ([58] : LB)) p2).bind fun _ =>
         (cat (((([60] : LB) ++ p0) ++ ([58] : LB)) ++ p2) ([32] : LB)).bind fun _ =>
         (cat ((((([60] : LB) ++ p0) ++ ([58] : LB)) ++ p2) ++ ([32] : LB)) p0).bind fun _ =>
         (cat (((((([60] : LB) ++ p0) ++ ([58] : LB)) ++ p2) ++ ([32] : LB)) ++ p0) ([58, 120, 61, 39, 49, 39, 32, 120, 109, 108, 110, 115, 58] : LB)).bind fun _ =>
         (cat ((((((([60] : LB) ++ p0) ++ ([58] : LB)) ++ p2) ++ ([32] : LB)) ++ p0) ++ ([58, 120, 61, 39, 49, 39, 32, 120, 109, 108, 110, 115, 58] : LB)) p0).bind fun _ =>
         (cat (((((((([60] : LB) ++ p0) ++ ([58] : LB)) ++ p2) ++ ([32] : LB)) ++ p0) ++ ([58, 120, 61, 39, 49, 39, 32, 120, 109, 108, 110, 115, 58] : LB)) ++ p0) ([61, 34] : LB)).bind fun _ =>
         (cat ((((((((([60] : LB) ++ p0) ++ ([58] : LB)) ++ p2) ++ ([32] : LB)) ++ p0) ++ ([58, 120, 61, 39, 49, 39, 32, 120, 109, 108, 110, 115, 58] : LB)) ++ p0) ++ ([61, 34] : LB)) x17).bind fun _ =>
         (cat (((((((((([60] : LB) ++ p0) ++ ([58] : LB)) ++ p2) ++ ([32] : LB)) ++ p0) ++ ([58, 120, 61, 39, 49, 39, 32, 120, 109, 108, 110, 115, 58] : LB)) ++ p0) ++ ([61, 34] : LB)) ++ x17) ([34, 62, 60, 98, 32, 120, 109, 108, 110, 115, 61, 34] : LB)).bind fun _ =>
         (cat ((((((((((([60] : LB) ++ p0) ++ ([58] : LB)) ++ p2) ++ ([32] : LB)) ++ p0) ++ ([58, 120, 61, 39, 49, 39, 32, 120, 109, 108, 110, 115, 58] : LB)) ++ p0) ++ ([61, 34] : LB)) ++ x17) ++ ([34, 62, 60, 98, 32, 120, 109, 108, 110, 115, 61, 34] : LB)) x17).bind fun _ =>
         (cat (((((((((((([60] : LB) ++ p0) ++ ([58] : LB)) ++ p2) ++ ([32] : LB)) ++ p0) ++ ([58, 120, 61, 39, 49, 39, 32, 120, 109, 108, 110, 115, 58] : LB)) ++ p0) ++ ([61, 34] : LB)) ++ x17) ++ ([34, 62, 60, 98, 32, 120, 109, 108, 110, 115, 61, 34] : LB)) ++ x17) ([34, 47, 62, 60, 47] : LB)).bind fun _ =>
         (cat ((((((((((((([60] : LB) ++ p0) ++ ([58] : LB)) ++ p2) ++ ([32] : LB)) ++ p0) ++ ([58, 120, 61, 39, 49, 39, 32, 120, 109, 108, 110, 115, 58] : LB)) ++ p0) ++ ([61, 34] : LB)) ++ x17) ++ ([34, 62, 60, 98, 32, 120, 109, 108, 110, 115, 61, 34] : LB)) ++ x17) ++ ([34, 47, 62, 60, 47] : LB)) p0).bind fun _ =>
         (cat (((((((((((((([60] : LB) ++ p0) ++ ([58] : LB)) ++ p2) ++ ([32] : LB)) ++ p0) ++ ([58, 120, 61, 39, 49, 39, 32, 120, 109, 108, 110, 115, 58] : LB)) ++ p0) ++ ([61, 34] : LB)) ++ x17) ++ ([34, 62, 60, 98, 32, 120, 109, 108, 110, 115, 61, 34] : LB)) ++ x17) ++ ([34, 47, 62, 60, 47] : LB)) ++ p0) ([58] : LB)).bind fun _ =>
         (cat ((((((((((((((([60] : LB) ++ p0) ++ ([58] : LB)) ++ p2) ++ ([32] : LB)) ++ p0) ++ ([58, 120, 61, 39, 49, 39, 32, 120, 109, 108, 110, 115, 58] : LB)) ++ p0) ++ ([61, 34] : LB)) ++ x17) ++ ([34, 62, 60, 98, 32, 120, 109, 108, 110, 115, 61, 34] : LB)) ++ x17) ++ ([34, 47, 62, 60, 47] : LB)) ++ p0) ++ ([58] : LB)) p2).bind fun _ =>
         (cat (((((((((((((((([60] : LB) ++ p0) ++ ([58] : LB)) ++ p2) ++ ([32] : LB)) ++ p0) ++ ([58, 120, 61, 39, 49, 39, 32, 120, 109, 108, 110, 115, 58] : LB)) ++ p0) ++ ([61, 34] : LB)) ++ x17) ++ ([34, 62, 60, 98, 32, 120, 109, 108, 110, 115, 61, 34] : LB)) ++ x17) ++ ([34, 47, 62, 60, 47] : LB)) ++ p0) ++ ([58] : LB)) ++ p2) ([62] : LB)).bind fun _ =>
         (F_parse_Parse ((((((((((((((((([60] : LB) ++ p0) ++ ([58] : LB)) ++ p2) ++ ([32] : LB)) ++ p0) ++ ([58, 120, 61, 39, 49, 39, 32, 120, 109, 108, 110, 115, 58] : LB)) ++ p0) ++ ([61, 34] : LB)) ++ x17) ++ ([34, 62, 60, 98, 32, 120, 109, 108, 110, 115, 61, 34] : LB)) ++ x17) ++ ([34, 47, 62, 60, 47] : LB)) ++ p0) ++ ([58] : LB)) ++ p2) ++ ([62] : LB))).bind fun x22 =>
        cond (x18.2.2 != (0 : Int))
         (some ((x20.2.2 != (0 : Int)) && (x22.2.2 != (0 : Int))))
         ((letJ (fun v29 : Bool => (letJ (fun v33 : Bool => (letJ (fun v37 : Bool => some v37) fun J36 => cond v33 ((idx x18.1.Kids (0 : Int)).bind fun x38 =>
               J36 (x38.Name.URI == p3)) (J36 false))) fun J32 => cond v29 ((F_lecternref05_Same x18.1 x22.1).bind fun x34 =>
             J32 x34) (J32 false))) fun J28 => cond ((x20.2.2 == (0 : Int)) && (x22.2.2 == (0 : Int))) ((F_lecternref05_Same x18.1 x20.1).bind fun x30 =>
           J28 x30) (J28 false))))) fun J9 => cond v6 (J9 true) ((F_lecternref01_Name p2).bind fun x11 =>
       J9 (!x11)))) fun J5 => cond (!x3) (J5 true) ((F_lecternref01_Name p1).bind fun x7 =>
     J5 (!x7))))
end Go.Proofs.YtilhbalhkljanaaGreatDoor
