/- The plain functions. No condition. -/
import Derived.Test.YtfokkdofcekdbaaDoorEng31
import Derived.Test.YtfokkdofcekdbaaDoorLg03
set_option linter.unusedVariables false
set_option linter.unusedSimpArgs false
set_option maxRecDepth 20000
set_option maxHeartbeats 8000000
namespace Go.Proofs.YtfokkdofcekdbaaDoor
structure T_char_span where
  lo : Int
  hi : Int
  deriving DecidableEq, Inhabited
def c_T_char_span (x : T_char_span) : List D := [.int .i32 x.lo, .int .i32 x.hi]
structure T_scan_scanner where
  b : List UInt8
  at_ : Int
  deriving DecidableEq, Inhabited
def c_T_scan_scanner (x : T_scan_scanner) : List D := [.sl 1 (List.map c_u8 x.b) 0, .int .i64 x.at_]
structure T_scan_Pair where
  Name : List UInt8
  Value : List UInt8
  deriving DecidableEq, Inhabited
def c_T_scan_Pair (x : T_scan_Pair) : List D := [.str x.Name, .str x.Value]
structure T_scan_Token where
  Kind : Int
  At : Int
  Name : List UInt8
  Pairs : List T_scan_Pair
  Text : List UInt8
  Refs : Int
  deriving DecidableEq, Inhabited
def c_T_scan_Token (x : T_scan_Token) : List D := [.int .i64 x.Kind, .int .i64 x.At, .str x.Name, .sl 2 (List.map c_T_scan_Pair x.Pairs) 0, .str x.Text, .int .i64 x.Refs]
structure T_lecternref03_Token where
  Kind : Int
  At : Int
  Name : List UInt8
  Pairs : List T_scan_Pair
  Text : List UInt8
  Refs : Int
  deriving DecidableEq, Inhabited
def c_T_lecternref03_Token (x : T_lecternref03_Token) : List D := [.int .i64 x.Kind, .int .i64 x.At, .str x.Name, .sl 2 (List.map c_T_scan_Pair x.Pairs) 0, .str x.Text, .int .i64 x.Refs]
def F_bytes_Equal (p0 : List UInt8) (p1 : List UInt8) : Option (Bool) :=
  some (p0 == p1)
def F_bytes_HasPrefix (p0 : List UInt8) (p1 : List UInt8) : Option (Bool) :=
   (letJ (fun v3 : Bool => some v3) fun J2 => cond (decide ((p1.length : Int) ≤ (p0.length : Int))) ((slc p0 (0 : Int) (p1.length : Int)).bind fun x4 =>
     (F_bytes_Equal x4 p1).bind fun x5 =>
    J2 x5) (J2 false))
def F_bytes_TrimPrefix (p0 : List UInt8) (p1 : List UInt8) : Option ((List UInt8)) :=
   (F_bytes_HasPrefix p0 p1).bind fun x1 =>
  cond x1
   ((slc p0 (p1.length : Int) (p0.length : Int)).bind fun x3 =>
   some x3)
   (some p0)
def F_char_Lines_l0 (p0 : List UInt8) (rec55 : (List UInt8) × Int → Option (((List UInt8)))) : (List UInt8) × Int → Option (((List UInt8)))
  | (a51, a52) =>
  cond (decide (a52 < (p0.length : Int)))
   (letJ (fun a78 : List UInt8 =>
    rec55 (a78, (IntKind.wrap .i64 (a52 + (1 : Int))))) fun J79 =>
    (idx p0 a52).bind fun x80 =>
   letJ (fun a88 : Int =>
     (u8 a88).bind fun b97 =>
     (app 1 a51 [b97]).bind fun _ =>
     (some (a51 ++ [b97])).bind fun a99 =>
    J79 a99) fun J89 =>
    (letJ (fun v93 : Bool => cond v93
      (J79 a51)
      (cond ((x80.toNat : Int) == (13 : Int))
       (J89 (10 : Int))
       (J89 (x80.toNat : Int)))) fun J92 => cond (((x80.toNat : Int) == (10 : Int)) && (decide ((0 : Int) < a52))) ((idx p0 (IntKind.wrap .i64 (a52 - (1 : Int)))).bind fun x94 =>
     J92 ((x94.toNat : Int) == (13 : Int))) (J92 false)))
   (some a51)
def F_char_Lines (p0 : List UInt8) : Option ((List UInt8)) :=
   (mkG 1 (0 : Int) (p0.length : Int)).bind fun _ =>
   (some (List.replicate (Int.toNat (0 : Int)) (0 : UInt8))).bind fun a2 =>
  letJ (fun a48 : List UInt8 =>
   some a48) fun J49 =>
   (iter (F_char_Lines_l0 p0) FUEL (a2, (0 : Int))).bind fun o =>
  J49 o
def F_scan_Plain (p0 : List UInt8) : Option ((List UInt8)) :=
   (u8 (239 : Int)).bind fun b1 =>
   (u8 (187 : Int)).bind fun b2 =>
   (u8 (191 : Int)).bind fun b3 =>
   (F_bytes_TrimPrefix p0 ([b1, b2, b3])).bind fun x4 =>
   (F_char_Lines x4).bind fun x5 =>
  some x5
def F_char_in_l0 (p0 : Int) (p1 : List T_char_span) (rec10 : Int → Option (Unit ⊕ Bool)) (a7 : Int) : Option (Unit ⊕ Bool) :=
  cond (decide (a7 < (p1.length : Int)))
   ((idx p1 a7).bind fun x13 =>
   cond (decide (p0 ≤ x13.hi))
    (some (.inr (decide (x13.lo ≤ p0))))
    (rec10 (IntKind.wrap .i64 (a7 + (1 : Int)))))
   (some (.inl ()))
def F_char_in (p0 : Int) (p1 : List T_char_span) : Option (Bool) :=
  letJ (fun _ : Unit =>
   some false) fun J6 =>
   (iter (F_char_in_l0 p0 p1) FUEL (0 : Int)).bind fun o =>
  match o with
  | .inl o1 => J6 o1
  | .inr o1 => some o1
def F_char_IsChar (p0 : Int) : Option (Bool) :=
   (letJ (fun v5 : Bool => some v5) fun J4 => cond (((p0 == (9 : Int)) || (p0 == (10 : Int))) || (p0 == (13 : Int))) (J4 true) ((F_char_in p0 ([(⟨(32 : Int), (55295 : Int)⟩ : T_char_span), (⟨(57344 : Int), (65533 : Int)⟩ : T_char_span), (⟨(65536 : Int), (1114111 : Int)⟩ : T_char_span)])).bind fun x6 =>
    J4 x6))
def F_char_Next (p0 : List UInt8) (p1 : Int) : Option (Int × Int × Int) :=
  cond ((decide (p1 < (0 : Int))) || (decide ((p0.length : Int) ≤ p1)))
   (some ((0 : Int), (0 : Int), (1 : Int)))
   ((slc p0 p1 (p0.length : Int)).bind fun x3 =>
    (L_DecodeRune x3).bind fun x4 =>
   cond ((x4.1 == (65533 : Int)) && (decide (x4.2 < (3 : Int))))
    (some ((0 : Int), (0 : Int), (20 : Int)))
    ((F_char_IsChar x4.1).bind fun x7 =>
    cond (!x7)
     (some ((0 : Int), (0 : Int), (21 : Int)))
     (some (x4.1, (IntKind.wrap .i64 (p1 + x4.2)), (0 : Int)))))
def F_char_Fault_l0 (p0 : List UInt8) (rec9 : Int → Option (Unit ⊕ (Int × Int))) (a6 : Int) : Option (Unit ⊕ (Int × Int)) :=
  cond (decide (a6 < (p0.length : Int)))
   ((F_char_Next p0 a6).bind fun x12 =>
   cond (x12.2.2 != (0 : Int))
    (some (.inr (a6, x12.2.2)))
    (rec9 x12.2.1))
   (some (.inl ()))
def F_char_Fault (p0 : List UInt8) : Option (Int × Int) :=
  letJ (fun _ : Unit =>
   some ((0 : Int), (0 : Int))) fun J5 =>
   (iter (F_char_Fault_l0 p0) FUEL (0 : Int)).bind fun o =>
  match o with
  | .inl o1 => J5 o1
  | .inr o1 => some o1
def F_scan_scanner_here (p0 : T_scan_scanner) (p1 : List UInt8) : Option (Bool) :=
   (slc p0.b p0.at_ (p0.b.length : Int)).bind fun x1 =>
   (F_bytes_HasPrefix x1 p1).bind fun x2 =>
  some x2
def F_scan_scanner_spaces_l0 (p0 : T_scan_scanner) (rec13 : Int → Option (Int)) (a10 : Int) : Option (Int) :=
   (letJ (fun v17 : Bool => cond v17
     (rec13 (IntKind.wrap .i64 (a10 + (1 : Int))))
     (some a10)) fun J16 => cond (decide (a10 < (p0.b.length : Int))) ((idx p0.b a10).bind fun x18 =>
     (L_IndexByte ([32, 9, 10, 13] : List UInt8) (x18.toNat : Int)).bind fun x19 =>
    J16 (decide ((0 : Int) ≤ x19))) (J16 false))
def F_scan_scanner_spaces (p0 : T_scan_scanner) (p1 : Int) : Option (Int) :=
  letJ (fun a8 : Int =>
   some a8) fun J9 =>
   (iter (F_scan_scanner_spaces_l0 p0) FUEL p1).bind fun o =>
  J9 o
def F_scan_scanner_sign (p0 : T_scan_scanner) (p1 : List UInt8) : Option (Int × T_scan_scanner) :=
   (F_scan_scanner_here p0 p1).bind fun x1 =>
  cond (!x1)
   (some ((23 : Int), p0))
   (some ((0 : Int), (⟨p0.b, (IntKind.wrap .i64 (p0.at_ + (p1.length : Int)))⟩ : T_scan_scanner)))
def F_scan_scanner_equals (p0 : T_scan_scanner) : Option (Int × T_scan_scanner) :=
   (F_scan_scanner_spaces p0 p0.at_).bind fun x1 =>
   (F_scan_scanner_sign (⟨p0.b, x1⟩ : T_scan_scanner) ([61] : List UInt8)).bind fun x2 =>
   (F_scan_scanner_spaces x2.2 x2.2.at_).bind fun x3 =>
  some (x2.1, (⟨x2.2.b, x3⟩ : T_scan_scanner))
def F_scan_scanner_quoted (p0 : T_scan_scanner) : Option (((List UInt8) × Int) × T_scan_scanner) :=
   (F_scan_scanner_here p0 ([39] : List UInt8)).bind fun x1 =>
   (letJ (fun v4 : Bool => cond v4
     (some ((([] : List UInt8), (23 : Int)), p0))
     ((slc p0.b (IntKind.wrap .i64 (p0.at_ + (1 : Int))) (p0.b.length : Int)).bind fun x7 =>
      (idx p0.b p0.at_).bind fun x8 =>
      (L_bIndexByte x7 (x8.toNat : Int)).bind fun x9 =>
     cond (decide (x9 < (0 : Int)))
      (some ((([] : List UInt8), (23 : Int)), p0))
      ((slc x7 (0 : Int) x9).bind fun x11 =>
      some ((x11, (0 : Int)), (⟨p0.b, (IntKind.wrap .i64 (p0.at_ + (IntKind.wrap .i64 (x9 + (2 : Int)))))⟩ : T_scan_scanner))))) fun J3 => cond (!x1) ((F_scan_scanner_here p0 ([34] : List UInt8)).bind fun x5 =>
    J3 (!x5)) (J3 false))
def F_stringslite_HasPrefix (p0 : List UInt8) (p1 : List UInt8) : Option (Bool) :=
   (letJ (fun v3 : Bool => some v3) fun J2 => cond (decide ((p1.length : Int) ≤ (p0.length : Int))) ((slc p0 (0 : Int) (p1.length : Int)).bind fun x4 =>
    J2 (x4 == p1)) (J2 false))
def F_stringslite_CutPrefix (p0 : List UInt8) (p1 : List UInt8) : Option ((List UInt8) × Bool) :=
   (F_stringslite_HasPrefix p0 p1).bind fun x1 =>
  cond (!x1)
   (some (p0, false))
   ((slc p0 (p1.length : Int) (p0.length : Int)).bind fun x3 =>
   some (x3, true))
def F_strings_CutPrefix (p0 : List UInt8) (p1 : List UInt8) : Option ((List UInt8) × Bool) :=
   (F_stringslite_CutPrefix p0 p1).bind fun x1 =>
  some (x1.1, x1.2)
def F_scan_fits (p0 : List UInt8) (p1 : List UInt8) : Option (Bool) :=
  cond (p0 == ([118, 101, 114, 115, 105, 111, 110] : List UInt8))
   ((F_strings_CutPrefix p1 ([49, 46] : List UInt8)).bind fun x2 =>
    (letJ (fun v6 : Bool => some v6) fun J5 => cond (x2.2 && (!(x2.1 == ([] : List UInt8)))) ((L_Trim x2.1 ([48, 49, 50, 51, 52, 53, 54, 55, 56, 57] : List UInt8)).bind fun x7 =>
     J5 (x7 == ([] : List UInt8))) (J5 false)))
   (cond (p0 == ([101, 110, 99, 111, 100, 105, 110, 103] : List UInt8))
    ((letJ (fun v11 : Bool => (letJ (fun v16 : Bool => some v16) fun J15 => cond v11 ((L_Trim p1 ([65, 66, 67, 68, 69, 70, 71, 72, 73, 74, 75, 76, 77, 78, 79, 80, 81, 82, 83, 84, 85, 86, 87, 88, 89, 90, 97, 98, 99, 100, 101, 102, 103, 104, 105, 106, 107, 108, 109, 110, 111, 112, 113, 114, 115, 116, 117, 118, 119, 120, 121, 122, 48, 49, 50, 51, 52, 53, 54, 55, 56, 57, 46, 95, 45] : List UInt8)).bind fun x17 =>
        J15 (x17 == ([] : List UInt8))) (J15 false))) fun J10 => cond (!(p1 == ([] : List UInt8))) ((idx p1 (0 : Int)).bind fun x12 =>
       (L_IndexByte ([65, 66, 67, 68, 69, 70, 71, 72, 73, 74, 75, 76, 77, 78, 79, 80, 81, 82, 83, 84, 85, 86, 87, 88, 89, 90, 97, 98, 99, 100, 101, 102, 103, 104, 105, 106, 107, 108, 109, 110, 111, 112, 113, 114, 115, 116, 117, 118, 119, 120, 121, 122] : List UInt8) (x12.toNat : Int)).bind fun x13 =>
      J10 (decide ((0 : Int) ≤ x13))) (J10 false)))
    (some ((p1 == ([121, 101, 115] : List UInt8)) || (p1 == ([110, 111] : List UInt8)))))
def F_strings_EqualFold_l1 (a94 : Int) (a95 : Int) (rec112 : Int → Option (Int)) (a109 : Int) : Option (Int) :=
  cond ((a109 != a94) && (decide (a109 < a95)))
   ((L_SimpleFold a109).bind fun x116 =>
   rec112 x116)
   (some a109)
def F_strings_EqualFold_l0 (x52 : List UInt8) (rec87 : (List UInt8) × Nat → Option (((List UInt8)) ⊕ Bool)) : (List UInt8) × Nat → Option (((List UInt8)) ⊕ Bool)
  | (a83, a84) =>
  cond (decide (a84 < x52.length))
   (cond ((a83.length : Int) == (0 : Int))
    (some (.inr false))
    ((L_DecodeRuneInString a83).bind fun x90 =>
     (slc a83 x90.2 (a83.length : Int)).bind fun x91 =>
    cond (x90.1 == (rnS x52 a84))
     (rec87 (x91, (a84 + wdS x52 a84)))
     (letJ (fun v : Int × Int => match v with
      | (a94, a95) =>
      cond (decide (a95 < (128 : Int)))
       (cond (((decide ((65 : Int) ≤ a94)) && (decide (a94 ≤ (90 : Int)))) && (a95 == (IntKind.wrap .i32 ((IntKind.wrap .i32 (a94 + (97 : Int))) - (65 : Int)))))
        (rec87 (x91, (a84 + wdS x52 a84)))
        (some (.inr false)))
       ((L_SimpleFold a94).bind fun x102 =>
       letJ (fun a107 : Int =>
        cond (a107 == a95)
         (rec87 (x91, (a84 + wdS x52 a84)))
         (some (.inr false))) fun J108 =>
        (iter (F_strings_EqualFold_l1 a94 a95) FUEL x102).bind fun o =>
       J108 o)) fun J96 =>
     cond (decide (x90.1 < (rnS x52 a84)))
      (J96 (x90.1, (rnS x52 a84)))
      (J96 ((rnS x52 a84), x90.1)))))
   (some (.inl a83))
def F_strings_EqualFold_l2 (p0 : List UInt8) (p1 : List UInt8) (rec146 : Int → Option (Unit ⊕ Int ⊕ Bool)) (a143 : Int) : Option (Unit ⊕ Int ⊕ Bool) :=
  cond (decide (a143 < (if (p1.length : Int) < (p0.length : Int) then (p1.length : Int) else (p0.length : Int))))
   (letJ (fun _ : Unit =>
    rec146 (IntKind.wrap .i64 (a143 + (1 : Int)))) fun J160 =>
    (idx p0 a143).bind fun x161 =>
    (idx p1 a143).bind fun x162 =>
   cond (decide ((128 : Int) ≤ (ior .u8 (x161.toNat : Int) (x162.toNat : Int))))
    (some (.inr (.inl a143)))
    (cond ((x162.toNat : Int) == (x161.toNat : Int))
     (J160 ())
     (letJ (fun v : Int × Int => match v with
      | (a166, a167) =>
      cond (((decide ((65 : Int) ≤ a166)) && (decide (a166 ≤ (90 : Int)))) && (a167 == (IntKind.wrap .u8 ((IntKind.wrap .u8 (a166 + (97 : Int))) - (65 : Int)))))
       (J160 ())
       (some (.inr (.inr false)))) fun J168 =>
     cond (decide ((x162.toNat : Int) < (x161.toNat : Int)))
      (J168 ((x162.toNat : Int), (x161.toNat : Int)))
      (J168 ((x161.toNat : Int), (x162.toNat : Int))))))
   (some (.inl ()))
def F_strings_EqualFold (p0 : List UInt8) (p1 : List UInt8) : Option (Bool) :=
  letJ (fun a49 : Int =>
    (slc p0 a49 (p0.length : Int)).bind fun x52 =>
    (slc p1 a49 (p1.length : Int)).bind fun x53 =>
   letJ (fun a80 : List UInt8 =>
    some ((a80.length : Int) == (0 : Int))) fun J81 =>
    (iter (F_strings_EqualFold_l0 x52) FUEL (x53, (0 : Nat))).bind fun o =>
   match o with
   | .inl o1 => J81 o1
   | .inr o1 => some o1) fun J50 =>
  letJ (fun _ : Unit =>
   some ((p0.length : Int) == (p1.length : Int))) fun J142 =>
   (iter (F_strings_EqualFold_l2 p0 p1) FUEL (0 : Int)).bind fun o =>
  match o with
  | .inl o1 => J142 o1
  | .inr (.inl o1) => J50 o1
  | .inr (.inr o1) => some o1
def F_scan_scanner_decl_l0 (rec82 : (List UInt8) × Int × Int × Int × (List UInt8) × (List T_scan_Pair) × (List UInt8) × Int × (List UInt8) × Int → Option (((List UInt8) × Int × (List UInt8) × Int × Int × (List UInt8) × (List T_scan_Pair) × (List UInt8) × Int) ⊕ (Int × T_scan_scanner × T_scan_Token))) : (List UInt8) × Int × Int × Int × (List UInt8) × (List T_scan_Pair) × (List UInt8) × Int × (List UInt8) × Int → Option (((List UInt8) × Int × (List UInt8) × Int × Int × (List UInt8) × (List T_scan_Pair) × (List UInt8) × Int) ⊕ (Int × T_scan_scanner × T_scan_Token))
  | (a69, a70, a71, a72, a73, a75, a76, a77, a78, a79) =>
  cond (decide (a79 < ([([118, 101, 114, 115, 105, 111, 110] : List UInt8), ([101, 110, 99, 111, 100, 105, 110, 103] : List UInt8), ([115, 116, 97, 110, 100, 97, 108, 111, 110, 101] : List UInt8)].length : Int)))
   (letJ (fun v : (List UInt8) × Int × (List T_scan_Pair) × (List UInt8) => match v with
    | (a105, a106, a108, a109) =>
    rec82 (a105, a106, a71, a72, a73, a108, a76, a77, a109, (IntKind.wrap .i64 (a79 + (1 : Int))))) fun J110 =>
    (idx [([118, 101, 114, 115, 105, 111, 110] : List UInt8), ([101, 110, 99, 111, 100, 105, 110, 103] : List UInt8), ([115, 116, 97, 110, 100, 97, 108, 111, 110, 101] : List UInt8)] a79).bind fun x111 =>
    (F_scan_scanner_spaces (⟨a69, a70⟩ : T_scan_scanner) a70).bind fun x112 =>
    (letJ (fun v115 : Bool => cond v115
      (cond (x111 == ([118, 101, 114, 115, 105, 111, 110] : List UInt8))
       (some (.inr ((23 : Int), (⟨a69, a70⟩ : T_scan_scanner), (⟨a71, a72, a73, a75, a76, a77⟩ : T_scan_Token))))
       (J110 (a69, a70, a75, a78)))
      ((F_scan_scanner_equals (⟨a69, (IntKind.wrap .i64 (x112 + (x111.length : Int)))⟩ : T_scan_scanner)).bind fun x120 =>
      cond (x120.1 != (0 : Int))
       (some (.inr ((23 : Int), x120.2, (⟨a71, a72, a73, a75, a76, a77⟩ : T_scan_Token))))
       ((F_scan_scanner_quoted x120.2).bind fun x122 =>
        (letJ (fun v125 : Bool => cond v125
          (some (.inr ((23 : Int), x122.2, (⟨a71, a72, a73, a75, a76, a77⟩ : T_scan_Token))))
          ((app 32 a75 [(⟨x111, x122.1.1⟩ : T_scan_Pair)]).bind fun _ =>
           (some (a75 ++ [(⟨x111, x122.1.1⟩ : T_scan_Pair)])).bind fun a129 =>
          cond (x111 == ([101, 110, 99, 111, 100, 105, 110, 103] : List UInt8))
           (J110 (x122.2.b, x122.2.at_, a129, x122.1.1))
           (J110 (x122.2.b, x122.2.at_, a129, a78)))) fun J124 => cond (x122.1.2 != (0 : Int)) (J124 true) ((F_scan_fits x111 x122.1.1).bind fun x126 =>
         J124 (!x126)))))) fun J114 => cond (x112 == a70) (J114 true) ((slc a69 x112 (a69.length : Int)).bind fun x116 =>
      (F_bytes_HasPrefix x116 x111).bind fun x117 =>
     J114 (!x117))))
   (some (.inl (a69, a70, a78, a71, a72, a73, a75, a76, a77)))
def F_scan_scanner_decl (p0 : T_scan_scanner) (p1 : T_scan_Token) : Option (Int × T_scan_scanner × T_scan_Token) :=
  letJ (fun v : (List UInt8) × Int × (List UInt8) × Int × Int × (List UInt8) × (List T_scan_Pair) × (List UInt8) × Int => match v with
   | (a58, a59, a60, a61, a62, a63, a65, a66, a67) =>
    (F_scan_scanner_spaces (⟨a58, a59⟩ : T_scan_scanner) a59).bind fun x131 =>
    (F_scan_scanner_sign (⟨a58, x131⟩ : T_scan_scanner) ([63, 62] : List UInt8)).bind fun x132 =>
   cond (x132.1 != (0 : Int))
    (some (x132.1, x132.2, (⟨a61, a62, a63, a65, a66, a67⟩ : T_scan_Token)))
    ((letJ (fun v136 : Bool => cond v136
       (some ((25 : Int), x132.2, (⟨a61, a62, a63, a65, a66, a67⟩ : T_scan_Token)))
       (some ((0 : Int), x132.2, (⟨a61, a62, a63, a65, a66, a67⟩ : T_scan_Token)))) fun J135 => cond (!(a60 == ([] : List UInt8))) ((F_strings_EqualFold a60 ([117, 116, 102, 45, 56] : List UInt8)).bind fun x137 =>
      J135 (!x137)) (J135 false)))) fun J68 =>
   (iter (F_scan_scanner_decl_l0) FUEL (p0.b, (5 : Int), (1 : Int), p1.At, p1.Name, p1.Pairs, p1.Text, p1.Refs, ([] : List UInt8), (0 : Int))).bind fun o =>
  match o with
  | .inl o1 => J68 o1
  | .inr o1 => some o1
def F_scan_scanner_upTo (p0 : T_scan_scanner) (p1 : T_scan_Token) (p2 : Int) (p3 : List UInt8) : Option (Int × T_scan_scanner × T_scan_Token) :=
   (slc p0.b (IntKind.wrap .i64 (p0.at_ + p2)) (p0.b.length : Int)).bind fun x1 =>
   (L_bIndex x1 p3).bind fun x2 =>
  cond (decide (x2 < (0 : Int)))
   (some ((23 : Int), p0, p1))
   ((slc x1 (0 : Int) x2).bind fun x4 =>
   some ((0 : Int), (⟨p0.b, (IntKind.wrap .i64 (p0.at_ + (IntKind.wrap .i64 ((IntKind.wrap .i64 (p2 + x2)) + (p3.length : Int)))))⟩ : T_scan_scanner), (⟨p1.Kind, p1.At, p1.Name, p1.Pairs, x4, p1.Refs⟩ : T_scan_Token)))
def F_char_IsStart (p0 : Int) : Option (Bool) :=
  cond (decide (p0 < (128 : Int)))
   (some ((((decide ((97 : Int) ≤ p0)) && (decide (p0 ≤ (122 : Int)))) || ((decide ((65 : Int) ≤ p0)) && (decide (p0 ≤ (90 : Int))))) || (p0 == (95 : Int))))
   ((F_char_in p0 ([(⟨(192 : Int), (214 : Int)⟩ : T_char_span), (⟨(216 : Int), (246 : Int)⟩ : T_char_span), (⟨(248 : Int), (767 : Int)⟩ : T_char_span), (⟨(880 : Int), (893 : Int)⟩ : T_char_span), (⟨(895 : Int), (8191 : Int)⟩ : T_char_span), (⟨(8204 : Int), (8205 : Int)⟩ : T_char_span), (⟨(8304 : Int), (8591 : Int)⟩ : T_char_span), (⟨(11264 : Int), (12271 : Int)⟩ : T_char_span), (⟨(12289 : Int), (55295 : Int)⟩ : T_char_span), (⟨(63744 : Int), (64975 : Int)⟩ : T_char_span), (⟨(65008 : Int), (65533 : Int)⟩ : T_char_span), (⟨(65536 : Int), (983039 : Int)⟩ : T_char_span)])).bind fun x7 =>
   some x7)
def F_char_IsPart (p0 : Int) : Option (Bool) :=
   (F_char_IsStart p0).bind fun x1 =>
   (letJ (fun v10 : Bool => some v10) fun J9 => cond ((((x1 || (p0 == (45 : Int))) || (p0 == (46 : Int))) || ((decide ((48 : Int) ≤ p0)) && (decide (p0 ≤ (57 : Int))))) || (p0 == (183 : Int))) (J9 true) ((F_char_in p0 ([(⟨(768 : Int), (879 : Int)⟩ : T_char_span), (⟨(8255 : Int), (8256 : Int)⟩ : T_char_span)])).bind fun x11 =>
    J9 x11))
def F_char_Name_l0 (p0 : List UInt8) (rec23 : Nat → Option (Unit ⊕ Bool)) (a20 : Nat) : Option (Unit ⊕ Bool) :=
  cond (decide (a20 < p0.length))
   ((letJ (fun v27 : Bool => (letJ (fun v31 : Bool => cond v31
        (some (.inr false))
        (rec23 (a20 + wdS p0 a20))) fun J30 => cond v27 (J30 true) ((F_char_IsPart (rnS p0 a20)).bind fun x32 =>
       J30 (!x32)))) fun J26 => cond (((a20 : Nat) : Int) == (0 : Int)) ((F_char_IsStart (rnS p0 a20)).bind fun x28 =>
     J26 (!x28)) (J26 false)))
   (some (.inl ()))
def F_char_Name (p0 : List UInt8) : Option (Bool) :=
   (letJ (fun v4 : Bool => cond v4
     (some false)
     (letJ (fun _ : Unit =>
      some true) fun J18 =>
      (iter (F_char_Name_l0 p0) FUEL (0 : Nat)).bind fun o =>
     match o with
     | .inl o1 => J18 o1
     | .inr o1 => some o1)) fun J3 => cond ((p0 == ([] : List UInt8)) || (decide ((100 : Int) < (p0.length : Int)))) (J3 true) ((L_ValidString p0).bind fun x5 =>
    J3 (!x5)))
def F_char_Split (p0 : List UInt8) : Option ((List UInt8) × (List UInt8) × Bool) :=
   (L_Cut p0 ([58] : List UInt8)).bind fun x1 =>
   (letJ (fun v4 : Bool => cond v4
     (some (([] : List UInt8), p0, true))
     ((letJ (fun v9 : Bool => (letJ (fun v13 : Bool => cond v13
          (some (x1.1, x1.2.1, true))
          (some (([] : List UInt8), ([] : List UInt8), false))) fun J12 => cond v9 ((F_char_Name x1.2.1).bind fun x14 =>
         J12 x14) (J12 false))) fun J8 => cond x1.2.2 ((F_char_Name x1.1).bind fun x10 =>
       J8 x10) (J8 false)))) fun J3 => cond (!x1.2.2) ((F_char_Name p0).bind fun x5 =>
    J3 x5) (J3 false))
def F_scan_scanner_name_l0 (p0 : T_scan_scanner) (rec22 : Int → Option (Int)) (a19 : Int) : Option (Int) :=
  cond (decide (a19 < (p0.b.length : Int)))
   ((slc p0.b a19 (p0.b.length : Int)).bind fun x25 =>
    (L_DecodeRune x25).bind fun x26 =>
    (letJ (fun v29 : Bool => cond v29
      (some a19)
      (rec22 (IntKind.wrap .i64 (a19 + x26.2)))) fun J28 => cond (x26.1 != (58 : Int)) ((F_char_IsPart x26.1).bind fun x30 =>
      (letJ (fun v33 : Bool => J28 v33) fun J32 => cond (!x30) (J32 true) ((letJ (fun v36 : Bool => J32 v36) fun J35 => cond (a19 == p0.at_) ((F_char_IsStart x26.1).bind fun x37 =>
         J35 (!x37)) (J35 false))))) (J28 false)))
   (some a19)
def F_scan_scanner_name (p0 : T_scan_scanner) : Option (((List UInt8) × Int) × T_scan_scanner) :=
  letJ (fun a17 : Int =>
    (slc p0.b p0.at_ a17).bind fun x39 =>
   cond (x39 == ([] : List UInt8))
    (some ((([] : List UInt8), (23 : Int)), p0))
    ((F_char_Split x39).bind fun x41 =>
    cond (!x41.2.2)
     (some ((([] : List UInt8), (24 : Int)), p0))
     (some ((x39, (0 : Int)), (⟨p0.b, a17⟩ : T_scan_scanner))))) fun J18 =>
   (iter (F_scan_scanner_name_l0 p0) FUEL p0.at_).bind fun o =>
  J18 o
def F_scan_scanner_instr (p0 : T_scan_scanner) (p1 : T_scan_Token) : Option (Int × T_scan_scanner × T_scan_Token) :=
   (F_scan_scanner_name (⟨p0.b, (IntKind.wrap .i64 (p0.at_ + (2 : Int)))⟩ : T_scan_scanner)).bind fun x1 =>
  cond (x1.1.2 != (0 : Int))
   (some (x1.1.2, x1.2, (⟨(8 : Int), p1.At, p1.Name, p1.Pairs, p1.Text, p1.Refs⟩ : T_scan_Token)))
   ((F_char_Name x1.1.1).bind fun x3 =>
   cond (!x3)
    (some ((24 : Int), x1.2, (⟨(8 : Int), p1.At, p1.Name, p1.Pairs, p1.Text, p1.Refs⟩ : T_scan_Token)))
    ((F_strings_EqualFold x1.1.1 ([120, 109, 108] : List UInt8)).bind fun x5 =>
    cond x5
     (some ((29 : Int), x1.2, (⟨(8 : Int), p1.At, p1.Name, p1.Pairs, p1.Text, p1.Refs⟩ : T_scan_Token)))
     ((F_scan_scanner_here x1.2 ([63, 62] : List UInt8)).bind fun x7 =>
     cond x7
      ((F_scan_scanner_sign x1.2 ([63, 62] : List UInt8)).bind fun x9 =>
      some (x9.1, x9.2, (⟨(8 : Int), p1.At, x1.1.1, p1.Pairs, p1.Text, p1.Refs⟩ : T_scan_Token)))
      ((F_scan_scanner_spaces x1.2 x1.2.at_).bind fun x10 =>
      cond (x10 == x1.2.at_)
       (some ((23 : Int), x1.2, (⟨(8 : Int), p1.At, x1.1.1, p1.Pairs, p1.Text, p1.Refs⟩ : T_scan_Token)))
       ((F_scan_scanner_upTo (⟨x1.2.b, x10⟩ : T_scan_scanner) (⟨(8 : Int), p1.At, x1.1.1, p1.Pairs, p1.Text, p1.Refs⟩ : T_scan_Token) (0 : Int) ([63, 62] : List UInt8)).bind fun x12 =>
       some (x12.1, x12.2.1, x12.2.2))))))
def F_scan_scanner_closing (p0 : T_scan_scanner) (p1 : T_scan_Token) : Option (Int × T_scan_scanner × T_scan_Token) :=
   (F_scan_scanner_name (⟨p0.b, (IntKind.wrap .i64 (p0.at_ + (2 : Int)))⟩ : T_scan_scanner)).bind fun x1 =>
  cond (x1.1.2 != (0 : Int))
   (some (x1.1.2, x1.2, (⟨(3 : Int), p1.At, p1.Name, p1.Pairs, p1.Text, p1.Refs⟩ : T_scan_Token)))
   ((F_scan_scanner_spaces x1.2 x1.2.at_).bind fun x3 =>
    (F_scan_scanner_sign (⟨x1.2.b, x3⟩ : T_scan_scanner) ([62] : List UInt8)).bind fun x4 =>
   some (x4.1, x4.2, (⟨(3 : Int), p1.At, x1.1.1, p1.Pairs, p1.Text, p1.Refs⟩ : T_scan_Token)))
def F_refer_digit (p0 : Int) : Option (Int) :=
  cond ((decide ((48 : Int) ≤ p0)) && (decide (p0 ≤ (57 : Int))))
   (some (IntKind.wrap .i64 (IntKind.wrap .u8 (p0 - (48 : Int)))))
   (cond ((decide ((97 : Int) ≤ p0)) && (decide (p0 ≤ (102 : Int))))
    (some (IntKind.wrap .i64 ((IntKind.wrap .i64 (IntKind.wrap .u8 (p0 - (97 : Int)))) + (10 : Int))))
    (cond ((decide ((65 : Int) ≤ p0)) && (decide (p0 ≤ (70 : Int))))
     (some (IntKind.wrap .i64 ((IntKind.wrap .i64 (IntKind.wrap .u8 (p0 - (65 : Int)))) + (10 : Int))))
     (some (99 : Int))))
def F_refer_meant_l0 (a9 : List UInt8) (a10 : Int) (rec28 : Int × Int → Option (Int ⊕ (Int × Int))) : Int × Int → Option (Int ⊕ (Int × Int))
  | (a24, a25) =>
  cond (decide (a25 < (a9.length : Int)))
   ((idx a9 a25).bind fun x31 =>
    (F_refer_digit (x31.toNat : Int)).bind fun x32 =>
   cond (decide (a10 ≤ x32))
    (some (.inr ((0 : Int), (22 : Int))))
    (rec28 ((if (1114112 : Int) < (IntKind.wrap .i64 ((IntKind.wrap .i64 (a24 * a10)) + x32)) then (1114112 : Int) else (IntKind.wrap .i64 ((IntKind.wrap .i64 (a24 * a10)) + x32))), (IntKind.wrap .i64 (a25 + (1 : Int))))))
   (some (.inl a24))
def F_refer_meant (p0 : List UInt8) : Option (Int × Int) :=
  cond (p0 == ([108, 116] : List UInt8))
   (some ((60 : Int), (0 : Int)))
   (cond (p0 == ([103, 116] : List UInt8))
    (some ((62 : Int), (0 : Int)))
    (cond (p0 == ([97, 109, 112] : List UInt8))
     (some ((38 : Int), (0 : Int)))
     (cond (p0 == ([97, 112, 111, 115] : List UInt8))
      (some ((39 : Int), (0 : Int)))
      (cond (p0 == ([113, 117, 111, 116] : List UInt8))
       (some ((34 : Int), (0 : Int)))
       ((F_strings_CutPrefix p0 ([35] : List UInt8)).bind fun x6 =>
       letJ (fun v : (List UInt8) × Int => match v with
        | (a9, a10) =>
        cond ((!x6.2) || (a9 == ([] : List UInt8)))
         (some ((0 : Int), (22 : Int)))
         (letJ (fun a22 : Int =>
           (F_char_IsChar (IntKind.wrap .i32 a22)).bind fun x34 =>
          cond (!x34)
           (some ((0 : Int), (21 : Int)))
           (some ((IntKind.wrap .i32 a22), (0 : Int)))) fun J23 =>
          (iter (F_refer_meant_l0 a9 a10) FUEL ((0 : Int), (0 : Int))).bind fun o =>
         match o with
         | .inl o1 => J23 o1
         | .inr o1 => some o1)) fun J11 =>
        (F_strings_CutPrefix x6.1 ([120] : List UInt8)).bind fun x12 =>
       cond x12.2
        (J11 (x12.1, (16 : Int)))
        (J11 (x6.1, (10 : Int))))))))
def F_refer_Expand (p0 : List UInt8) (p1 : Int) : Option (Int × Int × Int) :=
   (letJ (fun v4 : Bool => cond v4
     (some ((0 : Int), (0 : Int), (1 : Int)))
     ((slc p0 p1 (p0.length : Int)).bind fun x7 =>
      (L_bIndexByte x7 (59 : Int)).bind fun x8 =>
     cond (decide (x8 < (0 : Int)))
      (some ((0 : Int), (0 : Int), (22 : Int)))
      ((slc p0 (IntKind.wrap .i64 (p1 + (1 : Int))) (IntKind.wrap .i64 (p1 + x8))).bind fun x10 =>
       (F_refer_meant x10).bind fun x11 =>
      cond (x11.2 != (0 : Int))
       (some ((0 : Int), (0 : Int), x11.2))
       (some (x11.1, (IntKind.wrap .i64 ((IntKind.wrap .i64 (p1 + x8)) + (1 : Int))), (0 : Int)))))) fun J3 => cond ((decide (p1 < (0 : Int))) || (decide ((p0.length : Int) ≤ p1))) (J3 true) ((idx p0 p1).bind fun x5 =>
    J3 ((x5.toNat : Int) != (38 : Int))))
def F_refer_read_l0 (p0 : List UInt8) (p1 : Bool) (rec60 : (List UInt8) × Int → Option (((List UInt8)) ⊕ ((List UInt8) × Int × Int))) : (List UInt8) × Int → Option (((List UInt8)) ⊕ ((List UInt8) × Int × Int))
  | (a55, a57) =>
  cond (decide (a57 < (p0.length : Int)))
   ((F_char_Next p0 a57).bind fun x63 =>
   letJ (fun v : Int × Int => match v with
    | (a85, a86) =>
     (app 1 a55 (Utf8.encode a85).data.toList).bind fun _ =>
    rec60 ((a55 ++ (Utf8.encode a85).data.toList), a86)) fun J87 =>
   cond (x63.2.2 != (0 : Int))
    (some (.inr (([] : List UInt8), a57, x63.2.2)))
    ((letJ (fun v91 : Bool => cond v91
       (some (.inr (([] : List UInt8), a57, (23 : Int))))
       (cond (x63.1 == (38 : Int))
        ((F_refer_Expand p0 a57).bind fun x101 =>
        cond (x101.2.2 != (0 : Int))
         (some (.inr (([] : List UInt8), a57, x101.2.2)))
         (J87 (x101.1, x101.2.1)))
        (cond (p1 && (((x63.1 == (9 : Int)) || (x63.1 == (10 : Int))) || (x63.1 == (13 : Int))))
         (J87 ((32 : Int), x63.2.1))
         (J87 (x63.1, x63.2.1))))) fun J90 => cond (x63.1 == (60 : Int)) (J90 true) ((letJ (fun v94 : Bool => J90 v94) fun J93 => cond (!p1) ((slc p0 a57 (p0.length : Int)).bind fun x95 =>
         (F_bytes_HasPrefix x95 ([93, 93, 62] : List UInt8)).bind fun x98 =>
        J93 x98) (J93 false))))))
   (some (.inl a55))
def F_refer_read (p0 : List UInt8) (p1 : Bool) : Option ((List UInt8) × Int × Int) :=
  letJ (fun a52 : List UInt8 =>
   some (a52, (0 : Int), (0 : Int))) fun J54 =>
   (iter (F_refer_read_l0 p0 p1) FUEL (([] : List UInt8), (0 : Int))).bind fun o =>
  match o with
  | .inl o1 => J54 o1
  | .inr o1 => some o1
def F_refer_ReadValue (p0 : List UInt8) : Option ((List UInt8) × Int × Int) :=
   (F_refer_read p0 true).bind fun x1 =>
  some (x1.1, x1.2.1, x1.2.2)
def F_scan_scanner_tag_l1 (a6 : Int) (a7 : Int) (a8 : List UInt8) (a10 : List T_scan_Pair) (a11 : List UInt8) (a12 : Int) (x27 : ((List UInt8) × Int) × T_scan_scanner) (x31 : ((List UInt8) × Int) × T_scan_scanner) (rec44 : Int → Option (Unit ⊕ (Int × T_scan_scanner × T_scan_Token))) (a41 : Int) : Option (Unit ⊕ (Int × T_scan_scanner × T_scan_Token)) :=
  cond (decide (a41 < (a10.length : Int)))
   ((idx a10 a41).bind fun x47 =>
   cond (x47.Name == x27.1.1)
    (some (.inr ((27 : Int), x31.2, (⟨a6, a7, a8, a10, a11, a12⟩ : T_scan_Token))))
    (rec44 (IntKind.wrap .i64 (a41 + (1 : Int)))))
   (some (.inl ()))
def F_scan_scanner_tag_l0 (rec17 : (List UInt8) × Int × Int × Int × (List UInt8) × (List T_scan_Pair) × (List UInt8) × Int × (List UInt8) × (List UInt8) → Option ((Int × T_scan_scanner × T_scan_Token))) : (List UInt8) × Int × Int × Int × (List UInt8) × (List T_scan_Pair) × (List UInt8) × Int × (List UInt8) × (List UInt8) → Option ((Int × T_scan_scanner × T_scan_Token))
  | (a4, a5, a6, a7, a8, a10, a11, a12, a13, a14) =>
   (F_scan_scanner_spaces (⟨a4, a5⟩ : T_scan_scanner) a5).bind fun x19 =>
   (F_scan_scanner_here (⟨a4, x19⟩ : T_scan_scanner) ([47, 62] : List UInt8)).bind fun x20 =>
  cond x20
   ((F_scan_scanner_sign (⟨a4, x19⟩ : T_scan_scanner) ([47, 62] : List UInt8)).bind fun x22 =>
   some (x22.1, x22.2, (⟨(4 : Int), a7, a8, a10, a11, a12⟩ : T_scan_Token)))
   ((F_scan_scanner_here (⟨a4, x19⟩ : T_scan_scanner) ([62] : List UInt8)).bind fun x23 =>
   cond x23
    ((F_scan_scanner_sign (⟨a4, x19⟩ : T_scan_scanner) ([62] : List UInt8)).bind fun x25 =>
    some (x25.1, x25.2, (⟨a6, a7, a8, a10, a11, a12⟩ : T_scan_Token)))
    (cond (x19 == a5)
     (some ((23 : Int), (⟨a4, x19⟩ : T_scan_scanner), (⟨a6, a7, a8, a10, a11, a12⟩ : T_scan_Token)))
     ((F_scan_scanner_name (⟨a4, x19⟩ : T_scan_scanner)).bind fun x27 =>
     cond (x27.1.2 != (0 : Int))
      (some (x27.1.2, x27.2, (⟨a6, a7, a8, a10, a11, a12⟩ : T_scan_Token)))
      ((F_scan_scanner_equals x27.2).bind fun x29 =>
      cond (x29.1 != (0 : Int))
       (some (x29.1, x29.2, (⟨a6, a7, a8, a10, a11, a12⟩ : T_scan_Token)))
       ((F_scan_scanner_quoted x29.2).bind fun x31 =>
       cond (x31.1.2 != (0 : Int))
        (some (x31.1.2, x31.2, (⟨a6, a7, a8, a10, a11, a12⟩ : T_scan_Token)))
        ((F_refer_ReadValue x31.1.1).bind fun x33 =>
        cond (x33.2.2 != (0 : Int))
         (some (x33.2.2, x31.2, (⟨a6, a7, a8, a10, a11, a12⟩ : T_scan_Token)))
         (letJ (fun _ : Unit =>
           (app 32 a10 [(⟨x27.1.1, x33.1⟩ : T_scan_Pair)]).bind fun _ =>
           (some (a10 ++ [(⟨x27.1.1, x33.1⟩ : T_scan_Pair)])).bind fun a51 =>
          rec17 (x31.2.b, x31.2.at_, a6, a7, a8, a51, a11, a12, x27.1.1, x33.1)) fun J40 =>
          (iter (F_scan_scanner_tag_l1 a6 a7 a8 a10 a11 a12 x27 x31) FUEL (0 : Int)).bind fun o =>
         match o with
         | .inl o1 => J40 o1
         | .inr o1 => some o1)))))))
def F_scan_scanner_tag (p0 : T_scan_scanner) (p1 : T_scan_Token) : Option (Int × T_scan_scanner × T_scan_Token) :=
   (F_scan_scanner_name (⟨p0.b, (IntKind.wrap .i64 (p0.at_ + (1 : Int)))⟩ : T_scan_scanner)).bind fun x2 =>
  cond (x2.1.2 != (0 : Int))
   (some (x2.1.2, x2.2, p1))
   ((iter (F_scan_scanner_tag_l0) FUEL (x2.2.b, x2.2.at_, (2 : Int), p1.At, x2.1.1, p1.Pairs, p1.Text, p1.Refs, ([] : List UInt8), ([] : List UInt8))).bind fun o =>
   some o)
def F_refer_ReadText (p0 : List UInt8) : Option ((List UInt8) × Int × Int) :=
   (F_refer_read p0 false).bind fun x1 =>
  some (x1.1, x1.2.1, x1.2.2)
def F_scan_scanner_text (p0 : T_scan_scanner) (p1 : T_scan_Token) : Option (Int × T_scan_scanner × T_scan_Token) :=
   (slc p0.b p0.at_ (p0.b.length : Int)).bind fun x1 =>
  letJ (fun a5 : List UInt8 =>
    (F_refer_ReadText a5).bind fun x10 =>
    (L_bCount a5 ([38] : List UInt8)).bind fun x13 =>
   some (x10.2.2, (⟨p0.b, (IntKind.wrap .i64 (p0.at_ + (a5.length : Int)))⟩ : T_scan_scanner), (⟨(5 : Int), p1.At, p1.Name, p1.Pairs, x10.1, x13⟩ : T_scan_Token))) fun J6 =>
   (L_bIndexByte x1 (60 : Int)).bind fun x7 =>
  cond (decide ((0 : Int) ≤ x7))
   ((slc x1 (0 : Int) x7).bind fun x9 =>
   J6 x9)
   (J6 x1)
def F_scan_scanner_token (p0 : T_scan_scanner) (p1 : T_scan_Token) : Option (Int × T_scan_scanner × T_scan_Token) :=
   (letJ (fun v3 : Bool => (letJ (fun v7 : Bool => cond v7
       ((F_scan_scanner_decl p0 p1).bind fun x10 =>
       some (x10.1, x10.2.1, x10.2.2))
       ((F_scan_scanner_here p0 ([60, 33, 45, 45] : List UInt8)).bind fun x12 =>
       cond x12
        ((F_scan_scanner_upTo p0 (⟨(7 : Int), p1.At, p1.Name, p1.Pairs, p1.Text, p1.Refs⟩ : T_scan_Token) (4 : Int) ([45, 45] : List UInt8)).bind fun x14 =>
        cond (x14.1 != (0 : Int))
         (some (x14.1, x14.2.1, x14.2.2))
         ((F_scan_scanner_sign x14.2.1 ([62] : List UInt8)).bind fun x17 =>
         some (x17.1, x17.2, x14.2.2)))
        ((F_scan_scanner_here p0 ([60, 33, 91, 67, 68, 65, 84, 65, 91] : List UInt8)).bind fun x18 =>
        cond x18
         ((F_scan_scanner_upTo p0 (⟨(6 : Int), p1.At, p1.Name, p1.Pairs, p1.Text, p1.Refs⟩ : T_scan_Token) (9 : Int) ([93, 93, 62] : List UInt8)).bind fun x20 =>
         some (x20.1, x20.2.1, x20.2.2))
         ((F_scan_scanner_here p0 ([60, 33, 68, 79, 67, 84, 89, 80, 69] : List UInt8)).bind fun x22 =>
         cond x22
          (some ((25 : Int), p0, p1))
          ((F_scan_scanner_here p0 ([60, 33] : List UInt8)).bind fun x24 =>
          cond x24
           (some ((23 : Int), p0, p1))
           ((F_scan_scanner_here p0 ([60, 63] : List UInt8)).bind fun x26 =>
           cond x26
            ((F_scan_scanner_instr p0 p1).bind fun x28 =>
            some (x28.1, x28.2.1, x28.2.2))
            ((F_scan_scanner_here p0 ([60, 47] : List UInt8)).bind fun x30 =>
            cond x30
             ((F_scan_scanner_closing p0 p1).bind fun x32 =>
             some (x32.1, x32.2.1, x32.2.2))
             ((F_scan_scanner_here p0 ([60] : List UInt8)).bind fun x34 =>
             cond x34
              ((F_scan_scanner_tag p0 p1).bind fun x36 =>
              some (x36.1, x36.2.1, x36.2.2))
              ((F_scan_scanner_text p0 p1).bind fun x38 =>
              some (x38.1, x38.2.1, x38.2.2)))))))))) fun J6 => cond v3 ((F_scan_scanner_spaces p0 (5 : Int)).bind fun x8 =>
      J6 (decide ((5 : Int) < x8))) (J6 false))) fun J2 => cond (p0.at_ == (0 : Int)) ((F_scan_scanner_here p0 ([60, 63, 120, 109, 108] : List UInt8)).bind fun x4 =>
    J2 x4) (J2 false))
def F_scan_All_l0 (rec13 : (List UInt8) × Int × (List T_scan_Token) → Option (((List T_scan_Token) × Int × Int))) : (List UInt8) × Int × (List T_scan_Token) → Option (((List T_scan_Token) × Int × Int))
  | (a7, a8, a10) =>
  cond (a8 == (a7.length : Int))
   (some (a10, (0 : Int), (0 : Int)))
   ((F_scan_scanner_token (⟨a7, a8⟩ : T_scan_scanner) (⟨(0 : Int), a8, ([] : List UInt8), ([] : List T_scan_Pair), ([] : List UInt8), (0 : Int)⟩ : T_scan_Token)).bind fun x20 =>
   cond (x20.1 != (0 : Int))
    (some (([] : List T_scan_Token), a8, x20.1))
    ((app 80 a10 [x20.2.2]).bind fun _ =>
     (some (a10 ++ [x20.2.2])).bind fun a27 =>
    rec13 (x20.2.1.b, x20.2.1.at_, a27)))
def F_scan_All (p0 : List UInt8) : Option ((List T_scan_Token) × Int × Int) :=
  cond (decide ((65536 : Int) < (p0.length : Int)))
   (some (([] : List T_scan_Token), (0 : Int), (6 : Int)))
   ((F_scan_Plain p0).bind fun x2 =>
    (F_char_Fault (⟨x2, (0 : Int)⟩ : T_scan_scanner).b).bind fun x4 =>
   cond (x4.2 != (0 : Int))
    (some (([] : List T_scan_Token), x4.1, x4.2))
    ((iter (F_scan_All_l0) FUEL ((⟨x2, (0 : Int)⟩ : T_scan_scanner).b, (⟨x2, (0 : Int)⟩ : T_scan_scanner).at_, ([] : List T_scan_Token))).bind fun o =>
    some o))
def F_lecternlaw03_awake : Option (Bool) :=
   (F_scan_All ([60, 97, 62, 120, 38, 97, 109, 112, 59, 121, 60, 47, 97, 62] : List UInt8)).bind fun x3 =>
   (F_scan_All ([60, 97, 32, 98, 61, 39, 49, 39, 32, 98, 61, 39, 50, 39, 62] : List UInt8)).bind fun x6 =>
   (letJ (fun v11 : Bool => (letJ (fun v15 : Bool => (letJ (fun v19 : Bool => (letJ (fun v23 : Bool => some v23) fun J22 => cond v19 ((idx x3.1 (2 : Int)).bind fun x24 =>
          J22 (x24.At == (10 : Int))) (J22 false))) fun J18 => cond v15 ((idx x3.1 (2 : Int)).bind fun x20 =>
        J18 (x20.Kind == (3 : Int))) (J18 false))) fun J14 => cond v11 ((idx x3.1 (1 : Int)).bind fun x16 =>
      J14 (x16.Refs == (1 : Int))) (J14 false))) fun J10 => cond (((x3.2.2 == (0 : Int)) && (x6.2.2 == (27 : Int))) && ((x3.1.length : Int) == (3 : Int))) ((idx x3.1 (1 : Int)).bind fun x12 =>
    J10 (x12.Text == ([120, 38, 121] : List UInt8))) (J10 false))
def F_lecternref02_written_l1 (p0 : List UInt8) (p1 : List UInt8) (p2 : List (List UInt8)) (a60 : Int) (rec113 : (List UInt8) × Int → Option (((List UInt8)))) : (List UInt8) × Int → Option (((List UInt8)))
  | (a109, a110) =>
  cond (decide (a110 < (p1.length : Int)))
   (letJ (fun a120 : List UInt8 =>
    rec113 (a120, (IntKind.wrap .i64 (a110 + (1 : Int))))) fun J121 =>
    (idx p0 a60).bind fun x122 =>
    (idx p1 a110).bind fun x123 =>
   cond ((x122.toNat : Int) == (x123.toNat : Int))
    ((idxN 6 p2 a110).bind fun x125 =>
    J121 x125)
    (J121 a109))
   (some a109)
def F_lecternref02_written_l0 (p0 : List UInt8) (p1 : List UInt8) (p2 : List (List UInt8)) (rec63 : (List UInt8) × Int → Option (((List UInt8)))) : (List UInt8) × Int → Option (((List UInt8)))
  | (a59, a60) =>
  cond (decide (a60 < (p0.length : Int)))
   (letJ (fun a92 : List UInt8 =>
    rec63 (a92, (IntKind.wrap .i64 (a60 + (1 : Int))))) fun J93 =>
    (slc p0 a60 (IntKind.wrap .i64 (a60 + (1 : Int)))).bind fun x94 =>
   letJ (fun a107 : List UInt8 =>
     (cat a59 a107).bind fun _ =>
    J93 (a59 ++ a107)) fun J108 =>
    (iter (F_lecternref02_written_l1 p0 p1 p2 a60) FUEL (x94, (0 : Int))).bind fun o =>
   J108 o)
   (some a59)
def F_lecternref02_written (p0 : List UInt8) (p1 : List UInt8) (p2 : List (List UInt8)) : Option ((List UInt8)) :=
  letJ (fun a57 : List UInt8 =>
   some a57) fun J58 =>
   (iter (F_lecternref02_written_l0 p0 p1 p2) FUEL (([] : List UInt8), (0 : Int))).bind fun o =>
  J58 o
def F_lecternref02_Quote (p0 : List UInt8) : Option ((List UInt8)) :=
   (F_lecternref02_written p0 ([38, 60, 34, 9, 10, 13] : List UInt8) ([([38, 97, 109, 112, 59] : List UInt8), ([38, 108, 116, 59] : List UInt8), ([38, 113, 117, 111, 116, 59] : List UInt8), ([38, 35, 57, 59] : List UInt8), ([38, 35, 49, 48, 59] : List UInt8), ([38, 35, 49, 51, 59] : List UInt8)] : List (List UInt8))).bind fun x1 =>
  some x1
def F_lecternlaw03_apart_l0 (p0 : List UInt8) (rec29 : (List UInt8) × Int → Option (((List UInt8)))) : (List UInt8) × Int → Option (((List UInt8)))
  | (a25, a26) =>
  cond (decide (a26 < (p0.length : Int)))
   (letJ (fun a41 : List UInt8 =>
    rec29 (a41, (IntKind.wrap .i64 (a26 + (1 : Int))))) fun J42 =>
    (idx p0 a26).bind fun x43 =>
   cond (((((x43.toNat : Int) == (38 : Int)) || ((x43.toNat : Int) == (60 : Int))) || ((x43.toNat : Int) == (39 : Int))) || (decide ((x43.toNat : Int) < (32 : Int))))
    ((cat a25 ([38, 35] : List UInt8)).bind fun _ =>
     (u8 (IntKind.wrap .u8 ((48 : Int) + (IntKind.wrap .u8 (Int.tdiv (x43.toNat : Int) (100 : Int)))))).bind fun b48 =>
     (u8 (IntKind.wrap .u8 ((48 : Int) + (Int.tmod (IntKind.wrap .u8 (Int.tdiv (x43.toNat : Int) (10 : Int))) (10 : Int))))).bind fun b49 =>
     (u8 (IntKind.wrap .u8 ((48 : Int) + (Int.tmod (x43.toNat : Int) (10 : Int))))).bind fun b50 =>
     (cat (a25 ++ ([38, 35] : List UInt8)) [b48, b49, b50]).bind fun _ =>
     (cat ((a25 ++ ([38, 35] : List UInt8)) ++ [b48, b49, b50]) ([59] : List UInt8)).bind fun _ =>
    J42 (((a25 ++ ([38, 35] : List UInt8)) ++ [b48, b49, b50]) ++ ([59] : List UInt8)))
    ((slc p0 a26 (IntKind.wrap .i64 (a26 + (1 : Int)))).bind fun x51 =>
     (cat a25 x51).bind fun _ =>
    J42 (a25 ++ x51)))
   (some a25)
def F_lecternlaw03_apart (p0 : List UInt8) : Option ((List UInt8)) :=
  letJ (fun a23 : List UInt8 =>
   some a23) fun J24 =>
   (iter (F_lecternlaw03_apart_l0 p0) FUEL (([] : List UInt8), (0 : Int))).bind fun o =>
  J24 o
def F_lecternref02_Text (p0 : List UInt8) : Option ((List UInt8)) :=
   (F_lecternref02_written p0 ([38, 60, 62, 13] : List UInt8) ([([38, 97, 109, 112, 59] : List UInt8), ([38, 108, 116, 59] : List UInt8), ([38, 103, 116, 59] : List UInt8), ([38, 35, 49, 51, 59] : List UInt8), ([] : List UInt8), ([] : List UInt8)] : List (List UInt8))).bind fun x1 =>
  some x1
def F_lecternlaw03_shown_l0 (p0 : T_scan_Token) (p1 : List UInt8) (rec18 : (List UInt8) × Int → Option (((List UInt8)))) : (List UInt8) × Int → Option (((List UInt8)))
  | (a14, a15) =>
  cond (decide (a15 < (p0.Pairs.length : Int)))
   ((idx p0.Pairs a15).bind fun x21 =>
    (F_lecternref02_Quote x21.Value).bind fun x23 =>
   letJ (fun a26 : List UInt8 =>
     (cat a14 ([32] : List UInt8)).bind fun _ =>
     (cat (a14 ++ ([32] : List UInt8)) x21.Name).bind fun _ =>
     (cat ((a14 ++ ([32] : List UInt8)) ++ x21.Name) ([61] : List UInt8)).bind fun _ =>
     (cat (((a14 ++ ([32] : List UInt8)) ++ x21.Name) ++ ([61] : List UInt8)) p1).bind fun _ =>
     (cat ((((a14 ++ ([32] : List UInt8)) ++ x21.Name) ++ ([61] : List UInt8)) ++ p1) a26).bind fun _ =>
     (cat (((((a14 ++ ([32] : List UInt8)) ++ x21.Name) ++ ([61] : List UInt8)) ++ p1) ++ a26) p1).bind fun _ =>
    rec18 (((((((a14 ++ ([32] : List UInt8)) ++ x21.Name) ++ ([61] : List UInt8)) ++ p1) ++ a26) ++ p1), (IntKind.wrap .i64 (a15 + (1 : Int))))) fun J27 =>
   cond (p1 == ([39] : List UInt8))
    ((F_lecternlaw03_apart x21.Value).bind fun x29 =>
    J27 x29)
    (J27 x23))
   (some a14)
def F_lecternlaw03_shown (p0 : T_scan_Token) (p1 : List UInt8) : Option ((List UInt8)) :=
  letJ (fun a12 : List UInt8 =>
   cond (p0.Kind == (1 : Int))
    ((cat ([60, 63, 120, 109, 108] : List UInt8) a12).bind fun _ =>
     (cat (([60, 63, 120, 109, 108] : List UInt8) ++ a12) ([63, 62] : List UInt8)).bind fun _ =>
    some ((([60, 63, 120, 109, 108] : List UInt8) ++ a12) ++ ([63, 62] : List UInt8)))
    (cond (p0.Kind == (2 : Int))
     ((cat ([60] : List UInt8) p0.Name).bind fun _ =>
      (cat (([60] : List UInt8) ++ p0.Name) a12).bind fun _ =>
      (cat ((([60] : List UInt8) ++ p0.Name) ++ a12) ([62] : List UInt8)).bind fun _ =>
     some (((([60] : List UInt8) ++ p0.Name) ++ a12) ++ ([62] : List UInt8)))
     (cond (p0.Kind == (4 : Int))
      ((cat ([60] : List UInt8) p0.Name).bind fun _ =>
       (cat (([60] : List UInt8) ++ p0.Name) a12).bind fun _ =>
       (cat ((([60] : List UInt8) ++ p0.Name) ++ a12) ([47, 62] : List UInt8)).bind fun _ =>
      some (((([60] : List UInt8) ++ p0.Name) ++ a12) ++ ([47, 62] : List UInt8)))
      (cond (p0.Kind == (3 : Int))
       ((cat ([60, 47] : List UInt8) p0.Name).bind fun _ =>
        (cat (([60, 47] : List UInt8) ++ p0.Name) ([62] : List UInt8)).bind fun _ =>
       some ((([60, 47] : List UInt8) ++ p0.Name) ++ ([62] : List UInt8)))
       (cond (p0.Kind == (5 : Int))
        ((F_lecternref02_Text p0.Text).bind fun x35 =>
        some x35)
        (cond (p0.Kind == (6 : Int))
         ((cat ([60, 33, 91, 67, 68, 65, 84, 65, 91] : List UInt8) p0.Text).bind fun _ =>
          (cat (([60, 33, 91, 67, 68, 65, 84, 65, 91] : List UInt8) ++ p0.Text) ([93, 93, 62] : List UInt8)).bind fun _ =>
         some ((([60, 33, 91, 67, 68, 65, 84, 65, 91] : List UInt8) ++ p0.Text) ++ ([93, 93, 62] : List UInt8)))
         (cond (p0.Kind == (7 : Int))
          ((cat ([60, 33, 45, 45] : List UInt8) p0.Text).bind fun _ =>
           (cat (([60, 33, 45, 45] : List UInt8) ++ p0.Text) ([45, 45, 62] : List UInt8)).bind fun _ =>
          some ((([60, 33, 45, 45] : List UInt8) ++ p0.Text) ++ ([45, 45, 62] : List UInt8)))
          (cond (p0.Text == ([] : List UInt8))
           ((cat ([60, 63] : List UInt8) p0.Name).bind fun _ =>
            (cat (([60, 63] : List UInt8) ++ p0.Name) ([63, 62] : List UInt8)).bind fun _ =>
           some ((([60, 63] : List UInt8) ++ p0.Name) ++ ([63, 62] : List UInt8)))
           ((cat ([60, 63] : List UInt8) p0.Name).bind fun _ =>
            (cat (([60, 63] : List UInt8) ++ p0.Name) ([32] : List UInt8)).bind fun _ =>
            (cat ((([60, 63] : List UInt8) ++ p0.Name) ++ ([32] : List UInt8)) p0.Text).bind fun _ =>
            (cat (((([60, 63] : List UInt8) ++ p0.Name) ++ ([32] : List UInt8)) ++ p0.Text) ([63, 62] : List UInt8)).bind fun _ =>
           some ((((([60, 63] : List UInt8) ++ p0.Name) ++ ([32] : List UInt8)) ++ p0.Text) ++ ([63, 62] : List UInt8))))))))))) fun J13 =>
   (iter (F_lecternlaw03_shown_l0 p0 p1) FUEL (([] : List UInt8), (0 : Int))).bind fun o =>
  J13 o
def F_lecternlaw03_marked (p0 : List UInt8) : Option ((List UInt8)) :=
  letJ (fun a14 : List UInt8 =>
   some a14) fun J15 =>
   (letJ (fun v18 : Bool => (letJ (fun v22 : Bool => (letJ (fun v26 : Bool => cond v26
         ((cat ([239, 187, 191] : List UInt8) p0).bind fun _ =>
         J15 (([239, 187, 191] : List UInt8) ++ p0))
         (J15 p0)) fun J25 => cond v22 ((idx p0 (2 : Int)).bind fun x27 =>
        J25 ((x27.toNat : Int) == (191 : Int))) (J25 false))) fun J21 => cond v18 ((idx p0 (1 : Int)).bind fun x23 =>
      J21 ((x23.toNat : Int) == (187 : Int))) (J21 false))) fun J17 => cond (decide ((2 : Int) < (p0.length : Int))) ((idx p0 (0 : Int)).bind fun x19 =>
    J17 ((x19.toNat : Int) == (239 : Int))) (J17 false))
def F_lecternlaw03_doc_l0 (p0 : T_scan_Token) (rec34 : Int × Int × (List UInt8) × (List T_scan_Pair) × (List UInt8) × Int × Int → Option ((Int × Int × (List UInt8) × (List T_scan_Pair) × (List UInt8) × Int))) : Int × Int × (List UInt8) × (List T_scan_Pair) × (List UInt8) × Int × Int → Option ((Int × Int × (List UInt8) × (List T_scan_Pair) × (List UInt8) × Int))
  | (a24, a25, a26, a27, a29, a30, a31) =>
  cond (decide (a31 < (p0.Pairs.length : Int)))
   ((idx p0.Pairs a31).bind fun x37 =>
    (app 32 a27 [x37]).bind fun _ =>
   rec34 (a24, a25, a26, (a27 ++ [x37]), a29, a30, (IntKind.wrap .i64 (a31 + (1 : Int)))))
   (some (a24, a25, a26, a27, a29, a30))
def F_lecternlaw03_doc (p0 : T_scan_Token) : Option (T_lecternref03_Token) :=
  letJ (fun v : Int × Int × (List UInt8) × (List T_scan_Pair) × (List UInt8) × Int => match v with
   | (a16, a17, a18, a19, a21, a22) =>
   some (⟨a16, a17, a18, a19, a21, a22⟩ : T_lecternref03_Token)) fun J23 =>
   (iter (F_lecternlaw03_doc_l0 p0) FUEL (p0.Kind, p0.At, p0.Name, ([] : List T_scan_Pair), p0.Text, p0.Refs, (0 : Int))).bind fun o =>
  J23 o
def F_lecternref03_Same_l0 (p0 : T_lecternref03_Token) (p1 : T_lecternref03_Token) (rec15 : Int → Option (Unit ⊕ Bool)) (a12 : Int) : Option (Unit ⊕ Bool) :=
  cond (decide (a12 < (p0.Pairs.length : Int)))
   ((idx p0.Pairs a12).bind fun x18 =>
    (idx p1.Pairs a12).bind fun x19 =>
   cond (!((x18.Name == x19.Name) && ((x18.Value == x19.Value) && true)))
    (some (.inr false))
    (rec15 (IntKind.wrap .i64 (a12 + (1 : Int)))))
   (some (.inl ()))
def F_lecternref03_Same (p0 : T_lecternref03_Token) (p1 : T_lecternref03_Token) : Option (Bool) :=
  cond (((((p0.Kind != p1.Kind) || (!(p0.Name == p1.Name))) || (!(p0.Text == p1.Text))) || (p0.Refs != p1.Refs)) || ((p0.Pairs.length : Int) != (p1.Pairs.length : Int)))
   (some false)
   (letJ (fun _ : Unit =>
    some true) fun J11 =>
    (iter (F_lecternref03_Same_l0 p0 p1) FUEL (0 : Int)).bind fun o =>
   match o with
   | .inl o1 => J11 o1
   | .inr o1 => some o1)
def F_lecternlaw03_ScanShows_l0 (x3 : (List T_scan_Token) × Int × Int) (a6 : List UInt8) (rec29 : (List UInt8) × (List Int) × Int → Option (((List UInt8) × (List Int)))) : (List UInt8) × (List Int) × Int → Option (((List UInt8) × (List Int)))
  | (a23, a24, a26) =>
  cond (decide (a26 < (x3.1.length : Int)))
   ((idx x3.1 a26).bind fun x32 =>
    (app 8 a24 [(a23.length : Int)]).bind fun _ =>
    (F_lecternlaw03_shown x32 a6).bind fun x35 =>
    (cat a23 x35).bind fun _ =>
   rec29 ((a23 ++ x35), (a24 ++ [(a23.length : Int)]), (IntKind.wrap .i64 (a26 + (1 : Int)))))
   (some (a23, a24))
def F_lecternlaw03_ScanShows_l1 (x3 : (List T_scan_Token) × Int × Int) (a20 : List Int) (x38 : (List T_scan_Token) × Int × Int) (rec227 : Int → Option (Unit ⊕ Bool)) (a224 : Int) : Option (Unit ⊕ Bool) :=
  cond (decide (a224 < (x3.1.length : Int)))
   ((idx x3.1 a224).bind fun x230 =>
    (idx x38.1 a224).bind fun x231 =>
    (F_lecternlaw03_doc x230).bind fun x232 =>
    (F_lecternlaw03_doc x231).bind fun x233 =>
   letJ (fun a241 : Bool =>
    cond a241
     (some (.inr false))
     (rec227 (IntKind.wrap .i64 (a224 + (1 : Int))))) fun J242 =>
    (F_lecternref03_Same (⟨x232.Kind, x232.At, x232.Name, x232.Pairs, x232.Text, (0 : Int)⟩ : T_lecternref03_Token) (⟨x233.Kind, x233.At, x233.Name, x233.Pairs, x233.Text, (0 : Int)⟩ : T_lecternref03_Token)).bind fun x243 =>
   cond (!x243)
    (J242 true)
    ((idx x38.1 a224).bind fun x246 =>
     (idx a20 a224).bind fun x247 =>
    J242 (x246.At != x247)))
   (some (.inl ()))
def F_lecternlaw03_ScanShows (p0 : List UInt8) (p1 : Bool) : Option (Bool) :=
   (F_lecternlaw03_awake ).bind fun x1 =>
  cond (!x1)
   (some false)
   ((F_scan_All p0).bind fun x3 =>
   cond (x3.2.2 != (0 : Int))
    (some true)
    (letJ (fun a6 : List UInt8 =>
     letJ (fun v : (List UInt8) × (List Int) => match v with
      | (a19, a20) =>
      cond (decide ((65533 : Int) < (a19.length : Int)))
       (some true)
       ((F_lecternlaw03_marked a19).bind fun x37 =>
        (F_scan_All x37).bind fun x38 =>
       cond ((x38.2.2 != (0 : Int)) || ((x38.1.length : Int) != (x3.1.length : Int)))
        (some false)
        (letJ (fun _ : Unit =>
         some true) fun J223 =>
         (iter (F_lecternlaw03_ScanShows_l1 x3 a20 x38) FUEL (0 : Int)).bind fun o =>
        match o with
        | .inl o1 => J223 o1
        | .inr o1 => some o1))) fun J22 =>
      (iter (F_lecternlaw03_ScanShows_l0 x3 a6) FUEL (([] : List UInt8), ([] : List Int), (0 : Int))).bind fun o =>
     J22 o) fun J7 =>
    cond p1
     (J7 ([39] : List UInt8))
     (J7 ([34] : List UInt8))))
def F_lecternref01_Lines_l0 (p0 : List UInt8) (rec44 : (List UInt8) × Int → Option (((List UInt8)))) : (List UInt8) × Int → Option (((List UInt8)))
  | (a39, a41) =>
  cond (decide (a41 < (p0.length : Int)))
   (letJ (fun a61 : List UInt8 =>
    rec44 (a61, (IntKind.wrap .i64 (a41 + (1 : Int))))) fun J63 =>
    (idx p0 a41).bind fun x64 =>
   cond ((x64.toNat : Int) == (13 : Int))
    ((u8 (10 : Int)).bind fun b66 =>
     (app 1 a39 [b66]).bind fun _ =>
    J63 (a39 ++ [b66]))
    ((idx p0 a41).bind fun x68 =>
     (letJ (fun v72 : Bool => cond v72
       ((idx p0 a41).bind fun x75 =>
        (u8 (x75.toNat : Int)).bind fun b76 =>
        (app 1 a39 [b76]).bind fun _ =>
       J63 (a39 ++ [b76]))
       (J63 a39)) fun J71 => cond (((x68.toNat : Int) != (10 : Int)) || (a41 == (0 : Int))) (J71 true) ((idx p0 (IntKind.wrap .i64 (a41 - (1 : Int)))).bind fun x73 =>
      J71 ((x73.toNat : Int) != (13 : Int))))))
   (some a39)
def F_lecternref01_Lines (p0 : List UInt8) : Option ((List UInt8)) :=
  letJ (fun a36 : List UInt8 =>
   some a36) fun J38 =>
   (iter (F_lecternref01_Lines_l0 p0) FUEL (([] : List UInt8), (0 : Int))).bind fun o =>
  J38 o
def F_lecternref03_Text (p0 : List UInt8) : Option ((List UInt8)) :=
  letJ (fun a15 : List UInt8 =>
    (F_lecternref01_Lines a15).bind fun x31 =>
   some x31) fun J16 =>
   (letJ (fun v19 : Bool => (letJ (fun v23 : Bool => (letJ (fun v27 : Bool => cond v27
         ((slc p0 (3 : Int) (p0.length : Int)).bind fun x30 =>
         J16 x30)
         (J16 p0)) fun J26 => cond v23 ((idx p0 (2 : Int)).bind fun x28 =>
        J26 ((x28.toNat : Int) == (191 : Int))) (J26 false))) fun J22 => cond v19 ((idx p0 (1 : Int)).bind fun x24 =>
      J22 ((x24.toNat : Int) == (187 : Int))) (J22 false))) fun J18 => cond (decide ((3 : Int) ≤ (p0.length : Int))) ((idx p0 (0 : Int)).bind fun x20 =>
    J18 ((x20.toNat : Int) == (239 : Int))) (J18 false))
end Go.Proofs.YtfokkdofcekdbaaDoor
