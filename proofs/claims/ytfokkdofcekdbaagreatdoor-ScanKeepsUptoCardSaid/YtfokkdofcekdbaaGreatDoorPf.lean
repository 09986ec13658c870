/- The plain functions. No condition. -/
import Derived.Test.YtfokkdofcekdbaaGreatDoorEng33
import Derived.Test.YtfokkdofcekdbaaGreatDoorLg03
set_option linter.unusedVariables false
set_option linter.unusedSimpArgs false
set_option maxRecDepth 20000
set_option maxHeartbeats 8000000
namespace Go.Proofs.YtfokkdofcekdbaaGreatDoor
structure T_char_span where
  lo : Int
  hi : Int
  deriving DecidableEq, Inhabited
def c_T_char_span (x : T_char_span) : List D := [.int .i32 x.lo, .int .i32 x.hi]
structure T_scan_scanner where
  b : List UInt8
  at_ : Int
  deriving DecidableEq, Inhabited
def c_T_scan_scanner (x : T_scan_scanner) : List D := [.sl 1 (List.map c_u8 x.b) 0, .int .i64 x.at_]
structure T_scan_Pair where
  Name : List UInt8
  Value : List UInt8
  deriving DecidableEq, Inhabited
def c_T_scan_Pair (x : T_scan_Pair) : List D := [.str x.Name, .str x.Value]
structure T_scan_Token where
  Kind : Int
  At : Int
  Name : List UInt8
  Pairs : List T_scan_Pair
  Text : List UInt8
  Refs : Int
  deriving DecidableEq, Inhabited
def c_T_scan_Token (x : T_scan_Token) : List D := [.int .i64 x.Kind, .int .i64 x.At, .str x.Name, .sl 2 (List.map c_T_scan_Pair x.Pairs) 0, .str x.Text, .int .i64 x.Refs]
structure T_lecternref03_Token where
  Kind : Int
  At : Int
  Name : List UInt8
  Pairs : List T_scan_Pair
  Text : List UInt8
  Refs : Int
  deriving DecidableEq, Inhabited
def c_T_lecternref03_Token (x : T_lecternref03_Token) : List D := [.int .i64 x.Kind, .int .i64 x.At, .str x.Name, .sl 2 (List.map c_T_scan_Pair x.Pairs) 0, .str x.Text, .int .i64 x.Refs]
def F_bytes_Equal (p0 : List UInt8) (p1 : List UInt8) : Option (Bool) :=
  some (p0 == p1)
def F_bytes_HasPrefix (p0 : List UInt8) (p1 : List UInt8) : Option (Bool) :=
   (letJ (fun v3 : Bool => some v3) fun J2 => cond (decide ((p1.length : Int) ≤ (p0.length : Int))) ((slc p0 (0 : Int) (p1.length : Int)).bind fun x4 =>
     (F_bytes_Equal x4 p1).bind fun x5 =>
    J2 x5) (J2 false))
def F_bytes_TrimPrefix (p0 : List UInt8) (p1 : List UInt8) : Option ((List UInt8)) :=
   (F_bytes_HasPrefix p0 p1).bind fun x1 =>
  cond x1
   ((slc p0 (p1.length : Int) (p0.length : Int)).bind fun x3 =>
   some x3)
   (some p0)
def F_char_Lines_l0 (p0 : List UInt8) (rec55 : (List UInt8) × Int → Option (((List UInt8)))) : (List UInt8) × Int → Option (((List UInt8)))
  | (a51, a52) =>
  cond (decide (a52 < (p0.length : Int)))
   (letJ (fun a78 : List UInt8 =>
    rec55 (a78, (IntKind.wrap .i64 (a52 + (1 : Int))))) fun J79 =>
    (idx p0 a52).bind fun x80 =>
   letJ (fun a88 : Int =>
     (u8 a88).bind fun b97 =>
     (app 1 a51 [b97]).bind fun _ =>
     (some (a51 ++ [b97])).bind fun a99 =>
    J79 a99) fun J89 =>
    (letJ (fun v93 : Bool => cond v93
      (J79 a51)
      (cond ((x80.toNat : Int) == (13 : Int))
       (J89 (10 : Int))
       (J89 (x80.toNat : Int)))) fun J92 => cond (((x80.toNat : Int) == (10 : Int)) && (decide ((0 : Int) < a52))) ((idx p0 (IntKind.wrap .i64 (a52 - (1 : Int)))).bind fun x94 =>
     J92 ((x94.toNat : Int) == (13 : Int))) (J92 false)))
   (some a51)
def F_char_Lines (p0 : List UInt8) : Option ((List UInt8)) :=
   (mkG 1 (0 : Int) (p0.length : Int)).bind fun _ =>
   (some (List.replicate (Int.toNat (0 : Int)) (0 : UInt8))).bind fun a2 =>
  letJ (fun a48 : List UInt8 =>
   some a48) fun J49 =>
   (iter (F_char_Lines_l0 p0) FUEL (a2, (0 : Int))).bind fun o =>
  J49 o
def F_scan_Plain (p0 : List UInt8) : Option ((List UInt8)) :=
   (u8 (239 : Int)).bind fun b1 =>
   (u8 (187 : Int)).bind fun b2 =>
   (u8 (191 : Int)).bind fun b3 =>
   (F_bytes_TrimPrefix p0 ([b1, b2, b3])).bind fun x4 =>
   (F_char_Lines x4).bind fun x5 =>
  some x5
def F_char_in_l0 (p0 : Int) (p1 : List T_char_span) (rec10 : Int → Option (Unit ⊕ Bool)) (a7 : Int) : Option (Unit ⊕ Bool) :=
  cond (decide (a7 < (p1.length : Int)))
   ((idx p1 a7).bind fun x13 =>
   cond (decide (p0 ≤ x13.hi))
    (some (.inr (decide (x13.lo ≤ p0))))
    (rec10 (IntKind.wrap .i64 (a7 + (1 : Int)))))
   (some (.inl ()))
def F_char_in (p0 : Int) (p1 : List T_char_span) : Option (Bool) :=
  letJ (fun _ : Unit =>
   some false) fun J6 =>
   (iter (F_char_in_l0 p0 p1) FUEL (0 : Int)).bind fun o =>
  match o with
  | .inl o1 => J6 o1
  | .inr o1 => some o1
def F_char_IsChar (p0 : Int) : Option (Bool) :=
   (letJ (fun v5 : Bool => some v5) fun J4 => cond (((p0 == (9 : Int)) || (p0 == (10 : Int))) || (p0 == (13 : Int))) (J4 true) ((F_char_in p0 ([(⟨(32 : Int), (55295 : Int)⟩ : T_char_span), (⟨(57344 : Int), (65533 : Int)⟩ : T_char_span), (⟨(65536 : Int), (1114111 : Int)⟩ : T_char_span)])).bind fun x6 =>
    J4 x6))
def F_char_Next (p0 : List UInt8) (p1 : Int) : Option (Int × Int × Int) :=
  cond ((decide (p1 < (0 : Int))) || (decide ((p0.length : Int) ≤ p1)))
   (some ((0 : Int), (0 : Int), (1 : Int)))
   ((slc p0 p1 (p0.length : Int)).bind fun x3 =>
    (L_DecodeRune x3).bind fun x4 =>
   cond ((x4.1 == (65533 : Int)) && (decide (x4.2 < (3 : Int))))
    (some ((0 : Int), (0 : Int), (20 : Int)))
    ((F_char_IsChar x4.1).bind fun x7 =>
    cond (!x7)
     (some ((0 : Int), (0 : Int), (21 : Int)))
     (some (x4.1, (IntKind.wrap .i64 (p1 + x4.2)), (0 : Int)))))
def F_char_Fault_l0 (p0 : List UInt8) (rec9 : Int → Option (Unit ⊕ (Int × Int))) (a6 : Int) : Option (Unit ⊕ (Int × Int)) :=
  cond (decide (a6 < (p0.length : Int)))
   ((F_char_Next p0 a6).bind fun x12 =>
   cond (x12.2.2 != (0 : Int))
    (some (.inr (a6, x12.2.2)))
    (rec9 x12.2.1))
   (some (.inl ()))
def F_char_Fault (p0 : List UInt8) : Option (Int × Int) :=
  letJ (fun _ : Unit =>
   some ((0 : Int), (0 : Int))) fun J5 =>
   (iter (F_char_Fault_l0 p0) FUEL (0 : Int)).bind fun o =>
  match o with
  | .inl o1 => J5 o1
  | .inr o1 => some o1
def F_scan_scanner_here (p0 : T_scan_scanner) (p1 : List UInt8) : Option (Bool) :=
   (slc p0.b p0.at_ (p0.b.length : Int)).bind fun x1 =>
   (F_bytes_HasPrefix x1 p1).bind fun x2 =>
  some x2
def F_scan_scanner_spaces_l0 (p0 : T_scan_scanner) (rec13 : Int → Option (Int)) (a10 : Int) : Option (Int) :=
   (letJ (fun v17 : Bool => cond v17
     (rec13 (IntKind.wrap .i64 (a10 + (1 : Int))))
     (some a10)) fun J16 => cond (decide (a10 < (p0.b.length : Int))) ((idx p0.b a10).bind fun x18 =>
     (L_IndexByte ([32, 9, 10, 13] : List UInt8) (x18.toNat : Int)).bind fun x19 =>
    J16 (decide ((0 : Int) ≤ x19))) (J16 false))
def F_scan_scanner_spaces (p0 : T_scan_scanner) (p1 : Int) : Option (Int) :=
  letJ (fun a8 : Int =>
   some a8) fun J9 =>
   (iter (F_scan_scanner_spaces_l0 p0) FUEL p1).bind fun o =>
  J9 o
def F_scan_scanner_sign (p0 : T_scan_scanner) (p1 : List UInt8) : Option (Int × T_scan_scanner) :=
   (F_scan_scanner_here p0 p1).bind fun x1 =>
  cond (!x1)
   (some ((23 : Int), p0))
   (some ((0 : Int), (⟨p0.b, (IntKind.wrap .i64 (p0.at_ + (p1.length : Int)))⟩ : T_scan_scanner)))
def F_scan_scanner_equals (p0 : T_scan_scanner) : Option (Int × T_scan_scanner) :=
   (F_scan_scanner_spaces p0 p0.at_).bind fun x1 =>
   (F_scan_scanner_sign (⟨p0.b, x1⟩ : T_scan_scanner) ([61] : List UInt8)).bind fun x2 =>
   (F_scan_scanner_spaces x2.2 x2.2.at_).bind fun x3 =>
  some (x2.1, (⟨x2.2.b, x3⟩ : T_scan_scanner))
def F_scan_scanner_quoted (p0 : T_scan_scanner) : Option (((List UInt8) × Int) × T_scan_scanner) :=
   (F_scan_scanner_here p0 ([39] : List UInt8)).bind fun x1 =>
   (letJ (fun v4 : Bool => cond v4
     (some ((([] : List UInt8), (23 : Int)), p0))
     ((slc p0.b (IntKind.wrap .i64 (p0.at_ + (1 : Int))) (p0.b.length : Int)).bind fun x7 =>
      (idx p0.b p0.at_).bind fun x8 =>
      (L_bIndexByte x7 (x8.toNat : Int)).bind fun x9 =>
     cond (decide (x9 < (0 : Int)))
      (some ((([] : List UInt8), (23 : Int)), p0))
      ((slc x7 (0 : Int) x9).bind fun x11 =>
      some ((x11, (0 : Int)), (⟨p0.b, (IntKind.wrap .i64 (p0.at_ + (IntKind.wrap .i64 (x9 + (2 : Int)))))⟩ : T_scan_scanner))))) fun J3 => cond (!x1) ((F_scan_scanner_here p0 ([34] : List UInt8)).bind fun x5 =>
    J3 (!x5)) (J3 false))
def F_stringslite_HasPrefix (p0 : List UInt8) (p1 : List UInt8) : Option (Bool) :=
   (letJ (fun v3 : Bool => some v3) fun J2 => cond (decide ((p1.length : Int) ≤ (p0.length : Int))) ((slc p0 (0 : Int) (p1.length : Int)).bind fun x4 =>
    J2 (x4 == p1)) (J2 false))
def F_stringslite_CutPrefix (p0 : List UInt8) (p1 : List UInt8) : Option ((List UInt8) × Bool) :=
   (F_stringslite_HasPrefix p0 p1).bind fun x1 =>
  cond (!x1)
   (some (p0, false))
   ((slc p0 (p1.length : Int) (p0.length : Int)).bind fun x3 =>
   some (x3, true))
def F_strings_CutPrefix (p0 : List UInt8) (p1 : List UInt8) : Option ((List UInt8) × Bool) :=
   (F_stringslite_CutPrefix p0 p1).bind fun x1 =>
  some (x1.1, x1.2)
def F_scan_fits (p0 : List UInt8) (p1 : List UInt8) : Option (Bool) :=
  cond (p0 == ([118, 101, 114, 115, 105, 111, 110] : List UInt8))
   ((F_strings_CutPrefix p1 ([49, 46] : List UInt8)).bind fun x2 =>
    (letJ (fun v6 : Bool => some v6) fun J5 => cond (x2.2 && (!(x2.1 == ([] : List UInt8)))) ((L_Trim x2.1 ([48, 49, 50, 51, 52, 53, 54, 55, 56, 57] : List UInt8)).bind fun x7 =>
     J5 (x7 == ([] : List UInt8))) (J5 false)))
   (cond (p0 == ([101, 110, 99, 111, 100, 105, 110, 103] : List UInt8))
    ((letJ (fun v11 : Bool => (letJ (fun v16 : Bool => some v16) fun J15 => cond v11 ((L_Trim p1 ([65, 66, 67, 68, 69, 70, 71, 72, 73, 74, 75, 76, 77, 78, 79, 80, 81, 82, 83, 84, 85, 86, 87, 88, 89, 90, 97, 98, 99, 100, 101, 102, 103, 104, 105, 106, 107, 108, 109, 110, 111, 112, 113, 114, 115, 116, 117, 118, 119, 120, 121, 122, 48, 49, 50, 51, 52, 53, 54, 55, 56, 57, 46, 95, 45] : List UInt8)).bind fun x17 =>
        J15 (x17 == ([] : List UInt8))) (J15 false))) fun J10 => cond (!(p1 == ([] : List UInt8))) ((idx p1 (0 : Int)).bind fun x12 =>
       (L_IndexByte ([65, 66, 67, 68, 69, 70, 71, 72, 73, 74, 75, 76, 77, 78, 79, 80, 81, 82, 83, 84, 85, 86, 87, 88, 89, 90, 97, 98, 99, 100, 101, 102, 103, 104, 105, 106, 107, 108, 109, 110, 111, 112, 113, 114, 115, 116, 117, 118, 119, 120, 121, 122] : List UInt8) (x12.toNat : Int)).bind fun x13 =>
      J10 (decide ((0 : Int) ≤ x13))) (J10 false)))
    (some ((p1 == ([121, 101, 115] : List UInt8)) || (p1 == ([110, 111] : List UInt8)))))
def F_strings_EqualFold_l1 (a94 : Int) (a95 : Int) (rec112 : Int → Option (Int)) (a109 : Int) : Option (Int) :=
  cond ((a109 != a94) && (decide (a109 < a95)))
   ((L_SimpleFold a109).bind fun x116 =>
   rec112 x116)
   (some a109)
def F_strings_EqualFold_l0 (x52 : List UInt8) (rec87 : (List UInt8) × Nat → Option (((List UInt8)) ⊕ Bool)) : (List UInt8) × Nat → Option (((List UInt8)) ⊕ Bool)
  | (a83, a84) =>
  cond (decide (a84 < x52.length))
   (cond ((a83.length : Int) == (0 : Int))
    (some (.inr false))
    ((L_DecodeRuneInString a83).bind fun x90 =>
     (slc a83 x90.2 (a83.length : Int)).bind fun x91 =>
    cond (x90.1 == (rnS x52 a84))
     (rec87 (x91, (a84 + wdS x52 a84)))
     (letJ (fun v : Int × Int => match v with
      | (a94, a95) =>
      cond (decide (a95 < (128 : Int)))
       (cond (((decide ((65 : Int) ≤ a94)) && (decide (a94 ≤ (90 : Int)))) && (a95 == (IntKind.wrap .i32 ((IntKind.wrap .i32 (a94 + (97 : Int))) - (65 : Int)))))
        (rec87 (x91, (a84 + wdS x52 a84)))
        (some (.inr false)))
       ((L_SimpleFold a94).bind fun x102 =>
       letJ (fun a107 : Int =>
        cond (a107 == a95)
         (rec87 (x91, (a84 + wdS x52 a84)))
         (some (.inr false))) fun J108 =>
        (iter (F_strings_EqualFold_l1 a94 a95) FUEL x102).bind fun o =>
       J108 o)) fun J96 =>
     cond (decide (x90.1 < (rnS x52 a84)))
      (J96 (x90.1, (rnS x52 a84)))
      (J96 ((rnS x52 a84), x90.1)))))
   (some (.inl a83))
def F_strings_EqualFold_l2 (p0 : List UInt8) (p1 : List UInt8) (rec146 : Int → Option (Unit ⊕ Int ⊕ Bool)) (a143 : Int) : Option (Unit ⊕ Int ⊕ Bool) :=
  cond (decide (a143 < (if (p1.length : Int) < (p0.length : Int) then (p1.length : Int) else (p0.length : Int))))
   (letJ (fun _ : Unit =>
    rec146 (IntKind.wrap .i64 (a143 + (1 : Int)))) fun J160 =>
    (idx p0 a143).bind fun x161 =>
    (idx p1 a143).bind fun x162 =>
   cond (decide ((128 : Int) ≤ (ior .u8 (x161.toNat : Int) (x162.toNat : Int))))
    (some (.inr (.inl a143)))
    (cond ((x162.toNat : Int) == (x161.toNat : Int))
     (J160 ())
     (letJ (fun v : Int × Int => match v with
      | (a166, a167) =>
      cond (((decide ((65 : Int) ≤ a166)) && (decide (a166 ≤ (90 : Int)))) && (a167 == (IntKind.wrap .u8 ((IntKind.wrap .u8 (a166 + (97 : Int))) - (65 : Int)))))
       (J160 ())
       (some (.inr (.inr false)))) fun J168 =>
     cond (decide ((x162.toNat : Int) < (x161.toNat : Int)))
      (J168 ((x162.toNat : Int), (x161.toNat : Int)))
      (J168 ((x161.toNat : Int), (x162.toNat : Int))))))
   (some (.inl ()))
def F_strings_EqualFold (p0 : List UInt8) (p1 : List UInt8) : Option (Bool) :=
  letJ (fun a49 : Int =>
    (slc p0 a49 (p0.length : Int)).bind fun x52 =>
    (slc p1 a49 (p1.length : Int)).bind fun x53 =>
   letJ (fun a80 : List UInt8 =>
    some ((a80.length : Int) == (0 : Int))) fun J81 =>
    (iter (F_strings_EqualFold_l0 x52) FUEL (x53, (0 : Nat))).bind fun o =>
   match o with
   | .inl o1 => J81 o1
   | .inr o1 => some o1) fun J50 =>
  letJ (fun _ : Unit =>
   some ((p0.length : Int) == (p1.length : Int))) fun J142 =>
   (iter (F_strings_EqualFold_l2 p0 p1) FUEL (0 : Int)).bind fun o =>
  match o with
  | .inl o1 => J142 o1
  | .inr (.inl o1) => J50 o1
  | .inr (.inr o1) => some o1
def F_scan_scanner_decl_l0 (rec82 : (List UInt8) × Int × Int × Int × (List UInt8) × (List T_scan_Pair) × (List UInt8) × Int × (List UInt8) × Int → Option (((List UInt8) × Int × (List UInt8) × Int × Int × (List UInt8) × (List T_scan_Pair) × (List UInt8) × Int) ⊕ (Int × T_scan_scanner × T_scan_Token))) : (List UInt8) × Int × Int × Int × (List UInt8) × (List T_scan_Pair) × (List UInt8) × Int × (List UInt8) × Int → Option (((List UInt8) × Int × (List UInt8) × Int × Int × (List UInt8) × (List T_scan_Pair) × (List UInt8) × Int) ⊕ (Int × T_scan_scanner × T_scan_Token))
  | (a69, a70, a71, a72, a73, a75, a76, a77, a78, a79) =>
  cond (decide (a79 < ([([118, 101, 114, 115, 105, 111, 110] : List UInt8), ([101, 110, 99, 111, 100, 105, 110, 103] : List UInt8), ([115, 116, 97, 110, 100, 97, 108, 111, 110, 101] : List UInt8)].length : Int)))
   (letJ (fun v : (List UInt8) × Int × (List T_scan_Pair) × (List UInt8) => match v with
    | (a105, a106, a108, a109) =>
    rec82 (a105, a106, a71, a72, a73, a108, a76, a77, a109, (IntKind.wrap .i64 (a79 + (1 : Int))))) fun J110 =>
    (idx [([118, 101, 114, 115, 105, 111, 110] : List UInt8), ([101, 110, 99, 111, 100, 105, 110, 103] : List UInt8), ([115, 116, 97, 110, 100, 97, 108, 111, 110, 101] : List UInt8)] a79).bind fun x111 =>
    (F_scan_scanner_spaces (⟨a69, a70⟩ : T_scan_scanner) a70).bind fun x112 =>
    (letJ (fun v115 : Bool => cond v115
      (cond (x111 == ([118, 101, 114, 115, 105, 111, 110] : List UInt8))
       (some (.inr ((23 : Int), (⟨a69, a70⟩ : T_scan_scanner), (⟨a71, a72, a73, a75, a76, a77⟩ : T_scan_Token))))
       (J110 (a69, a70, a75, a78)))
      ((F_scan_scanner_equals (⟨a69, (IntKind.wrap .i64 (x112 + (x111.length : Int)))⟩ : T_scan_scanner)).bind fun x120 =>
      cond (x120.1 != (0 : Int))
       (some (.inr ((23 : Int), x120.2, (⟨a71, a72, a73, a75, a76, a77⟩ : T_scan_Token))))
       ((F_scan_scanner_quoted x120.2).bind fun x122 =>
        (letJ (fun v125 : Bool => cond v125
          (some (.inr ((23 : Int), x122.2, (⟨a71, a72, a73, a75, a76, a77⟩ : T_scan_Token))))
          ((app 32 a75 [(⟨x111, x122.1.1⟩ : T_scan_Pair)]).bind fun _ =>
           (some (a75 ++ [(⟨x111, x122.1.1⟩ : T_scan_Pair)])).bind fun a129 =>
          cond (x111 == ([101, 110, 99, 111, 100, 105, 110, 103] : List UInt8))
           (J110 (x122.2.b, x122.2.at_, a129, x122.1.1))
           (J110 (x122.2.b, x122.2.at_, a129, a78)))) fun J124 => cond (x122.1.2 != (0 : Int)) (J124 true) ((F_scan_fits x111 x122.1.1).bind fun x126 =>
         J124 (!x126)))))) fun J114 => cond (x112 == a70) (J114 true) ((slc a69 x112 (a69.length : Int)).bind fun x116 =>
      (F_bytes_HasPrefix x116 x111).bind fun x117 =>
     J114 (!x117))))
   (some (.inl (a69, a70, a78, a71, a72, a73, a75, a76, a77)))
def F_scan_scanner_decl (p0 : T_scan_scanner) (p1 : T_scan_Token) : Option (Int × T_scan_scanner × T_scan_Token) :=
  letJ (fun v : (List UInt8) × Int × (List UInt8) × Int × Int × (List UInt8) × (List T_scan_Pair) × (List UInt8) × Int => match v with
   | (a58, a59, a60, a61, a62, a63, a65, a66, a67) =>
    (F_scan_scanner_spaces (⟨a58, a59⟩ : T_scan_scanner) a59).bind fun x131 =>
    (F_scan_scanner_sign (⟨a58, x131⟩ : T_scan_scanner) ([63, 62] : List UInt8)).bind fun x132 =>
   cond (x132.1 != (0 : Int))
    (some (x132.1, x132.2, (⟨a61, a62, a63, a65, a66, a67⟩ : T_scan_Token)))
    ((letJ (fun v136 : Bool => cond v136
       (some ((25 : Int), x132.2, (⟨a61, a62, a63, a65, a66, a67⟩ : T_scan_Token)))
       (some ((0 : Int), x132.2, (⟨a61, a62, a63, a65, a66, a67⟩ : T_scan_Token)))) fun J135 => cond (!(a60 == ([] : List UInt8))) ((F_strings_EqualFold a60 ([117, 116, 102, 45, 56] : List UInt8)).bind fun x137 =>
      J135 (!x137)) (J135 false)))) fun J68 =>
   (iter (F_scan_scanner_decl_l0) FUEL (p0.b, (5 : Int), (1 : Int), p1.At, p1.Name, p1.Pairs, p1.Text, p1.Refs, ([] : List UInt8), (0 : Int))).bind fun o =>
  match o with
  | .inl o1 => J68 o1
  | .inr o1 => some o1
def F_scan_scanner_upTo (p0 : T_scan_scanner) (p1 : T_scan_Token) (p2 : Int) (p3 : List UInt8) : Option (Int × T_scan_scanner × T_scan_Token) :=
   (slc p0.b (IntKind.wrap .i64 (p0.at_ + p2)) (p0.b.length : Int)).bind fun x1 =>
   (L_bIndex x1 p3).bind fun x2 =>
  cond (decide (x2 < (0 : Int)))
   (some ((23 : Int), p0, p1))
   ((slc x1 (0 : Int) x2).bind fun x4 =>
   some ((0 : Int), (⟨p0.b, (IntKind.wrap .i64 (p0.at_ + (IntKind.wrap .i64 ((IntKind.wrap .i64 (p2 + x2)) + (p3.length : Int)))))⟩ : T_scan_scanner), (⟨p1.Kind, p1.At, p1.Name, p1.Pairs, x4, p1.Refs⟩ : T_scan_Token)))
def F_char_IsStart (p0 : Int) : Option (Bool) :=
  cond (decide (p0 < (128 : Int)))
   (some ((((decide ((97 : Int) ≤ p0)) && (decide (p0 ≤ (122 : Int)))) || ((decide ((65 : Int) ≤ p0)) && (decide (p0 ≤ (90 : Int))))) || (p0 == (95 : Int))))
   ((F_char_in p0 ([(⟨(192 : Int), (214 : Int)⟩ : T_char_span), (⟨(216 : Int), (246 : Int)⟩ : T_char_span), (⟨(248 : Int), (767 : Int)⟩ : T_char_span), (⟨(880 : Int), (893 : Int)⟩ : T_char_span), (⟨(895 : Int), (8191 : Int)⟩ : T_char_span), (⟨(8204 : Int), (8205 : Int)⟩ : T_char_span), (⟨(8304 : Int), (8591 : Int)⟩ : T_char_span), (⟨(11264 : Int), (12271 : Int)⟩ : T_char_span), (⟨(12289 : Int), (55295 : Int)⟩ : T_char_span), (⟨(63744 : Int), (64975 : Int)⟩ : T_char_span), (⟨(65008 : Int), (65533 : Int)⟩ : T_char_span), (⟨(65536 : Int), (983039 : Int)⟩ : T_char_span)])).bind fun x7 =>
   some x7)
def F_char_IsPart (p0 : Int) : Option (Bool) :=
   (F_char_IsStart p0).bind fun x1 =>
   (letJ (fun v10 : Bool => some v10) fun J9 => cond ((((x1 || (p0 == (45 : Int))) || (p0 == (46 : Int))) || ((decide ((48 : Int) ≤ p0)) && (decide (p0 ≤ (57 : Int))))) || (p0 == (183 : Int))) (J9 true) ((F_char_in p0 ([(⟨(768 : Int), (879 : Int)⟩ : T_char_span), (⟨(8255 : Int), (8256 : Int)⟩ : T_char_span)])).bind fun x11 =>
    J9 x11))
def F_char_Name_l0 (p0 : List UInt8) (rec23 : Nat → Option (Unit ⊕ Bool)) (a20 : Nat) : Option (Unit ⊕ Bool) :=
  cond (decide (a20 < p0.length))
   ((letJ (fun v27 : Bool => (letJ (fun v31 : Bool => cond v31
        (some (.inr false))
        (rec23 (a20 + wdS p0 a20))) fun J30 => cond v27 (J30 true) ((F_char_IsPart (rnS p0 a20)).bind fun x32 =>
       J30 (!x32)))) fun J26 => cond (((a20 : Nat) : Int) == (0 : Int)) ((F_char_IsStart (rnS p0 a20)).bind fun x28 =>
     J26 (!x28)) (J26 false)))
   (some (.inl ()))
def F_char_Name (p0 : List UInt8) : Option (Bool) :=
   (letJ (fun v4 : Bool => cond v4
     (some false)
     (letJ (fun _ : Unit =>
      some true) fun J18 =>
      (iter (F_char_Name_l0 p0) FUEL (0 : Nat)).bind fun o =>
     match o with
     | .inl o1 => J18 o1
     | .inr o1 => some o1)) fun J3 => cond ((p0 == ([] : List UInt8)) || (decide ((100 : Int) < (p0.length : Int)))) (J3 true) ((L_ValidString p0).bind fun x5 =>
    J3 (!x5)))
def F_char_Split (p0 : List UInt8) : Option ((List UInt8) × (List UInt8) × Bool) :=
   (L_Cut p0 ([58] : List UInt8)).bind fun x1 =>
   (letJ (fun v4 : Bool => cond v4
     (some (([] : List UInt8), p0, true))
     ((letJ (fun v9 : Bool => (letJ (fun v13 : Bool => cond v13
          (some (x1.1, x1.2.1, true))
          (some (([] : List UInt8), ([] : List UInt8), false))) fun J12 => cond v9 ((F_char_Name x1.2.1).bind fun x14 =>
         J12 x14) (J12 false))) fun J8 => cond x1.2.2 ((F_char_Name x1.1).bind fun x10 =>
       J8 x10) (J8 false)))) fun J3 => cond (!x1.2.2) ((F_char_Name p0).bind fun x5 =>
    J3 x5) (J3 false))
def F_scan_scanner_name_l0 (p0 : T_scan_scanner) (rec22 : Int → Option (Int)) (a19 : Int) : Option (Int) :=
  cond (decide (a19 < (p0.b.length : Int)))
   ((slc p0.b a19 (p0.b.length : Int)).bind fun x25 =>
    (L_DecodeRune x25).bind fun x26 =>
    (letJ (fun v29 : Bool => cond v29
      (some a19)
      (rec22 (IntKind.wrap .i64 (a19 + x26.2)))) fun J28 => cond (x26.1 != (58 : Int)) ((F_char_IsPart x26.1).bind fun x30 =>
      (letJ (fun v33 : Bool => J28 v33) fun J32 => cond (!x30) (J32 true) ((letJ (fun v36 : Bool => J32 v36) fun J35 => cond (a19 == p0.at_) ((F_char_IsStart x26.1).bind fun x37 =>
         J35 (!x37)) (J35 false))))) (J28 false)))
   (some a19)
def F_scan_scanner_name (p0 : T_scan_scanner) : Option (((List UInt8) × Int) × T_scan_scanner) :=
  letJ (fun a17 : Int =>
    (slc p0.b p0.at_ a17).bind fun x39 =>
   cond (x39 == ([] : List UInt8))
    (some ((([] : List UInt8), (23 : Int)), p0))
    ((F_char_Split x39).bind fun x41 =>
    cond (!x41.2.2)
     (some ((([] : List UInt8), (24 : Int)), p0))
     (some ((x39, (0 : Int)), (⟨p0.b, a17⟩ : T_scan_scanner))))) fun J18 =>
   (iter (F_scan_scanner_name_l0 p0) FUEL p0.at_).bind fun o =>
  J18 o
def F_scan_scanner_instr (p0 : T_scan_scanner) (p1 : T_scan_Token) : Option (Int × T_scan_scanner × T_scan_Token) :=
   (F_scan_scanner_name (⟨p0.b, (IntKind.wrap .i64 (p0.at_ + (2 : Int)))⟩ : T_scan_scanner)).bind fun x1 =>
  cond (x1.1.2 != (0 : Int))
   (some (x1.1.2, x1.2, (⟨(8 : Int), p1.At, p1.Name, p1.Pairs, p1.Text, p1.Refs⟩ : T_scan_Token)))
   ((F_char_Name x1.1.1).bind fun x3 =>
   cond (!x3)
    (some ((24 : Int), x1.2, (⟨(8 : Int), p1.At, p1.Name, p1.Pairs, p1.Text, p1.Refs⟩ : T_scan_Token)))
    ((F_strings_EqualFold x1.1.1 ([120, 109, 108] : List UInt8)).bind fun x5 =>
    cond x5
     (some ((29 : Int), x1.2, (⟨(8 : Int), p1.At, p1.Name, p1.Pairs, p1.Text, p1.Refs⟩ : T_scan_Token)))
     ((F_scan_scanner_here x1.2 ([63, 62] : List UInt8)).bind fun x7 =>
     cond x7
      ((F_scan_scanner_sign x1.2 ([63, 62] : List UInt8)).bind fun x9 =>
      some (x9.1, x9.2, (⟨(8 : Int), p1.At, x1.1.1, p1.Pairs, p1.Text, p1.Refs⟩ : T_scan_Token)))
      ((F_scan_scanner_spaces x1.2 x1.2.at_).bind fun x10 =>
      cond (x10 == x1.2.at_)
       (some ((23 : Int), x1.2, (⟨(8 : Int), p1.At, x1.1.1, p1.Pairs, p1.Text, p1.Refs⟩ : T_scan_Token)))
       ((F_scan_scanner_upTo (⟨x1.2.b, x10⟩ : T_scan_scanner) (⟨(8 : Int), p1.At, x1.1.1, p1.Pairs, p1.Text, p1.Refs⟩ : T_scan_Token) (0 : Int) ([63, 62] : List UInt8)).bind fun x12 =>
       some (x12.1, x12.2.1, x12.2.2))))))
def F_scan_scanner_closing (p0 : T_scan_scanner) (p1 : T_scan_Token) : Option (Int × T_scan_scanner × T_scan_Token) :=
   (F_scan_scanner_name (⟨p0.b, (IntKind.wrap .i64 (p0.at_ + (2 : Int)))⟩ : T_scan_scanner)).bind fun x1 =>
  cond (x1.1.2 != (0 : Int))
   (some (x1.1.2, x1.2, (⟨(3 : Int), p1.At, p1.Name, p1.Pairs, p1.Text, p1.Refs⟩ : T_scan_Token)))
   ((F_scan_scanner_spaces x1.2 x1.2.at_).bind fun x3 =>
    (F_scan_scanner_sign (⟨x1.2.b, x3⟩ : T_scan_scanner) ([62] : List UInt8)).bind fun x4 =>
   some (x4.1, x4.2, (⟨(3 : Int), p1.At, x1.1.1, p1.Pairs, p1.Text, p1.Refs⟩ : T_scan_Token)))
def F_refer_digit (p0 : Int) : Option (Int) :=
  cond ((decide ((48 : Int) ≤ p0)) && (decide (p0 ≤ (57 : Int))))
   (some (IntKind.wrap .i64 (IntKind.wrap .u8 (p0 - (48 : Int)))))
   (cond ((decide ((97 : Int) ≤ p0)) && (decide (p0 ≤ (102 : Int))))
    (some (IntKind.wrap .i64 ((IntKind.wrap .i64 (IntKind.wrap .u8 (p0 - (97 : Int)))) + (10 : Int))))
    (cond ((decide ((65 : Int) ≤ p0)) && (decide (p0 ≤ (70 : Int))))
     (some (IntKind.wrap .i64 ((IntKind.wrap .i64 (IntKind.wrap .u8 (p0 - (65 : Int)))) + (10 : Int))))
     (some (99 : Int))))
def F_refer_meant_l0 (a9 : List UInt8) (a10 : Int) (rec28 : Int × Int → Option (Int ⊕ (Int × Int))) : Int × Int → Option (Int ⊕ (Int × Int))
  | (a24, a25) =>
  cond (decide (a25 < (a9.length : Int)))
   ((idx a9 a25).bind fun x31 =>
    (F_refer_digit (x31.toNat : Int)).bind fun x32 =>
   cond (decide (a10 ≤ x32))
    (some (.inr ((0 : Int), (22 : Int))))
    (rec28 ((if (1114112 : Int) < (IntKind.wrap .i64 ((IntKind.wrap .i64 (a24 * a10)) + x32)) then (1114112 : Int) else (IntKind.wrap .i64 ((IntKind.wrap .i64 (a24 * a10)) + x32))), (IntKind.wrap .i64 (a25 + (1 : Int))))))
   (some (.inl a24))
def F_refer_meant (p0 : List UInt8) : Option (Int × Int) :=
  cond (p0 == ([108, 116] : List UInt8))
   (some ((60 : Int), (0 : Int)))
   (cond (p0 == ([103, 116] : List UInt8))
    (some ((62 : Int), (0 : Int)))
    (cond (p0 == ([97, 109, 112] : List UInt8))
     (some ((38 : Int), (0 : Int)))
     (cond (p0 == ([97, 112, 111, 115] : List UInt8))
      (some ((39 : Int), (0 : Int)))
      (cond (p0 == ([113, 117, 111, 116] : List UInt8))
       (some ((34 : Int), (0 : Int)))
       ((F_strings_CutPrefix p0 ([35] : List UInt8)).bind fun x6 =>
       letJ (fun v : (List UInt8) × Int => match v with
        | (a9, a10) =>
        cond ((!x6.2) || (a9 == ([] : List UInt8)))
         (some ((0 : Int), (22 : Int)))
         (letJ (fun a22 : Int =>
           (F_char_IsChar (IntKind.wrap .i32 a22)).bind fun x34 =>
          cond (!x34)
           (some ((0 : Int), (21 : Int)))
           (some ((IntKind.wrap .i32 a22), (0 : Int)))) fun J23 =>
          (iter (F_refer_meant_l0 a9 a10) FUEL ((0 : Int), (0 : Int))).bind fun o =>
         match o with
         | .inl o1 => J23 o1
         | .inr o1 => some o1)) fun J11 =>
        (F_strings_CutPrefix x6.1 ([120] : List UInt8)).bind fun x12 =>
       cond x12.2
        (J11 (x12.1, (16 : Int)))
        (J11 (x6.1, (10 : Int))))))))
def F_refer_Expand (p0 : List UInt8) (p1 : Int) : Option (Int × Int × Int) :=
   (letJ (fun v4 : Bool => cond v4
     (some ((0 : Int), (0 : Int), (1 : Int)))
     ((slc p0 p1 (p0.length : Int)).bind fun x7 =>
      (L_bIndexByte x7 (59 : Int)).bind fun x8 =>
     cond (decide (x8 < (0 : Int)))
      (some ((0 : Int), (0 : Int), (22 : Int)))
      ((slc p0 (IntKind.wrap .i64 (p1 + (1 : Int))) (IntKind.wrap .i64 (p1 + x8))).bind fun x10 =>
       (F_refer_meant x10).bind fun x11 =>
      cond (x11.2 != (0 : Int))
       (some ((0 : Int), (0 : Int), x11.2))
       (some (x11.1, (IntKind.wrap .i64 ((IntKind.wrap .i64 (p1 + x8)) + (1 : Int))), (0 : Int)))))) fun J3 => cond ((decide (p1 < (0 : Int))) || (decide ((p0.length : Int) ≤ p1))) (J3 true) ((idx p0 p1).bind fun x5 =>
    J3 ((x5.toNat : Int) != (38 : Int))))
def F_refer_read_l0 (p0 : List UInt8) (p1 : Bool) (rec60 : (List UInt8) × Int → Option (((List UInt8)) ⊕ ((List UInt8) × Int × Int))) : (List UInt8) × Int → Option (((List UInt8)) ⊕ ((List UInt8) × Int × Int))
  | (a55, a57) =>
  cond (decide (a57 < (p0.length : Int)))
   ((F_char_Next p0 a57).bind fun x63 =>
   letJ (fun v : Int × Int => match v with
    | (a85, a86) =>
     (app 1 a55 (Utf8.encode a85).data.toList).bind fun _ =>
    rec60 ((a55 ++ (Utf8.encode a85).data.toList), a86)) fun J87 =>
   cond (x63.2.2 != (0 : Int))
    (some (.inr (([] : List UInt8), a57, x63.2.2)))
    ((letJ (fun v91 : Bool => cond v91
       (some (.inr (([] : List UInt8), a57, (23 : Int))))
       (cond (x63.1 == (38 : Int))
        ((F_refer_Expand p0 a57).bind fun x101 =>
        cond (x101.2.2 != (0 : Int))
         (some (.inr (([] : List UInt8), a57, x101.2.2)))
         (J87 (x101.1, x101.2.1)))
        (cond (p1 && (((x63.1 == (9 : Int)) || (x63.1 == (10 : Int))) || (x63.1 == (13 : Int))))
         (J87 ((32 : Int), x63.2.1))
         (J87 (x63.1, x63.2.1))))) fun J90 => cond (x63.1 == (60 : Int)) (J90 true) ((letJ (fun v94 : Bool => J90 v94) fun J93 => cond (!p1) ((slc p0 a57 (p0.length : Int)).bind fun x95 =>
         (F_bytes_HasPrefix x95 ([93, 93, 62] : List UInt8)).bind fun x98 =>
        J93 x98) (J93 false))))))
   (some (.inl a55))
def F_refer_read (p0 : List UInt8) (p1 : Bool) : Option ((List UInt8) × Int × Int) :=
  letJ (fun a52 : List UInt8 =>
   some (a52, (0 : Int), (0 : Int))) fun J54 =>
   (iter (F_refer_read_l0 p0 p1) FUEL (([] : List UInt8), (0 : Int))).bind fun o =>
  match o with
  | .inl o1 => J54 o1
  | .inr o1 => some o1
def F_refer_ReadValue (p0 : List UInt8) : Option ((List UInt8) × Int × Int) :=
   (F_refer_read p0 true).bind fun x1 =>
  some (x1.1, x1.2.1, x1.2.2)
def F_scan_scanner_tag_l1 (a6 : Int) (a7 : Int) (a8 : List UInt8) (a10 : List T_scan_Pair) (a11 : List UInt8) (a12 : Int) (x27 : ((List UInt8) × Int) × T_scan_scanner) (x31 : ((List UInt8) × Int) × T_scan_scanner) (rec44 : Int → Option (Unit ⊕ (Int × T_scan_scanner × T_scan_Token))) (a41 : Int) : Option (Unit ⊕ (Int × T_scan_scanner × T_scan_Token)) :=
  cond (decide (a41 < (a10.length : Int)))
   ((idx a10 a41).bind fun x47 =>
   cond (x47.Name == x27.1.1)
    (some (.inr ((27 : Int), x31.2, (⟨a6, a7, a8, a10, a11, a12⟩ : T_scan_Token))))
    (rec44 (IntKind.wrap .i64 (a41 + (1 : Int)))))
   (some (.inl ()))
def F_scan_scanner_tag_l0 (rec17 : (List UInt8) × Int × Int × Int × (List UInt8) × (List T_scan_Pair) × (List UInt8) × Int × (List UInt8) × (List UInt8) → Option ((Int × T_scan_scanner × T_scan_Token))) : (List UInt8) × Int × Int × Int × (List UInt8) × (List T_scan_Pair) × (List UInt8) × Int × (List UInt8) × (List UInt8) → Option ((Int × T_scan_scanner × T_scan_Token))
  | (a4, a5, a6, a7, a8, a10, a11, a12, a13, a14) =>
   (F_scan_scanner_spaces (⟨a4, a5⟩ : T_scan_scanner) a5).bind fun x19 =>
   (F_scan_scanner_here (⟨a4, x19⟩ : T_scan_scanner) ([47, 62] : List UInt8)).bind fun x20 =>
  cond x20
   ((F_scan_scanner_sign (⟨a4, x19⟩ : T_scan_scanner) ([47, 62] : List UInt8)).bind fun x22 =>
   some (x22.1, x22.2, (⟨(4 : Int), a7, a8, a10, a11, a12⟩ : T_scan_Token)))
   ((F_scan_scanner_here (⟨a4, x19⟩ : T_scan_scanner) ([62] : List UInt8)).bind fun x23 =>
   cond x23
    ((F_scan_scanner_sign (⟨a4, x19⟩ : T_scan_scanner) ([62] : List UInt8)).bind fun x25 =>
    some (x25.1, x25.2, (⟨a6, a7, a8, a10, a11, a12⟩ : T_scan_Token)))
    (cond (x19 == a5)
     (some ((23 : Int), (⟨a4, x19⟩ : T_scan_scanner), (⟨a6, a7, a8, a10, a11, a12⟩ : T_scan_Token)))
     ((F_scan_scanner_name (⟨a4, x19⟩ : T_scan_scanner)).bind fun x27 =>
     cond (x27.1.2 != (0 : Int))
      (some (x27.1.2, x27.2, (⟨a6, a7, a8, a10, a11, a12⟩ : T_scan_Token)))
      ((F_scan_scanner_equals x27.2).bind fun x29 =>
      cond (x29.1 != (0 : Int))
       (some (x29.1, x29.2, (⟨a6, a7, a8, a10, a11, a12⟩ : T_scan_Token)))
       ((F_scan_scanner_quoted x29.2).bind fun x31 =>
       cond (x31.1.2 != (0 : Int))
        (some (x31.1.2, x31.2, (⟨a6, a7, a8, a10, a11, a12⟩ : T_scan_Token)))
        ((F_refer_ReadValue x31.1.1).bind fun x33 =>
        cond (x33.2.2 != (0 : Int))
         (some (x33.2.2, x31.2, (⟨a6, a7, a8, a10, a11, a12⟩ : T_scan_Token)))
         (letJ (fun _ : Unit =>
           (app 32 a10 [(⟨x27.1.1, x33.1⟩ : T_scan_Pair)]).bind fun _ =>
           (some (a10 ++ [(⟨x27.1.1, x33.1⟩ : T_scan_Pair)])).bind fun a51 =>
          rec17 (x31.2.b, x31.2.at_, a6, a7, a8, a51, a11, a12, x27.1.1, x33.1)) fun J40 =>
          (iter (F_scan_scanner_tag_l1 a6 a7 a8 a10 a11 a12 x27 x31) FUEL (0 : Int)).bind fun o =>
         match o with
         | .inl o1 => J40 o1
         | .inr o1 => some o1)))))))
def F_scan_scanner_tag (p0 : T_scan_scanner) (p1 : T_scan_Token) : Option (Int × T_scan_scanner × T_scan_Token) :=
   (F_scan_scanner_name (⟨p0.b, (IntKind.wrap .i64 (p0.at_ + (1 : Int)))⟩ : T_scan_scanner)).bind fun x2 =>
  cond (x2.1.2 != (0 : Int))
   (some (x2.1.2, x2.2, p1))
   ((iter (F_scan_scanner_tag_l0) FUEL (x2.2.b, x2.2.at_, (2 : Int), p1.At, x2.1.1, p1.Pairs, p1.Text, p1.Refs, ([] : List UInt8), ([] : List UInt8))).bind fun o =>
   some o)
def F_refer_ReadText (p0 : List UInt8) : Option ((List UInt8) × Int × Int) :=
   (F_refer_read p0 false).bind fun x1 =>
  some (x1.1, x1.2.1, x1.2.2)
def F_scan_scanner_text (p0 : T_scan_scanner) (p1 : T_scan_Token) : Option (Int × T_scan_scanner × T_scan_Token) :=
   (slc p0.b p0.at_ (p0.b.length : Int)).bind fun x1 =>
  letJ (fun a5 : List UInt8 =>
    (F_refer_ReadText a5).bind fun x10 =>
    (L_bCount a5 ([38] : List UInt8)).bind fun x13 =>
   some (x10.2.2, (⟨p0.b, (IntKind.wrap .i64 (p0.at_ + (a5.length : Int)))⟩ : T_scan_scanner), (⟨(5 : Int), p1.At, p1.Name, p1.Pairs, x10.1, x13⟩ : T_scan_Token))) fun J6 =>
   (L_bIndexByte x1 (60 : Int)).bind fun x7 =>
  cond (decide ((0 : Int) ≤ x7))
   ((slc x1 (0 : Int) x7).bind fun x9 =>
   J6 x9)
   (J6 x1)
def F_scan_scanner_token (p0 : T_scan_scanner) (p1 : T_scan_Token) : Option (Int × T_scan_scanner × T_scan_Token) :=
   (letJ (fun v3 : Bool => (letJ (fun v7 : Bool => cond v7
       ((F_scan_scanner_decl p0 p1).bind fun x10 =>
       some (x10.1, x10.2.1, x10.2.2))
       ((F_scan_scanner_here p0 ([60, 33, 45, 45] : List UInt8)).bind fun x12 =>
       cond x12
        ((F_scan_scanner_upTo p0 (⟨(7 : Int), p1.At, p1.Name, p1.Pairs, p1.Text, p1.Refs⟩ : T_scan_Token) (4 : Int) ([45, 45] : List UInt8)).bind fun x14 =>
        cond (x14.1 != (0 : Int))
         (some (x14.1, x14.2.1, x14.2.2))
         ((F_scan_scanner_sign x14.2.1 ([62] : List UInt8)).bind fun x17 =>
         some (x17.1, x17.2, x14.2.2)))
        ((F_scan_scanner_here p0 ([60, 33, 91, 67, 68, 65, 84, 65, 91] : List UInt8)).bind fun x18 =>
        cond x18
         ((F_scan_scanner_upTo p0 (⟨(6 : Int), p1.At, p1.Name, p1.Pairs, p1.Text, p1.Refs⟩ : T_scan_Token) (9 : Int) ([93, 93, 62] : List UInt8)).bind fun x20 =>
         some (x20.1, x20.2.1, x20.2.2))
         ((F_scan_scanner_here p0 ([60, 33, 68, 79, 67, 84, 89, 80, 69] : List UInt8)).bind fun x22 =>
         cond x22
          (some ((25 : Int), p0, p1))
          ((F_scan_scanner_here p0 ([60, 33] : List UInt8)).bind fun x24 =>
          cond x24
           (some ((23 : Int), p0, p1))
           ((F_scan_scanner_here p0 ([60, 63] : List UInt8)).bind fun x26 =>
           cond x26
            ((F_scan_scanner_instr p0 p1).bind fun x28 =>
            some (x28.1, x28.2.1, x28.2.2))
            ((F_scan_scanner_here p0 ([60, 47] : List UInt8)).bind fun x30 =>
            cond x30
             ((F_scan_scanner_closing p0 p1).bind fun x32 =>
             some (x32.1, x32.2.1, x32.2.2))
             ((F_scan_scanner_here p0 ([60] : List UInt8)).bind fun x34 =>
             cond x34
              ((F_scan_scanner_tag p0 p1).bind fun x36 =>
              some (x36.1, x36.2.1, x36.2.2))
              ((F_scan_scanner_text p0 p1).bind fun x38 =>
              some (x38.1, x38.2.1, x38.2.2)))))))))) fun J6 => cond v3 ((F_scan_scanner_spaces p0 (5 : Int)).bind fun x8 =>
      J6 (decide ((5 : Int) < x8))) (J6 false))) fun J2 => cond (p0.at_ == (0 : Int)) ((F_scan_scanner_here p0 ([60, 63, 120, 109, 108] : List UInt8)).bind fun x4 =>
    J2 x4) (J2 false))
def F_scan_All_l0 (rec13 : (List UInt8) × Int × (List T_scan_Token) → Option (((List T_scan_Token) × Int × Int))) : (List UInt8) × Int × (List T_scan_Token) → Option (((List T_scan_Token) × Int × Int))
  | (a7, a8, a10) =>
  cond (a8 == (a7.length : Int))
   (some (a10, (0 : Int), (0 : Int)))
   ((F_scan_scanner_token (⟨a7, a8⟩ : T_scan_scanner) (⟨(0 : Int), a8, ([] : List UInt8), ([] : List T_scan_Pair), ([] : List UInt8), (0 : Int)⟩ : T_scan_Token)).bind fun x20 =>
   cond (x20.1 != (0 : Int))
    (some (([] : List T_scan_Token), a8, x20.1))
    ((app 80 a10 [x20.2.2]).bind fun _ =>
     (some (a10 ++ [x20.2.2])).bind fun a27 =>
    rec13 (x20.2.1.b, x20.2.1.at_, a27)))
def F_scan_All (p0 : List UInt8) : Option ((List T_scan_Token) × Int × Int) :=
  cond (decide ((65536 : Int) < (p0.length : Int)))
   (some (([] : List T_scan_Token), (0 : Int), (6 : Int)))
   ((F_scan_Plain p0).bind fun x2 =>
    (F_char_Fault (⟨x2, (0 : Int)⟩ : T_scan_scanner).b).bind fun x4 =>
   cond (x4.2 != (0 : Int))
    (some (([] : List T_scan_Token), x4.1, x4.2))
    ((iter (F_scan_All_l0) FUEL ((⟨x2, (0 : Int)⟩ : T_scan_scanner).b, (⟨x2, (0 : Int)⟩ : T_scan_scanner).at_, ([] : List T_scan_Token))).bind fun o =>
    some o))
def F_lecternlaw03_awake : Option (Bool) :=
   (F_scan_All ([60, 97, 62, 120, 38, 97, 109, 112, 59, 121, 60, 47, 97, 62] : List UInt8)).bind fun x3 =>
   (F_scan_All ([60, 97, 32, 98, 61, 39, 49, 39, 32, 98, 61, 39, 50, 39, 62] : List UInt8)).bind fun x6 =>
   (letJ (fun v11 : Bool => (letJ (fun v15 : Bool => (letJ (fun v19 : Bool => (letJ (fun v23 : Bool => some v23) fun J22 => cond v19 ((idx x3.1 (2 : Int)).bind fun x24 =>
          J22 (x24.At == (10 : Int))) (J22 false))) fun J18 => cond v15 ((idx x3.1 (2 : Int)).bind fun x20 =>
        J18 (x20.Kind == (3 : Int))) (J18 false))) fun J14 => cond v11 ((idx x3.1 (1 : Int)).bind fun x16 =>
      J14 (x16.Refs == (1 : Int))) (J14 false))) fun J10 => cond (((x3.2.2 == (0 : Int)) && (x6.2.2 == (27 : Int))) && ((x3.1.length : Int) == (3 : Int))) ((idx x3.1 (1 : Int)).bind fun x12 =>
    J10 (x12.Text == ([120, 38, 121] : List UInt8))) (J10 false))
def F_lecternref01_Spare (p0 : List UInt8) : Option (List UInt8 × List UInt8) :=
   (mkG 1 (0 : Int) (IntKind.wrap .i64 ((p0.length : Int) + (3 : Int)))).bind fun _ =>
   (some (List.replicate (Int.toNat (0 : Int)) (0 : UInt8))).bind fun a2 =>
   (app 1 a2 p0).bind fun _ =>
   (some (a2 ++ p0)).bind fun a4 =>
   (u8 (165 : Int)).bind fun b5 =>
   (app 1 a4 [b5]).bind fun _ =>
   (some (a4 ++ [b5])).bind fun a7 =>
   (idx a7 (0 : Int)).bind fun x10 =>
   (slc (a7 ++ []) (0 : Int) (p0.length : Int)).bind fun x8 =>
  some (x8, (List.drop (Int.toNat (p0.length : Int)) (a7 ++ [])))
def F_lecternref01_Lines_l0 (p0 : List UInt8) (rec44 : (List UInt8) × Int → Option (((List UInt8)))) : (List UInt8) × Int → Option (((List UInt8)))
  | (a39, a41) =>
  cond (decide (a41 < (p0.length : Int)))
   (letJ (fun a61 : List UInt8 =>
    rec44 (a61, (IntKind.wrap .i64 (a41 + (1 : Int))))) fun J63 =>
    (idx p0 a41).bind fun x64 =>
   cond ((x64.toNat : Int) == (13 : Int))
    ((u8 (10 : Int)).bind fun b66 =>
     (app 1 a39 [b66]).bind fun _ =>
    J63 (a39 ++ [b66]))
    ((idx p0 a41).bind fun x68 =>
     (letJ (fun v72 : Bool => cond v72
       ((idx p0 a41).bind fun x75 =>
        (u8 (x75.toNat : Int)).bind fun b76 =>
        (app 1 a39 [b76]).bind fun _ =>
       J63 (a39 ++ [b76]))
       (J63 a39)) fun J71 => cond (((x68.toNat : Int) != (10 : Int)) || (a41 == (0 : Int))) (J71 true) ((idx p0 (IntKind.wrap .i64 (a41 - (1 : Int)))).bind fun x73 =>
      J71 ((x73.toNat : Int) != (13 : Int))))))
   (some a39)
def F_lecternref01_Lines (p0 : List UInt8) : Option ((List UInt8)) :=
  letJ (fun a36 : List UInt8 =>
   some a36) fun J38 =>
   (iter (F_lecternref01_Lines_l0 p0) FUEL (([] : List UInt8), (0 : Int))).bind fun o =>
  J38 o
def F_lecternref03_Text (p0 : List UInt8) : Option ((List UInt8)) :=
  letJ (fun a15 : List UInt8 =>
    (F_lecternref01_Lines a15).bind fun x31 =>
   some x31) fun J16 =>
   (letJ (fun v19 : Bool => (letJ (fun v23 : Bool => (letJ (fun v27 : Bool => cond v27
         ((slc p0 (3 : Int) (p0.length : Int)).bind fun x30 =>
         J16 x30)
         (J16 p0)) fun J26 => cond v23 ((idx p0 (2 : Int)).bind fun x28 =>
        J26 ((x28.toNat : Int) == (191 : Int))) (J26 false))) fun J22 => cond v19 ((idx p0 (1 : Int)).bind fun x24 =>
      J22 ((x24.toNat : Int) == (187 : Int))) (J22 false))) fun J18 => cond (decide ((3 : Int) ≤ (p0.length : Int))) ((idx p0 (0 : Int)).bind fun x20 =>
    J18 ((x20.toNat : Int) == (239 : Int))) (J18 false))
def F_lecternref01_Read_l0 (p0 : List UInt8) (p1 : Int) (a9 : Int) (rec33 : Int × Int → Option (Int ⊕ (Int × Int))) : Int × Int → Option (Int ⊕ (Int × Int))
  | (a29, a30) =>
  cond (decide (a30 < a9))
   ((idx p0 (IntKind.wrap .i64 (p1 + a30))).bind fun x36 =>
   cond ((decide ((IntKind.wrap .i64 (x36.toNat : Int)) < (128 : Int))) || (decide ((191 : Int) < (IntKind.wrap .i64 (x36.toNat : Int)))))
    (some (.inr ((0 : Int), (0 : Int))))
    (rec33 ((IntKind.wrap .i64 ((IntKind.wrap .i64 ((IntKind.wrap .i64 ((64 : Int) * a29)) + (IntKind.wrap .i64 (x36.toNat : Int)))) - (128 : Int))), (IntKind.wrap .i64 (a30 + (1 : Int))))))
   (some (.inl a29))
def F_lecternref01_Read (p0 : List UInt8) (p1 : Int) : Option (Int × Int) :=
   (idx p0 p1).bind fun x1 =>
  letJ (fun v : Int × Int × Int => match v with
   | (a9, a10, a11) =>
   cond (decide ((p0.length : Int) < (IntKind.wrap .i64 (p1 + a9))))
    (some ((0 : Int), (0 : Int)))
    (letJ (fun a27 : Int =>
     cond (((decide (a27 < a11)) || (decide ((1114111 : Int) < a27))) || ((decide ((55296 : Int) ≤ a27)) && (decide (a27 ≤ (57343 : Int)))))
      (some ((0 : Int), (0 : Int)))
      (some (a27, a9))) fun J28 =>
     (iter (F_lecternref01_Read_l0 p0 p1 a9) FUEL (a10, (1 : Int))).bind fun o =>
    match o with
    | .inl o1 => J28 o1
    | .inr o1 => some o1)) fun J12 =>
  cond (decide ((IntKind.wrap .i64 (x1.toNat : Int)) < (128 : Int)))
   (some ((IntKind.wrap .i64 (x1.toNat : Int)), (1 : Int)))
   (cond ((decide ((192 : Int) ≤ (IntKind.wrap .i64 (x1.toNat : Int)))) && (decide ((IntKind.wrap .i64 (x1.toNat : Int)) < (224 : Int))))
    (J12 ((2 : Int), (IntKind.wrap .i64 ((IntKind.wrap .i64 (x1.toNat : Int)) - (192 : Int))), (128 : Int)))
    (cond ((decide ((224 : Int) ≤ (IntKind.wrap .i64 (x1.toNat : Int)))) && (decide ((IntKind.wrap .i64 (x1.toNat : Int)) < (240 : Int))))
     (J12 ((3 : Int), (IntKind.wrap .i64 ((IntKind.wrap .i64 (x1.toNat : Int)) - (224 : Int))), (2048 : Int)))
     (cond ((decide ((240 : Int) ≤ (IntKind.wrap .i64 (x1.toNat : Int)))) && (decide ((IntKind.wrap .i64 (x1.toNat : Int)) < (248 : Int))))
      (J12 ((4 : Int), (IntKind.wrap .i64 ((IntKind.wrap .i64 (x1.toNat : Int)) - (240 : Int))), (65536 : Int)))
      (some ((0 : Int), (0 : Int))))))
def F_lecternref01_Char (p0 : Int) : Option (Bool) :=
  some ((((((p0 == (9 : Int)) || (p0 == (10 : Int))) || (p0 == (13 : Int))) || ((decide ((32 : Int) ≤ p0)) && (decide (p0 ≤ (55295 : Int))))) || ((decide ((57344 : Int) ≤ p0)) && (decide (p0 ≤ (65533 : Int))))) || ((decide ((65536 : Int) ≤ p0)) && (decide (p0 ≤ (1114111 : Int)))))
def F_lecternref01_Fault_l0 (p0 : List UInt8) (rec11 : Int → Option (Unit ⊕ (Int × Int))) (a8 : Int) : Option (Unit ⊕ (Int × Int)) :=
  cond (decide (a8 < (p0.length : Int)))
   ((F_lecternref01_Read p0 a8).bind fun x14 =>
   cond (x14.2 == (0 : Int))
    (some (.inr (a8, (20 : Int))))
    ((F_lecternref01_Char x14.1).bind fun x16 =>
    cond (!x16)
     (some (.inr (a8, (21 : Int))))
     (rec11 (IntKind.wrap .i64 (a8 + x14.2)))))
   (some (.inl ()))
def F_lecternref01_Fault (p0 : List UInt8) : Option (Int × Int) :=
  letJ (fun _ : Unit =>
   some ((0 : Int), (0 : Int))) fun J7 =>
   (iter (F_lecternref01_Fault_l0 p0) FUEL (0 : Int)).bind fun o =>
  match o with
  | .inl o1 => J7 o1
  | .inr o1 => some o1
def F_lecternref03_Stands (p0 : List UInt8) (p1 : Int) (p2 : List UInt8) : Option (Bool) :=
   (letJ (fun v3 : Bool => some v3) fun J2 => cond (decide ((IntKind.wrap .i64 (p1 + (p2.length : Int))) ≤ (p0.length : Int))) ((slc p0 p1 (IntKind.wrap .i64 (p1 + (p2.length : Int)))).bind fun x4 =>
    J2 (x4 == p2)) (J2 false))
def F_lecternref03_White_l0 (p0 : List UInt8) (rec24 : Int → Option (Int)) (a21 : Int) : Option (Int) :=
   (letJ (fun v28 : Bool => cond v28
     (rec24 (IntKind.wrap .i64 (a21 + (1 : Int))))
     (some a21)) fun J27 => cond (decide (a21 < (p0.length : Int))) ((idx p0 a21).bind fun x29 =>
     (letJ (fun v32 : Bool => (letJ (fun v36 : Bool => (letJ (fun v40 : Bool => J27 v40) fun J39 => cond v36 (J39 true) ((idx p0 a21).bind fun x41 =>
          J39 ((x41.toNat : Int) == (13 : Int))))) fun J35 => cond v32 (J35 true) ((idx p0 a21).bind fun x37 =>
        J35 ((x37.toNat : Int) == (10 : Int))))) fun J31 => cond ((x29.toNat : Int) == (32 : Int)) (J31 true) ((idx p0 a21).bind fun x33 =>
      J31 ((x33.toNat : Int) == (9 : Int))))) (J27 false))
def F_lecternref03_White (p0 : List UInt8) (p1 : Int) : Option (Int) :=
  letJ (fun a19 : Int =>
   some a19) fun J20 =>
   (iter (F_lecternref03_White_l0 p0) FUEL p1).bind fun o =>
  J20 o
def F_lecternref03_Find_l0 (p0 : List UInt8) (p2 : List UInt8) (rec9 : Int → Option (Unit ⊕ Int)) (a6 : Int) : Option (Unit ⊕ Int) :=
  cond (decide ((IntKind.wrap .i64 (a6 + (p2.length : Int))) ≤ (p0.length : Int)))
   ((slc p0 a6 (IntKind.wrap .i64 (a6 + (p2.length : Int)))).bind fun x12 =>
   cond (x12 == p2)
    (some (.inr a6))
    (rec9 (IntKind.wrap .i64 (a6 + (1 : Int)))))
   (some (.inl ()))
def F_lecternref03_Find (p0 : List UInt8) (p1 : Int) (p2 : List UInt8) : Option (Int) :=
  letJ (fun _ : Unit =>
   some (-1 : Int)) fun J5 =>
   (iter (F_lecternref03_Find_l0 p0 p2) FUEL p1).bind fun o =>
  match o with
  | .inl o1 => J5 o1
  | .inr o1 => some o1
def F_lecternref03_value (p0 : List UInt8) (p1 : Int) : Option ((List UInt8) × Int) :=
   (F_lecternref03_White p0 p1).bind fun x1 =>
   (F_lecternref03_Stands p0 x1 ([61] : List UInt8)).bind fun x2 =>
  cond (!x2)
   (some (([] : List UInt8), (-1 : Int)))
   ((F_lecternref03_White p0 (IntKind.wrap .i64 (x1 + (1 : Int)))).bind fun x4 =>
    (F_lecternref03_Stands p0 x4 ([39] : List UInt8)).bind fun x5 =>
    (letJ (fun v8 : Bool => cond v8
      (some (([] : List UInt8), (-1 : Int)))
      ((slc p0 x4 (IntKind.wrap .i64 (x4 + (1 : Int)))).bind fun x11 =>
       (F_lecternref03_Find p0 (IntKind.wrap .i64 (x4 + (1 : Int))) x11).bind fun x12 =>
      cond (decide (x12 < (0 : Int)))
       (some (([] : List UInt8), (-1 : Int)))
       ((slc p0 (IntKind.wrap .i64 (x4 + (1 : Int))) x12).bind fun x14 =>
       some (x14, (IntKind.wrap .i64 (x12 + (1 : Int))))))) fun J7 => cond (!x5) ((F_lecternref03_Stands p0 x4 ([34] : List UInt8)).bind fun x9 =>
     J7 (!x9)) (J7 false)))
def F_lecternref03_letter (p0 : Int) : Option (Bool) :=
  some (((decide ((97 : Int) ≤ p0)) && (decide (p0 ≤ (122 : Int)))) || ((decide ((65 : Int) ≤ p0)) && (decide (p0 ≤ (90 : Int)))))
def F_lecternref03_digit (p0 : Int) : Option (Bool) :=
  some ((decide ((48 : Int) ≤ p0)) && (decide (p0 ≤ (57 : Int))))
def F_lecternref03_allowed_l0 (p1 : List UInt8) (rec88 : Int → Option (Unit ⊕ Bool)) (a85 : Int) : Option (Unit ⊕ Bool) :=
  cond (decide (a85 < (p1.length : Int)))
   ((idx p1 a85).bind fun x91 =>
    (F_lecternref03_letter (x91.toNat : Int)).bind fun x92 =>
    (letJ (fun v95 : Bool => (letJ (fun v100 : Bool => (letJ (fun v104 : Bool => (letJ (fun v108 : Bool => cond v108
            (some (.inr false))
            (rec88 (IntKind.wrap .i64 (a85 + (1 : Int))))) fun J107 => cond v104 ((idx p1 a85).bind fun x109 =>
           J107 ((x109.toNat : Int) != (45 : Int))) (J107 false))) fun J103 => cond v100 ((idx p1 a85).bind fun x105 =>
         J103 ((x105.toNat : Int) != (95 : Int))) (J103 false))) fun J99 => cond v95 ((idx p1 a85).bind fun x101 =>
       J99 ((x101.toNat : Int) != (46 : Int))) (J99 false))) fun J94 => cond (!x92) ((idx p1 a85).bind fun x96 =>
      (F_lecternref03_digit (x96.toNat : Int)).bind fun x97 =>
     J94 (!x97)) (J94 false)))
   (some (.inl ()))
def F_lecternref03_allowed_l1 (p1 : List UInt8) (rec125 : Int → Option (Unit ⊕ Bool)) (a122 : Int) : Option (Unit ⊕ Bool) :=
  cond (decide (a122 < (p1.length : Int)))
   ((idx p1 a122).bind fun x128 =>
    (F_lecternref03_digit (x128.toNat : Int)).bind fun x129 =>
   cond (!x129)
    (some (.inr false))
    (rec125 (IntKind.wrap .i64 (a122 + (1 : Int)))))
   (some (.inl ()))
def F_lecternref03_allowed (p0 : Int) (p1 : List UInt8) : Option (Bool) :=
  cond (p0 == (2 : Int))
   (some ((p1 == ([121, 101, 115] : List UInt8)) || (p1 == ([110, 111] : List UInt8))))
   (letJ (fun _ : Unit =>
     (letJ (fun v113 : Bool => cond v113
       (some false)
       (letJ (fun _ : Unit =>
        some true) fun J121 =>
        (iter (F_lecternref03_allowed_l1 p1) FUEL (2 : Int)).bind fun o =>
       match o with
       | .inl o1 => J121 o1
       | .inr o1 => some o1)) fun J112 => cond (decide ((p1.length : Int) < (3 : Int))) (J112 true) ((slc p1 (0 : Int) (2 : Int)).bind fun x114 =>
      J112 (!(x114 == ([49, 46] : List UInt8)))))) fun J54 =>
   cond (p0 == (1 : Int))
    ((letJ (fun v58 : Bool => cond v58
       (some false)
       (letJ (fun _ : Unit =>
        some true) fun J84 =>
        (iter (F_lecternref03_allowed_l0 p1) FUEL (0 : Int)).bind fun o =>
       match o with
       | .inl o1 => J84 o1
       | .inr o1 => some o1)) fun J57 => cond (p1 == ([] : List UInt8)) (J57 true) ((idx p1 (0 : Int)).bind fun x59 =>
       (F_lecternref03_letter (x59.toNat : Int)).bind fun x60 =>
      J57 (!x60))))
    (J54 ()))
def F_lecternref03_small_l0 (rec36 : (List UInt8) × Int → Option (((List UInt8)))) : (List UInt8) × Int → Option (((List UInt8)))
  | (a32, a33) =>
  cond (decide (a33 < (a32.length : Int)))
   (letJ (fun a50 : List UInt8 =>
    rec36 (a50, (IntKind.wrap .i64 (a33 + (1 : Int))))) fun J51 =>
    (idx a32 a33).bind fun x52 =>
    (letJ (fun v55 : Bool => cond v55
      ((idx a32 a33).bind fun x58 =>
       (idx a32 a33).bind fun x59 =>
       (u8 (IntKind.wrap .u8 ((x58.toNat : Int) + (32 : Int)))).bind fun b60 =>
       (some (List.set a32 (Int.toNat a33) b60)).bind fun a61 =>
      J51 a61)
      (J51 a32)) fun J54 => cond (decide ((65 : Int) ≤ (x52.toNat : Int))) ((idx a32 a33).bind fun x56 =>
     J54 (decide ((x56.toNat : Int) ≤ (90 : Int)))) (J54 false)))
   (some a32)
def F_lecternref03_small (p0 : List UInt8) : Option ((List UInt8)) :=
  letJ (fun a29 : List UInt8 =>
   some a29) fun J30 =>
   (iter (F_lecternref03_small_l0) FUEL (p0, (0 : Int))).bind fun o =>
  J30 o
def F_lecternref03_declaration_l0 (p0 : List UInt8) (rec103 : Int × Int × (List UInt8) × (List T_scan_Pair) × (List UInt8) × Int × Int × Int × (List UInt8) × (List T_scan_Pair) × (List UInt8) × Int × Int × Bool × Int → Option ((Int × Int × (List UInt8) × (List T_scan_Pair) × (List UInt8) × Int × Int × Int × (List UInt8) × (List T_scan_Pair) × (List UInt8) × Int × Int × Bool) ⊕ (T_lecternref03_Token × Int × Int))) : Int × Int × (List UInt8) × (List T_scan_Pair) × (List UInt8) × Int × Int × Int × (List UInt8) × (List T_scan_Pair) × (List UInt8) × Int × Int × Bool × Int → Option ((Int × Int × (List UInt8) × (List T_scan_Pair) × (List UInt8) × Int × Int × Int × (List UInt8) × (List T_scan_Pair) × (List UInt8) × Int × Int × Bool) ⊕ (T_lecternref03_Token × Int × Int))
  | (a85, a86, a87, a88, a89, a90, a91, a92, a93, a94, a96, a97, a98, a99, a100) =>
  cond (decide (a100 < (3 : Int)))
   (letJ (fun v : (List T_scan_Pair) × Int × Bool => match v with
    | (a128, a130, a131) =>
    rec103 (a85, a86, a87, a88, a89, a90, a91, a92, a93, a128, a96, a97, a130, a131, (IntKind.wrap .i64 (a100 + (1 : Int))))) fun J132 =>
    (idxN 3 ([([118, 101, 114, 115, 105, 111, 110] : List UInt8), ([101, 110, 99, 111, 100, 105, 110, 103] : List UInt8), ([115, 116, 97, 110, 100, 97, 108, 111, 110, 101] : List UInt8)] : List (List UInt8)) a100).bind fun x133 =>
    (F_lecternref03_White p0 a98).bind fun x134 =>
    (letJ (fun v137 : Bool => cond v137
      ((F_lecternref03_value p0 (IntKind.wrap .i64 (x134 + (x133.length : Int)))).bind fun x140 =>
       (letJ (fun v143 : Bool => cond v143
         (some (.inr ((⟨(0 : Int), (0 : Int), ([] : List UInt8), ([] : List T_scan_Pair), ([] : List UInt8), (0 : Int)⟩ : T_lecternref03_Token), (0 : Int), (23 : Int))))
         ((app 32 a94 [(⟨x133, x140.1⟩ : T_scan_Pair)]).bind fun _ =>
          (letJ (fun v149 : Bool => J132 ((a94 ++ [(⟨x133, x140.1⟩ : T_scan_Pair)]), x140.2, v149)) fun J148 => cond a99 (J148 true) ((letJ (fun v152 : Bool => J148 v152) fun J151 => cond (a100 == (1 : Int)) ((F_lecternref03_small x140.1).bind fun x153 =>
             J151 (!(x153 == ([117, 116, 102, 45, 56] : List UInt8)))) (J151 false)))))) fun J142 => cond (decide (x140.2 < (0 : Int))) (J142 true) ((F_lecternref03_allowed a100 x140.1).bind fun x144 =>
        J142 (!x144))))
      (cond (a100 == (0 : Int))
       (some (.inr ((⟨(0 : Int), (0 : Int), ([] : List UInt8), ([] : List T_scan_Pair), ([] : List UInt8), (0 : Int)⟩ : T_lecternref03_Token), (0 : Int), (23 : Int))))
       (J132 (a94, a98, a99)))) fun J136 => cond (decide (a98 < x134)) ((F_lecternref03_Stands p0 x134 x133).bind fun x138 =>
     J136 x138) (J136 false)))
   (some (.inl (a85, a86, a87, a88, a89, a90, a91, a92, a93, a94, a96, a97, a98, a99)))
def F_lecternref03_declaration (p0 : List UInt8) : Option (T_lecternref03_Token × Int × Int) :=
  letJ (fun v : Int × Int × (List UInt8) × (List T_scan_Pair) × (List UInt8) × Int × Int × Int × (List UInt8) × (List T_scan_Pair) × (List UInt8) × Int × Int × Bool => match v with
   | (a69, a70, a71, a72, a73, a74, a75, a76, a77, a78, a80, a81, a82, a83) =>
    (F_lecternref03_White p0 a82).bind fun x155 =>
    (F_lecternref03_Stands p0 x155 ([63, 62] : List UInt8)).bind fun x156 =>
   cond (!x156)
    (some ((⟨(0 : Int), (0 : Int), ([] : List UInt8), ([] : List T_scan_Pair), ([] : List UInt8), (0 : Int)⟩ : T_lecternref03_Token), (0 : Int), (23 : Int)))
    (cond a83
     (some ((⟨(0 : Int), (0 : Int), ([] : List UInt8), ([] : List T_scan_Pair), ([] : List UInt8), (0 : Int)⟩ : T_lecternref03_Token), (0 : Int), (25 : Int)))
     (some ((⟨a75, a76, a77, a78, a80, a81⟩ : T_lecternref03_Token), (IntKind.wrap .i64 (x155 + (2 : Int))), (0 : Int))))) fun J84 =>
   (iter (F_lecternref03_declaration_l0 p0) FUEL ((0 : Int), (0 : Int), ([] : List UInt8), ([] : List T_scan_Pair), ([] : List UInt8), (0 : Int), (1 : Int), (0 : Int), ([] : List UInt8), ([] : List T_scan_Pair), ([] : List UInt8), (0 : Int), (5 : Int), false, (0 : Int))).bind fun o =>
  match o with
  | .inl o1 => J84 o1
  | .inr o1 => some o1
def F_lecternref01_Start (p0 : Int) : Option (Bool) :=
  letJ (fun a5 : Bool =>
   cond a5
    (some true)
    (cond ((decide ((192 : Int) ≤ p0)) && (decide (p0 ≤ (767 : Int))))
     (some ((p0 != (215 : Int)) && (p0 != (247 : Int))))
     (cond ((decide ((880 : Int) ≤ p0)) && (decide (p0 ≤ (8191 : Int))))
      (some (p0 != (894 : Int)))
      (letJ (fun a18 : Bool =>
       cond a18
        (some true)
        (letJ (fun a27 : Bool =>
         cond a27
          (some true)
          (cond ((decide ((63744 : Int) ≤ p0)) && (decide (p0 ≤ (65533 : Int))))
           (some ((decide (p0 < (64976 : Int))) || (decide ((65008 : Int) ≤ p0))))
           (some ((decide ((65536 : Int) ≤ p0)) && (decide (p0 ≤ (983039 : Int))))))) fun J28 =>
        cond ((decide ((8304 : Int) ≤ p0)) && (decide (p0 ≤ (8591 : Int))))
         (J28 ((decide ((8304 : Int) ≤ p0)) && (decide (p0 ≤ (8591 : Int)))))
         (cond ((decide ((11264 : Int) ≤ p0)) && (decide (p0 ≤ (12271 : Int))))
          (J28 ((decide ((11264 : Int) ≤ p0)) && (decide (p0 ≤ (12271 : Int)))))
          (J28 ((decide ((12289 : Int) ≤ p0)) && (decide (p0 ≤ (55295 : Int)))))))) fun J19 =>
      cond (p0 == (8204 : Int))
       (J19 (p0 == (8204 : Int)))
       (J19 (p0 == (8205 : Int))))))) fun J6 =>
  cond ((decide ((65 : Int) ≤ p0)) && (decide (p0 ≤ (90 : Int))))
   (J6 ((decide ((65 : Int) ≤ p0)) && (decide (p0 ≤ (90 : Int)))))
   (cond (p0 == (95 : Int))
    (J6 (p0 == (95 : Int)))
    (J6 ((decide ((97 : Int) ≤ p0)) && (decide (p0 ≤ (122 : Int))))))
def F_lecternref01_Part (p0 : Int) : Option (Bool) :=
   (F_lecternref01_Start p0).bind fun x1 =>
  some (((((((x1 || (p0 == (45 : Int))) || (p0 == (46 : Int))) || ((decide ((48 : Int) ≤ p0)) && (decide (p0 ≤ (57 : Int))))) || (p0 == (183 : Int))) || ((decide ((768 : Int) ≤ p0)) && (decide (p0 ≤ (879 : Int))))) || (p0 == (8255 : Int))) || (p0 == (8256 : Int)))
def F_lecternref01_Name_l0 (p0 : List UInt8) (rec22 : Int → Option (Unit ⊕ Bool)) (a19 : Int) : Option (Unit ⊕ Bool) :=
  cond (decide (a19 < (p0.length : Int)))
   ((F_lecternref01_Read p0 a19).bind fun x25 =>
    (letJ (fun v28 : Bool => (letJ (fun v32 : Bool => cond v32
        (some (.inr false))
        (rec22 (IntKind.wrap .i64 (a19 + x25.2)))) fun J31 => cond v28 (J31 true) ((letJ (fun v35 : Bool => J31 v35) fun J34 => cond (a19 == (0 : Int)) ((F_lecternref01_Start x25.1).bind fun x36 =>
         J34 (!x36)) (J34 false))))) fun J27 => cond (x25.2 == (0 : Int)) (J27 true) ((F_lecternref01_Part x25.1).bind fun x29 =>
     J27 (!x29))))
   (some (.inl ()))
def F_lecternref01_Name (p0 : List UInt8) : Option (Bool) :=
  cond (((p0.length : Int) == (0 : Int)) || (decide ((100 : Int) < (p0.length : Int))))
   (some false)
   (letJ (fun _ : Unit =>
    some true) fun J18 =>
    (iter (F_lecternref01_Name_l0 p0) FUEL (0 : Int)).bind fun o =>
   match o with
   | .inl o1 => J18 o1
   | .inr o1 => some o1)
def F_lecternref01_Split_l0 (p0 : List UInt8) (rec23 : Int → Option (Unit ⊕ ((List UInt8) × (List UInt8) × Bool))) (a20 : Int) : Option (Unit ⊕ ((List UInt8) × (List UInt8) × Bool)) :=
  cond (decide (a20 < (p0.length : Int)))
   ((idx p0 a20).bind fun x26 =>
    (letJ (fun v29 : Bool => (letJ (fun v34 : Bool => cond v34
        ((slc p0 (0 : Int) a20).bind fun x38 =>
         (slc p0 (IntKind.wrap .i64 (a20 + (1 : Int))) (p0.length : Int)).bind fun x39 =>
        some (.inr (x38, x39, true)))
        (rec23 (IntKind.wrap .i64 (a20 + (1 : Int))))) fun J33 => cond v29 ((slc p0 (IntKind.wrap .i64 (a20 + (1 : Int))) (p0.length : Int)).bind fun x35 =>
        (F_lecternref01_Name x35).bind fun x36 =>
       J33 x36) (J33 false))) fun J28 => cond ((x26.toNat : Int) == (58 : Int)) ((slc p0 (0 : Int) a20).bind fun x30 =>
      (F_lecternref01_Name x30).bind fun x31 =>
     J28 x31) (J28 false)))
   (some (.inl ()))
def F_lecternref01_Split (p0 : List UInt8) : Option ((List UInt8) × (List UInt8) × Bool) :=
   (F_lecternref01_Name p0).bind fun x1 =>
  cond x1
   (some (([] : List UInt8), p0, true))
   (letJ (fun _ : Unit =>
    some (([] : List UInt8), ([] : List UInt8), false)) fun J19 =>
    (iter (F_lecternref01_Split_l0 p0) FUEL (0 : Int)).bind fun o =>
   match o with
   | .inl o1 => J19 o1
   | .inr o1 => some o1)
def F_lecternref03_written_l0 (p0 : List UInt8) (p1 : Int) (rec24 : Int → Option (Int ⊕ ((List UInt8) × Int × Int))) (a21 : Int) : Option (Int ⊕ ((List UInt8) × Int × Int)) :=
  cond (decide (a21 < (p0.length : Int)))
   ((slc p0 a21 (if (IntKind.wrap .i64 (a21 + (4 : Int))) < (p0.length : Int) then (IntKind.wrap .i64 (a21 + (4 : Int))) else (p0.length : Int))).bind fun x27 =>
    (F_lecternref01_Read x27 (0 : Int)).bind fun x28 =>
    (letJ (fun v31 : Bool => cond v31
      (some (.inl a21))
      ((letJ (fun v40 : Bool => cond v40
         (some (.inr (([] : List UInt8), (0 : Int), (23 : Int))))
         (rec24 (IntKind.wrap .i64 (a21 + x28.2)))) fun J39 => cond ((a21 == p1) && (x28.1 != (58 : Int))) ((F_lecternref01_Start x28.1).bind fun x41 =>
        J39 (!x41)) (J39 false)))) fun J30 => cond (x28.2 == (0 : Int)) (J30 true) ((letJ (fun v34 : Bool => J30 v34) fun J33 => cond (x28.1 != (58 : Int)) ((F_lecternref01_Part x28.1).bind fun x35 =>
       J33 (!x35)) (J33 false)))))
   (some (.inl a21))
def F_lecternref03_written (p0 : List UInt8) (p1 : Int) : Option ((List UInt8) × Int × Int) :=
  letJ (fun a19 : Int =>
   cond (a19 == p1)
    (some (([] : List UInt8), (0 : Int), (23 : Int)))
    ((slc p0 p1 a19).bind fun x44 =>
     (F_lecternref01_Split x44).bind fun x45 =>
    cond (!x45.2.2)
     (some (([] : List UInt8), (0 : Int), (24 : Int)))
     ((slc p0 p1 a19).bind fun x47 =>
     some (x47, a19, (0 : Int))))) fun J20 =>
   (iter (F_lecternref03_written_l0 p0 p1) FUEL p1).bind fun o =>
  match o with
  | .inl o1 => J20 o1
  | .inr o1 => some o1
def F_lecternref03_instruction (p0 : List UInt8) (p1 : Int) : Option (T_lecternref03_Token × Int × Int) :=
   (F_lecternref03_written p0 p1).bind fun x2 =>
  cond (x2.2.2 != (0 : Int))
   (some ((⟨(0 : Int), (0 : Int), ([] : List UInt8), ([] : List T_scan_Pair), ([] : List UInt8), (0 : Int)⟩ : T_lecternref03_Token), (0 : Int), x2.2.2))
   ((F_lecternref01_Name x2.1).bind fun x4 =>
   cond (!x4)
    (some ((⟨(0 : Int), (0 : Int), ([] : List UInt8), ([] : List T_scan_Pair), ([] : List UInt8), (0 : Int)⟩ : T_lecternref03_Token), (0 : Int), (24 : Int)))
    ((F_lecternref03_small x2.1).bind fun x6 =>
    cond (x6 == ([120, 109, 108] : List UInt8))
     (some ((⟨(0 : Int), (0 : Int), ([] : List UInt8), ([] : List T_scan_Pair), ([] : List UInt8), (0 : Int)⟩ : T_lecternref03_Token), (0 : Int), (29 : Int)))
     ((F_lecternref03_Stands p0 x2.2.1 ([63, 62] : List UInt8)).bind fun x8 =>
     cond x8
      (some ((⟨(8 : Int), (0 : Int), x2.1, ([] : List T_scan_Pair), ([] : List UInt8), (0 : Int)⟩ : T_lecternref03_Token), (IntKind.wrap .i64 (x2.2.1 + (2 : Int))), (0 : Int)))
      ((F_lecternref03_White p0 x2.2.1).bind fun x10 =>
       (F_lecternref03_Find p0 x10 ([63, 62] : List UInt8)).bind fun x11 =>
      cond ((x10 == x2.2.1) || (decide (x11 < (0 : Int))))
       (some ((⟨(0 : Int), (0 : Int), ([] : List UInt8), ([] : List T_scan_Pair), ([] : List UInt8), (0 : Int)⟩ : T_lecternref03_Token), (0 : Int), (23 : Int)))
       ((slc p0 x10 x11).bind fun x14 =>
       some ((⟨(8 : Int), (0 : Int), x2.1, ([] : List T_scan_Pair), x14, (0 : Int)⟩ : T_lecternref03_Token), (IntKind.wrap .i64 (x11 + (2 : Int))), (0 : Int)))))))
def F_lecternref02_word_l0 (p0 : List UInt8) (p1 : Int) (rec14 : Int → Option (Unit ⊕ (Int × Int))) (a11 : Int) : Option (Unit ⊕ (Int × Int)) :=
  cond (decide (a11 < (5 : Int)))
   ((idxN 5 ([([108, 116, 59] : List UInt8), ([103, 116, 59] : List UInt8), ([97, 109, 112, 59] : List UInt8), ([97, 112, 111, 115, 59] : List UInt8), ([113, 117, 111, 116, 59] : List UInt8)] : List (List UInt8)) a11).bind fun x17 =>
    (letJ (fun v20 : Bool => cond v20
      ((idxN 5 ([(60 : Int), (62 : Int), (38 : Int), (39 : Int), (34 : Int)] : List Int) a11).bind fun x23 =>
      some (.inr (x23, (IntKind.wrap .i64 (p1 + (x17.length : Int))))))
      (rec14 (IntKind.wrap .i64 (a11 + (1 : Int))))) fun J19 => cond (decide ((IntKind.wrap .i64 (p1 + (x17.length : Int))) ≤ (p0.length : Int))) ((slc p0 p1 (IntKind.wrap .i64 (p1 + (x17.length : Int)))).bind fun x21 =>
     J19 (x21 == x17)) (J19 false)))
   (some (.inl ()))
def F_lecternref02_word (p0 : List UInt8) (p1 : Int) : Option (Int × Int) :=
  letJ (fun _ : Unit =>
   some ((0 : Int), (0 : Int))) fun J10 =>
   (iter (F_lecternref02_word_l0 p0 p1) FUEL (0 : Int)).bind fun o =>
  match o with
  | .inl o1 => J10 o1
  | .inr o1 => some o1
def F_lecternref02_hex (p0 : Int) : Option (Int) :=
  cond ((decide ((48 : Int) ≤ p0)) && (decide (p0 ≤ (57 : Int))))
   (some (IntKind.wrap .i64 ((IntKind.wrap .i64 p0) - (48 : Int))))
   (cond ((decide ((97 : Int) ≤ p0)) && (decide (p0 ≤ (102 : Int))))
    (some (IntKind.wrap .i64 ((IntKind.wrap .i64 ((IntKind.wrap .i64 p0) - (97 : Int))) + (10 : Int))))
    (cond ((decide ((65 : Int) ≤ p0)) && (decide (p0 ≤ (70 : Int))))
     (some (IntKind.wrap .i64 ((IntKind.wrap .i64 ((IntKind.wrap .i64 p0) - (65 : Int))) + (10 : Int))))
     (some (-1 : Int))))
def F_lecternref02_Expand_l0 (p0 : List UInt8) (a14 : Int) (rec51 : Int × Int × Int → Option ((Int × Int × Int))) : Int × Int × Int → Option ((Int × Int × Int))
  | (a46, a47, a48) =>
   (letJ (fun v55 : Bool => (letJ (fun v60 : Bool => cond v60
       (letJ (fun a67 : Int =>
        rec51 ((IntKind.wrap .i64 (a46 + (1 : Int))), a67, (IntKind.wrap .i64 (a48 + (1 : Int))))) fun J68 =>
       cond (decide (a47 < (2097152 : Int)))
        ((idx p0 a46).bind fun x70 =>
         (F_lecternref02_hex (x70.toNat : Int)).bind fun x71 =>
        J68 (IntKind.wrap .i64 ((IntKind.wrap .i64 (a14 * a47)) + x71)))
        (J68 a47))
       (some (a46, a47, a48))) fun J59 => cond v55 ((idx p0 a46).bind fun x61 =>
       (F_lecternref02_hex (x61.toNat : Int)).bind fun x62 =>
      J59 (decide (x62 < a14))) (J59 false))) fun J54 => cond (decide (a46 < (p0.length : Int))) ((idx p0 a46).bind fun x56 =>
     (F_lecternref02_hex (x56.toNat : Int)).bind fun x57 =>
    J54 (decide ((0 : Int) ≤ x57))) (J54 false))
def F_lecternref02_Expand (p0 : List UInt8) (p1 : Int) : Option (Int × Int × Int) :=
   (F_lecternref02_word p0 (IntKind.wrap .i64 (p1 + (1 : Int)))).bind fun x1 =>
  cond (decide ((0 : Int) < x1.2))
   (some (x1.1, x1.2, (0 : Int)))
   ((letJ (fun v5 : Bool => cond v5
      (some ((0 : Int), (0 : Int), (22 : Int)))
      (letJ (fun v : Int × Int => match v with
       | (a13, a14) =>
       letJ (fun v : Int × Int × Int => match v with
        | (a42, a43, a44) =>
         (letJ (fun v75 : Bool => cond v75
           (some ((0 : Int), (0 : Int), (22 : Int)))
           ((F_lecternref01_Char a43).bind fun x78 =>
           cond (!x78)
            (some ((0 : Int), (0 : Int), (21 : Int)))
            (some (a43, (IntKind.wrap .i64 (a42 + (1 : Int))), (0 : Int))))) fun J74 => cond ((a44 == (0 : Int)) || (decide ((p0.length : Int) ≤ a42))) (J74 true) ((idx p0 a42).bind fun x76 =>
          J74 ((x76.toNat : Int) != (59 : Int))))) fun J45 =>
        (iter (F_lecternref02_Expand_l0 p0 a14) FUEL (a13, (0 : Int), (0 : Int))).bind fun o =>
       J45 o) fun J15 =>
       (letJ (fun v18 : Bool => cond v18
         (J15 ((IntKind.wrap .i64 ((IntKind.wrap .i64 ((IntKind.wrap .i64 (p1 + (1 : Int))) + (1 : Int))) + (1 : Int))), (16 : Int)))
         (J15 ((IntKind.wrap .i64 ((IntKind.wrap .i64 (p1 + (1 : Int))) + (1 : Int))), (10 : Int)))) fun J17 => cond (decide ((IntKind.wrap .i64 ((IntKind.wrap .i64 (p1 + (1 : Int))) + (1 : Int))) < (p0.length : Int))) ((idx p0 (IntKind.wrap .i64 ((IntKind.wrap .i64 (p1 + (1 : Int))) + (1 : Int)))).bind fun x19 =>
        J17 ((x19.toNat : Int) == (120 : Int))) (J17 false)))) fun J4 => cond (decide ((p0.length : Int) ≤ (IntKind.wrap .i64 (p1 + (1 : Int))))) (J4 true) ((idx p0 (IntKind.wrap .i64 (p1 + (1 : Int)))).bind fun x6 =>
     J4 ((x6.toNat : Int) != (35 : Int)))))
def F_lecternref02_Read_l0 (p0 : List UInt8) (p1 : Bool) (rec53 : (List UInt8) × Int → Option (((List UInt8)) ⊕ ((List UInt8) × Int × Int))) : (List UInt8) × Int → Option (((List UInt8)) ⊕ ((List UInt8) × Int × Int))
  | (a48, a50) =>
  cond (decide (a50 < (p0.length : Int)))
   ((F_lecternref01_Read p0 a50).bind fun x56 =>
   cond (x56.2 == (0 : Int))
    (some (.inr (([] : List UInt8), a50, (20 : Int))))
    ((F_lecternref01_Char x56.1).bind fun x58 =>
    cond (!x58)
     (some (.inr (([] : List UInt8), a50, (21 : Int))))
     ((letJ (fun v62 : Bool => cond v62
        (some (.inr (([] : List UInt8), a50, (23 : Int))))
        (letJ (fun v : Int × Int => match v with
         | (a83, a84) =>
          (app 1 a48 (Utf8.encode (IntKind.wrap .i32 a83)).data.toList).bind fun _ =>
         rec53 ((a48 ++ (Utf8.encode (IntKind.wrap .i32 a83)).data.toList), a84)) fun J85 =>
        cond (x56.1 == (38 : Int))
         ((F_lecternref02_Expand p0 a50).bind fun x87 =>
         cond (x87.2.2 != (0 : Int))
          (some (.inr (([] : List UInt8), a50, x87.2.2)))
          (J85 (x87.1, x87.2.1)))
         (cond (p1 && (((x56.1 == (9 : Int)) || (x56.1 == (10 : Int))) || (x56.1 == (13 : Int))))
          (J85 ((32 : Int), (IntKind.wrap .i64 (a50 + x56.2))))
          (J85 (x56.1, (IntKind.wrap .i64 (a50 + x56.2))))))) fun J61 => cond (x56.1 == (60 : Int)) (J61 true) ((letJ (fun v67 : Bool => (letJ (fun v71 : Bool => J61 v71) fun J70 => cond v67 ((idx p0 (IntKind.wrap .i64 (a50 + (2 : Int)))).bind fun x72 =>
           J70 ((x72.toNat : Int) == (62 : Int))) (J70 false))) fun J66 => cond (((!p1) && (x56.1 == (93 : Int))) && (decide ((IntKind.wrap .i64 (a50 + (2 : Int))) < (p0.length : Int)))) ((idx p0 (IntKind.wrap .i64 (a50 + (1 : Int)))).bind fun x68 =>
         J66 ((x68.toNat : Int) == (93 : Int))) (J66 false)))))))
   (some (.inl a48))
def F_lecternref02_Read (p0 : List UInt8) (p1 : Bool) : Option ((List UInt8) × Int × Int) :=
  letJ (fun a45 : List UInt8 =>
   some (a45, (0 : Int), (0 : Int))) fun J47 =>
   (iter (F_lecternref02_Read_l0 p0 p1) FUEL (([] : List UInt8), (0 : Int))).bind fun o =>
  match o with
  | .inl o1 => J47 o1
  | .inr o1 => some o1
def F_lecternref03_tag_l1 (a16 : List T_scan_Pair) (x30 : (List UInt8) × Int × Int) (rec63 : Int × Int × (List UInt8) × (List T_scan_Pair) × (List UInt8) × Int × Int → Option ((Int × Int × (List UInt8) × (List T_scan_Pair) × (List UInt8) × Int) ⊕ (T_lecternref03_Token × Int × Int))) : Int × Int × (List UInt8) × (List T_scan_Pair) × (List UInt8) × Int × Int → Option ((Int × Int × (List UInt8) × (List T_scan_Pair) × (List UInt8) × Int) ⊕ (T_lecternref03_Token × Int × Int))
  | (a54, a55, a56, a57, a58, a59, a60) =>
  cond (decide (a60 < (a16.length : Int)))
   ((idx a16 a60).bind fun x66 =>
   cond (x66.Name == x30.1)
    (some (.inr ((⟨(0 : Int), (0 : Int), ([] : List UInt8), ([] : List T_scan_Pair), ([] : List UInt8), (0 : Int)⟩ : T_lecternref03_Token), (0 : Int), (27 : Int))))
    (rec63 (a54, a55, a56, a57, a58, a59, (IntKind.wrap .i64 (a60 + (1 : Int))))))
   (some (.inl (a54, a55, a56, a57, a58, a59)))
def F_lecternref03_tag_l0 (p0 : List UInt8) (rec22 : Int × Int × (List UInt8) × (List T_scan_Pair) × (List UInt8) × Int × Int × Int × Int × (List UInt8) × (List T_scan_Pair) × (List UInt8) × Int → Option ((T_lecternref03_Token × Int × Int))) : Int × Int × (List UInt8) × (List T_scan_Pair) × (List UInt8) × Int × Int × Int × Int × (List UInt8) × (List T_scan_Pair) × (List UInt8) × Int → Option ((T_lecternref03_Token × Int × Int))
  | (a6, a7, a8, a9, a10, a11, a12, a13, a14, a15, a16, a18, a19) =>
   (F_lecternref03_White p0 a12).bind fun x24 =>
   (F_lecternref03_Stands p0 x24 ([62] : List UInt8)).bind fun x25 =>
  cond x25
   (some ((⟨a13, a14, a15, a16, a18, a19⟩ : T_lecternref03_Token), (IntKind.wrap .i64 (x24 + (1 : Int))), (0 : Int)))
   ((F_lecternref03_Stands p0 x24 ([47, 62] : List UInt8)).bind fun x27 =>
   cond x27
    (some ((⟨(4 : Int), a14, a15, a16, a18, a19⟩ : T_lecternref03_Token), (IntKind.wrap .i64 (x24 + (2 : Int))), (0 : Int)))
    (cond (x24 == a12)
     (some ((⟨(0 : Int), (0 : Int), ([] : List UInt8), ([] : List T_scan_Pair), ([] : List UInt8), (0 : Int)⟩ : T_lecternref03_Token), (0 : Int), (23 : Int)))
     ((F_lecternref03_written p0 x24).bind fun x30 =>
     cond (x30.2.2 != (0 : Int))
      (some ((⟨(0 : Int), (0 : Int), ([] : List UInt8), ([] : List T_scan_Pair), ([] : List UInt8), (0 : Int)⟩ : T_lecternref03_Token), (0 : Int), x30.2.2))
      ((F_lecternref03_value p0 x30.2.1).bind fun x32 =>
      cond (decide (x32.2 < (0 : Int)))
       (some ((⟨(0 : Int), (0 : Int), ([] : List UInt8), ([] : List T_scan_Pair), ([] : List UInt8), (0 : Int)⟩ : T_lecternref03_Token), (0 : Int), (23 : Int)))
       ((F_lecternref02_Read x32.1 true).bind fun x34 =>
       cond (x34.2.2 != (0 : Int))
        (some ((⟨(0 : Int), (0 : Int), ([] : List UInt8), ([] : List T_scan_Pair), ([] : List UInt8), (0 : Int)⟩ : T_lecternref03_Token), (0 : Int), x34.2.2))
        (letJ (fun v : Int × Int × (List UInt8) × (List T_scan_Pair) × (List UInt8) × Int => match v with
         | (a47, a48, a49, a50, a51, a52) =>
          (app 32 a16 [(⟨x30.1, x34.1⟩ : T_scan_Pair)]).bind fun _ =>
         rec22 (a47, a48, a49, a50, a51, a52, x32.2, a13, a14, a15, (a16 ++ [(⟨x30.1, x34.1⟩ : T_scan_Pair)]), a18, a19)) fun J53 =>
         (iter (F_lecternref03_tag_l1 a16 x30) FUEL (a6, a7, a8, a9, a10, a11, (0 : Int))).bind fun o =>
        match o with
        | .inl o1 => J53 o1
        | .inr o1 => some o1))))))
def F_lecternref03_tag (p0 : List UInt8) (p1 : Int) : Option (T_lecternref03_Token × Int × Int) :=
   (F_lecternref03_written p0 p1).bind fun x2 =>
  cond (x2.2.2 != (0 : Int))
   (some ((⟨(0 : Int), (0 : Int), ([] : List UInt8), ([] : List T_scan_Pair), ([] : List UInt8), (0 : Int)⟩ : T_lecternref03_Token), (0 : Int), x2.2.2))
   ((iter (F_lecternref03_tag_l0 p0) FUEL ((0 : Int), (0 : Int), ([] : List UInt8), ([] : List T_scan_Pair), ([] : List UInt8), (0 : Int), x2.2.1, (2 : Int), (0 : Int), x2.1, ([] : List T_scan_Pair), ([] : List UInt8), (0 : Int))).bind fun o =>
   some o)
def F_lecternref03_One_l0 (p0 : List UInt8) (a45 : Int) (rec65 : Int × Int → Option (Int)) : Int × Int → Option (Int)
  | (a61, a62) =>
  cond (decide (a62 < a45))
   (letJ (fun a70 : Int =>
    rec65 (a70, (IntKind.wrap .i64 (a62 + (1 : Int))))) fun J71 =>
    (idx p0 a62).bind fun x72 =>
   cond ((x72.toNat : Int) == (38 : Int))
    (J71 (IntKind.wrap .i64 (a61 + (1 : Int))))
    (J71 a61))
   (some a61)
def F_lecternref03_One (p0 : List UInt8) (p1 : Int) : Option (T_lecternref03_Token × Int × Int) :=
   (letJ (fun v4 : Bool => (letJ (fun v8 : Bool => cond v8
       ((F_lecternref03_declaration p0).bind fun x11 =>
       some (x11.1, x11.2.1, x11.2.2))
       ((F_lecternref03_Stands p0 p1 ([60, 33, 45, 45] : List UInt8)).bind fun x12 =>
       cond x12
        ((F_lecternref03_Find p0 (IntKind.wrap .i64 (p1 + (4 : Int))) ([45, 45] : List UInt8)).bind fun x14 =>
         (letJ (fun v17 : Bool => cond v17
           (some ((⟨(0 : Int), (0 : Int), ([] : List UInt8), ([] : List T_scan_Pair), ([] : List UInt8), (0 : Int)⟩ : T_lecternref03_Token), (0 : Int), (23 : Int)))
           ((slc p0 (IntKind.wrap .i64 (p1 + (4 : Int))) x14).bind fun x20 =>
           some ((⟨(7 : Int), (0 : Int), ([] : List UInt8), ([] : List T_scan_Pair), x20, (0 : Int)⟩ : T_lecternref03_Token), (IntKind.wrap .i64 (x14 + (3 : Int))), (0 : Int)))) fun J16 => cond (decide (x14 < (0 : Int))) (J16 true) ((F_lecternref03_Stands p0 x14 ([45, 45, 62] : List UInt8)).bind fun x18 =>
          J16 (!x18))))
        ((F_lecternref03_Stands p0 p1 ([60, 33, 91, 67, 68, 65, 84, 65, 91] : List UInt8)).bind fun x21 =>
        cond x21
         ((F_lecternref03_Find p0 (IntKind.wrap .i64 (p1 + (9 : Int))) ([93, 93, 62] : List UInt8)).bind fun x23 =>
         cond (decide (x23 < (0 : Int)))
          (some ((⟨(0 : Int), (0 : Int), ([] : List UInt8), ([] : List T_scan_Pair), ([] : List UInt8), (0 : Int)⟩ : T_lecternref03_Token), (0 : Int), (23 : Int)))
          ((slc p0 (IntKind.wrap .i64 (p1 + (9 : Int))) x23).bind fun x25 =>
          some ((⟨(6 : Int), (0 : Int), ([] : List UInt8), ([] : List T_scan_Pair), x25, (0 : Int)⟩ : T_lecternref03_Token), (IntKind.wrap .i64 (x23 + (3 : Int))), (0 : Int))))
         ((F_lecternref03_Stands p0 p1 ([60, 33, 68, 79, 67, 84, 89, 80, 69] : List UInt8)).bind fun x26 =>
         cond x26
          (some ((⟨(0 : Int), (0 : Int), ([] : List UInt8), ([] : List T_scan_Pair), ([] : List UInt8), (0 : Int)⟩ : T_lecternref03_Token), (0 : Int), (25 : Int)))
          ((F_lecternref03_Stands p0 p1 ([60, 33] : List UInt8)).bind fun x28 =>
          cond x28
           (some ((⟨(0 : Int), (0 : Int), ([] : List UInt8), ([] : List T_scan_Pair), ([] : List UInt8), (0 : Int)⟩ : T_lecternref03_Token), (0 : Int), (23 : Int)))
           ((F_lecternref03_Stands p0 p1 ([60, 63] : List UInt8)).bind fun x30 =>
           cond x30
            ((F_lecternref03_instruction p0 (IntKind.wrap .i64 (p1 + (2 : Int)))).bind fun x32 =>
            some (x32.1, x32.2.1, x32.2.2))
            ((F_lecternref03_Stands p0 p1 ([60, 47] : List UInt8)).bind fun x33 =>
            cond x33
             ((F_lecternref03_written p0 (IntKind.wrap .i64 (p1 + (2 : Int)))).bind fun x35 =>
             cond (x35.2.2 != (0 : Int))
              (some ((⟨(0 : Int), (0 : Int), ([] : List UInt8), ([] : List T_scan_Pair), ([] : List UInt8), (0 : Int)⟩ : T_lecternref03_Token), (0 : Int), x35.2.2))
              ((F_lecternref03_White p0 x35.2.1).bind fun x37 =>
               (F_lecternref03_Stands p0 x37 ([62] : List UInt8)).bind fun x38 =>
              cond (!x38)
               (some ((⟨(0 : Int), (0 : Int), ([] : List UInt8), ([] : List T_scan_Pair), ([] : List UInt8), (0 : Int)⟩ : T_lecternref03_Token), (0 : Int), (23 : Int)))
               (some ((⟨(3 : Int), (0 : Int), x35.1, ([] : List T_scan_Pair), ([] : List UInt8), (0 : Int)⟩ : T_lecternref03_Token), (IntKind.wrap .i64 (x37 + (1 : Int))), (0 : Int)))))
             ((idx p0 p1).bind fun x40 =>
             cond ((x40.toNat : Int) == (60 : Int))
              ((F_lecternref03_tag p0 (IntKind.wrap .i64 (p1 + (1 : Int)))).bind fun x42 =>
              some (x42.1, x42.2.1, x42.2.2))
              ((F_lecternref03_Find p0 p1 ([60] : List UInt8)).bind fun x43 =>
              letJ (fun a45 : Int =>
                (slc p0 p1 a45).bind fun x48 =>
                (F_lecternref02_Read x48 false).bind fun x49 =>
               cond (x49.2.2 != (0 : Int))
                (some ((⟨(0 : Int), (0 : Int), ([] : List UInt8), ([] : List T_scan_Pair), ([] : List UInt8), (0 : Int)⟩ : T_lecternref03_Token), (0 : Int), x49.2.2))
                (letJ (fun a59 : Int =>
                 some ((⟨(5 : Int), (0 : Int), ([] : List UInt8), ([] : List T_scan_Pair), x49.1, a59⟩ : T_lecternref03_Token), a45, (0 : Int))) fun J60 =>
                 (iter (F_lecternref03_One_l0 p0 a45) FUEL ((0 : Int), p1)).bind fun o =>
                J60 o)) fun J46 =>
              cond (decide (x43 < (0 : Int)))
               (J46 (p0.length : Int))
               (J46 x43)))))))))) fun J7 => cond v4 ((F_lecternref03_White p0 (5 : Int)).bind fun x9 =>
      J7 (decide ((5 : Int) < x9))) (J7 false))) fun J3 => cond (p1 == (0 : Int)) ((F_lecternref03_Stands p0 (0 : Int) ([60, 63, 120, 109, 108] : List UInt8)).bind fun x5 =>
    J3 x5) (J3 false))
def F_lecternref03_All_l0 (x2 : (List UInt8)) (rec22 : Int × (List T_lecternref03_Token) → Option (((List T_lecternref03_Token)) ⊕ ((List T_lecternref03_Token) × Int × Int))) : Int × (List T_lecternref03_Token) → Option (((List T_lecternref03_Token)) ⊕ ((List T_lecternref03_Token) × Int × Int))
  | (a17, a18) =>
  cond (decide (a17 < (x2.length : Int)))
   ((F_lecternref03_One x2 a17).bind fun x25 =>
   cond (x25.2.2 != (0 : Int))
    (some (.inr (([] : List T_lecternref03_Token), a17, x25.2.2)))
    ((app 80 a18 [(⟨x25.1.Kind, a17, x25.1.Name, x25.1.Pairs, x25.1.Text, x25.1.Refs⟩ : T_lecternref03_Token)]).bind fun _ =>
    rec22 (x25.2.1, (a18 ++ [(⟨x25.1.Kind, a17, x25.1.Name, x25.1.Pairs, x25.1.Text, x25.1.Refs⟩ : T_lecternref03_Token)]))))
   (some (.inl a18))
def F_lecternref03_All (p0 : List UInt8) : Option ((List T_lecternref03_Token) × Int × Int) :=
  cond (decide ((65536 : Int) < (p0.length : Int)))
   (some (([] : List T_lecternref03_Token), (0 : Int), (6 : Int)))
   ((F_lecternref03_Text p0).bind fun x2 =>
    (F_lecternref01_Fault x2).bind fun x3 =>
   cond (x3.2 != (0 : Int))
    (some (([] : List T_lecternref03_Token), x3.1, x3.2))
    (letJ (fun a14 : List T_lecternref03_Token =>
     some (a14, (0 : Int), (0 : Int))) fun J16 =>
     (iter (F_lecternref03_All_l0 x2) FUEL ((0 : Int), ([] : List T_lecternref03_Token))).bind fun o =>
    match o with
    | .inl o1 => J16 o1
    | .inr o1 => some o1))
def F_lecternlaw03_doc_l0 (p0 : T_scan_Token) (rec34 : Int × Int × (List UInt8) × (List T_scan_Pair) × (List UInt8) × Int × Int → Option ((Int × Int × (List UInt8) × (List T_scan_Pair) × (List UInt8) × Int))) : Int × Int × (List UInt8) × (List T_scan_Pair) × (List UInt8) × Int × Int → Option ((Int × Int × (List UInt8) × (List T_scan_Pair) × (List UInt8) × Int))
  | (a24, a25, a26, a27, a29, a30, a31) =>
  cond (decide (a31 < (p0.Pairs.length : Int)))
   ((idx p0.Pairs a31).bind fun x37 =>
    (app 32 a27 [x37]).bind fun _ =>
   rec34 (a24, a25, a26, (a27 ++ [x37]), a29, a30, (IntKind.wrap .i64 (a31 + (1 : Int)))))
   (some (a24, a25, a26, a27, a29, a30))
def F_lecternlaw03_doc (p0 : T_scan_Token) : Option (T_lecternref03_Token) :=
  letJ (fun v : Int × Int × (List UInt8) × (List T_scan_Pair) × (List UInt8) × Int => match v with
   | (a16, a17, a18, a19, a21, a22) =>
   some (⟨a16, a17, a18, a19, a21, a22⟩ : T_lecternref03_Token)) fun J23 =>
   (iter (F_lecternlaw03_doc_l0 p0) FUEL (p0.Kind, p0.At, p0.Name, ([] : List T_scan_Pair), p0.Text, p0.Refs, (0 : Int))).bind fun o =>
  J23 o
def F_lecternref03_Same_l0 (p0 : T_lecternref03_Token) (p1 : T_lecternref03_Token) (rec15 : Int → Option (Unit ⊕ Bool)) (a12 : Int) : Option (Unit ⊕ Bool) :=
  cond (decide (a12 < (p0.Pairs.length : Int)))
   ((idx p0.Pairs a12).bind fun x18 =>
    (idx p1.Pairs a12).bind fun x19 =>
   cond (!((x18.Name == x19.Name) && ((x18.Value == x19.Value) && true)))
    (some (.inr false))
    (rec15 (IntKind.wrap .i64 (a12 + (1 : Int)))))
   (some (.inl ()))
def F_lecternref03_Same (p0 : T_lecternref03_Token) (p1 : T_lecternref03_Token) : Option (Bool) :=
  cond (((((p0.Kind != p1.Kind) || (!(p0.Name == p1.Name))) || (!(p0.Text == p1.Text))) || (p0.Refs != p1.Refs)) || ((p0.Pairs.length : Int) != (p1.Pairs.length : Int)))
   (some false)
   (letJ (fun _ : Unit =>
    some true) fun J11 =>
    (iter (F_lecternref03_Same_l0 p0 p1) FUEL (0 : Int)).bind fun o =>
   match o with
   | .inl o1 => J11 o1
   | .inr o1 => some o1)
def F_lecternref01_Same (p0 : List UInt8) (p1 : List UInt8) : Option (Bool) :=
  some (p0 == p1)
def F_lecternref01_Kept (p0 : List UInt8 × List UInt8) (p1 : List UInt8) : Option (Bool) :=
   (F_lecternref01_Same p0.1 p1).bind fun x1 =>
   (letJ (fun v4 : Bool => (letJ (fun v9 : Bool => some v9) fun J8 => cond v4 ((slc (p0.1 ++ p0.2) (0 : Int) (IntKind.wrap .i64 ((p0.1.length : Int) + (1 : Int)))).bind fun x10 =>
       (idx x10 (p0.1.length : Int)).bind fun x11 =>
      J8 ((x11.toNat : Int) == (165 : Int))) (J8 false))) fun J3 => cond x1 ((idx p0.2 (0 : Int)).bind fun x6 =>
    J3 true) (J3 false))
end Go.Proofs.YtfokkdofcekdbaaGreatDoor
