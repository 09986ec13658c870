/- The plain functions. No condition. -/
import Derived.Test.YtfokkdofcekdbaaGreatDoorEng33
import Derived.Test.YtfokkdofcekdbaaGreatDoorLg03
set_option linter.unusedVariables false
set_option linter.unusedSimpArgs false
set_option maxRecDepth 20000
set_option maxHeartbeats 8000000
namespace Go.Proofs.YtfokkdofcekdbaaGreatDoor
abbrev LB := List UInt8
structure TC where
  lo : Int
  hi : Int
  deriving DecidableEq, Inhabited
def c_TC (x : TC) : List D := [.int .i32 x.lo, .int .i32 x.hi]
structure TS where
  b : LB
  at_ : Int
  deriving DecidableEq, Inhabited
def cTS (x : TS) : List D := [.sl 1 (List.map c_u8 x.b) 0, .int .i64 x.at_]
structure TP where
  Name : LB
  Value : LB
  deriving DecidableEq, Inhabited
def cP (x : TP) : List D := [.str x.Name, .str x.Value]
structure TK where
  Kind : Int
  At : Int
  Name : LB
  Pairs : List TP
  Text : LB
  Refs : Int
  deriving DecidableEq, Inhabited
def cTK (x : TK) : List D := [.int .i64 x.Kind, .int .i64 x.At, .str x.Name, .sl 2 (List.map cP x.Pairs) 0, .str x.Text, .int .i64 x.Refs]
structure TR where
  Kind : Int
  At : Int
  Name : LB
  Pairs : List TP
  Text : LB
  Refs : Int
  deriving DecidableEq, Inhabited
def cTR (x : TR) : List D := [.int .i64 x.Kind, .int .i64 x.At, .str x.Name, .sl 2 (List.map cP x.Pairs) 0, .str x.Text, .int .i64 x.Refs]
def Fy_Equal (p0 : LB) (p1 : LB) : Option (Bool) :=
  some (p0 == p1)
def Fy_HasPrefix (p0 : LB) (p1 : LB) : Option (Bool) :=
   (letJ (fun v3 : Bool => some v3) fun J2 => cond (decide ((p1.length : Int) ≤ (p0.length : Int))) ((slc p0 (0 : Int) (p1.length : Int)).bind fun x4 =>
     (Fy_Equal x4 p1).bind fun x5 =>
    J2 x5) (J2 false))
def Fy_TrimPrefix (p0 : LB) (p1 : LB) : Option (LB) :=
   (Fy_HasPrefix p0 p1).bind fun x1 =>
  cond x1
   ((slc p0 (p1.length : Int) (p0.length : Int)).bind fun x3 =>
   some x3)
   (some p0)
def Fh_Lines_l0 (p0 : LB) (rec55 : LB × Int → Option ((LB))) : LB × Int → Option ((LB))
  | (a51, a52) =>
  cond (decide (a52 < (p0.length : Int)))
   (letJ (fun a78 : LB =>
    rec55 (a78, (IntKind.wrap .i64 (a52 + (1 : Int))))) fun J79 =>
    (idx p0 a52).bind fun x80 =>
   letJ (fun a88 : Int =>
     (u8 a88).bind fun b97 =>
     (app 1 a51 [b97]).bind fun _ =>
     (some (a51 ++ [b97])).bind fun a99 =>
    J79 a99) fun J89 =>
    (letJ (fun v93 : Bool => cond v93
      (J79 a51)
      (cond ((x80.toNat : Int) == (13 : Int))
       (J89 (10 : Int))
       (J89 (x80.toNat : Int)))) fun J92 => cond (((x80.toNat : Int) == (10 : Int)) && (decide ((0 : Int) < a52))) ((idx p0 (IntKind.wrap .i64 (a52 - (1 : Int)))).bind fun x94 =>
     J92 ((x94.toNat : Int) == (13 : Int))) (J92 false)))
   (some a51)
def Fh_Lines (p0 : LB) : Option (LB) :=
   (mkG 1 (0 : Int) (p0.length : Int)).bind fun _ =>
   (some (List.replicate (Int.toNat (0 : Int)) (0 : UInt8))).bind fun a2 =>
  letJ (fun a48 : LB =>
   some a48) fun J49 =>
   (iter (Fh_Lines_l0 p0) FUEL (a2, (0 : Int))).bind fun o =>
  J49 o
def F_scan_Plain (p0 : LB) : Option (LB) :=
   (u8 (239 : Int)).bind fun b1 =>
   (u8 (187 : Int)).bind fun b2 =>
   (u8 (191 : Int)).bind fun b3 =>
   (Fy_TrimPrefix p0 ([b1, b2, b3])).bind fun x4 =>
   (Fh_Lines x4).bind fun x5 =>
  some x5
def Fh_in_l0 (p0 : Int) (p1 : List TC) (rec10 : Int → Option (Unit ⊕ Bool)) (a7 : Int) : Option (Unit ⊕ Bool) :=
  cond (decide (a7 < (p1.length : Int)))
   ((idx p1 a7).bind fun x13 =>
   cond (decide (p0 ≤ x13.hi))
    (some (.inr (decide (x13.lo ≤ p0))))
    (rec10 (IntKind.wrap .i64 (a7 + (1 : Int)))))
   (some (.inl ()))
def Fh_in (p0 : Int) (p1 : List TC) : Option (Bool) :=
  letJ (fun _ : Unit =>
   some false) fun J6 =>
   (iter (Fh_in_l0 p0 p1) FUEL (0 : Int)).bind fun o =>
  match o with
  | .inl o1 => J6 o1
  | .inr o1 => some o1
def Fh_IsChar (p0 : Int) : Option (Bool) :=
   (letJ (fun v5 : Bool => some v5) fun J4 => cond (((p0 == (9 : Int)) || (p0 == (10 : Int))) || (p0 == (13 : Int))) (J4 true) ((Fh_in p0 ([(⟨(32 : Int), (55295 : Int)⟩ : TC), (⟨(57344 : Int), (65533 : Int)⟩ : TC), (⟨(65536 : Int), (1114111 : Int)⟩ : TC)])).bind fun x6 =>
    J4 x6))
def Fh_Next (p0 : LB) (p1 : Int) : Option (Int × Int × Int) :=
  cond ((decide (p1 < (0 : Int))) || (decide ((p0.length : Int) ≤ p1)))
   (some ((0 : Int), (0 : Int), (1 : Int)))
   ((slc p0 p1 (p0.length : Int)).bind fun x3 =>
    (L_DecodeRune x3).bind fun x4 =>
   cond ((x4.1 == (65533 : Int)) && (decide (x4.2 < (3 : Int))))
    (some ((0 : Int), (0 : Int), (20 : Int)))
    ((Fh_IsChar x4.1).bind fun x7 =>
    cond (!x7)
     (some ((0 : Int), (0 : Int), (21 : Int)))
     (some (x4.1, (IntKind.wrap .i64 (p1 + x4.2)), (0 : Int)))))
def Fh_Fault_l0 (p0 : LB) (rec9 : Int → Option (Unit ⊕ (Int × Int))) (a6 : Int) : Option (Unit ⊕ (Int × Int)) :=
  cond (decide (a6 < (p0.length : Int)))
   ((Fh_Next p0 a6).bind fun x12 =>
   cond (x12.2.2 != (0 : Int))
    (some (.inr (a6, x12.2.2)))
    (rec9 x12.2.1))
   (some (.inl ()))
def Fh_Fault (p0 : LB) : Option (Int × Int) :=
  letJ (fun _ : Unit =>
   some ((0 : Int), (0 : Int))) fun J5 =>
   (iter (Fh_Fault_l0 p0) FUEL (0 : Int)).bind fun o =>
  match o with
  | .inl o1 => J5 o1
  | .inr o1 => some o1
def Fs_here (p0 : TS) (p1 : LB) : Option (Bool) :=
   (slc p0.b p0.at_ (p0.b.length : Int)).bind fun x1 =>
   (Fy_HasPrefix x1 p1).bind fun x2 =>
  some x2
def Fs_spaces_l0 (p0 : TS) (rec13 : Int → Option (Int)) (a10 : Int) : Option (Int) :=
   (letJ (fun v17 : Bool => cond v17
     (rec13 (IntKind.wrap .i64 (a10 + (1 : Int))))
     (some a10)) fun J16 => cond (decide (a10 < (p0.b.length : Int))) ((idx p0.b a10).bind fun x18 =>
     (L_IndexByte ([32, 9, 10, 13] : LB) (x18.toNat : Int)).bind fun x19 =>
    J16 (decide ((0 : Int) ≤ x19))) (J16 false))
def Fs_spaces (p0 : TS) (p1 : Int) : Option (Int) :=
  letJ (fun a8 : Int =>
   some a8) fun J9 =>
   (iter (Fs_spaces_l0 p0) FUEL p1).bind fun o =>
  J9 o
def Fs_sign (p0 : TS) (p1 : LB) : Option (Int × TS) :=
   (Fs_here p0 p1).bind fun x1 =>
  cond (!x1)
   (some ((23 : Int), p0))
   (some ((0 : Int), (⟨p0.b, (IntKind.wrap .i64 (p0.at_ + (p1.length : Int)))⟩ : TS)))
def Fs_equals (p0 : TS) : Option (Int × TS) :=
   (Fs_spaces p0 p0.at_).bind fun x1 =>
   (Fs_sign (⟨p0.b, x1⟩ : TS) ([61] : LB)).bind fun x2 =>
   (Fs_spaces x2.2 x2.2.at_).bind fun x3 =>
  some (x2.1, (⟨x2.2.b, x3⟩ : TS))
def Fs_quoted (p0 : TS) : Option ((LB × Int) × TS) :=
   (Fs_here p0 ([39] : LB)).bind fun x1 =>
   (letJ (fun v4 : Bool => cond v4
     (some ((([] : LB), (23 : Int)), p0))
     ((slc p0.b (IntKind.wrap .i64 (p0.at_ + (1 : Int))) (p0.b.length : Int)).bind fun x7 =>
      (idx p0.b p0.at_).bind fun x8 =>
      (L_bIndexByte x7 (x8.toNat : Int)).bind fun x9 =>
     cond (decide (x9 < (0 : Int)))
      (some ((([] : LB), (23 : Int)), p0))
      ((slc x7 (0 : Int) x9).bind fun x11 =>
      some ((x11, (0 : Int)), (⟨p0.b, (IntKind.wrap .i64 (p0.at_ + (IntKind.wrap .i64 (x9 + (2 : Int)))))⟩ : TS))))) fun J3 => cond (!x1) ((Fs_here p0 ([34] : LB)).bind fun x5 =>
    J3 (!x5)) (J3 false))
def Fi_HasPrefix (p0 : LB) (p1 : LB) : Option (Bool) :=
   (letJ (fun v3 : Bool => some v3) fun J2 => cond (decide ((p1.length : Int) ≤ (p0.length : Int))) ((slc p0 (0 : Int) (p1.length : Int)).bind fun x4 =>
    J2 (x4 == p1)) (J2 false))
def Fi_CutPrefix (p0 : LB) (p1 : LB) : Option (LB × Bool) :=
   (Fi_HasPrefix p0 p1).bind fun x1 =>
  cond (!x1)
   (some (p0, false))
   ((slc p0 (p1.length : Int) (p0.length : Int)).bind fun x3 =>
   some (x3, true))
def Fx (p0 : LB) (p1 : LB) : Option (LB × Bool) :=
   (Fi_CutPrefix p0 p1).bind fun x1 =>
  some (x1.1, x1.2)
def F_scan_fits (p0 : LB) (p1 : LB) : Option (Bool) :=
  cond (p0 == ([118, 101, 114, 115, 105, 111, 110] : LB))
   ((Fx p1 ([49, 46] : LB)).bind fun x2 =>
    (letJ (fun v6 : Bool => some v6) fun J5 => cond (x2.2 && (!(x2.1 == ([] : LB)))) ((L_Trim x2.1 ([48, 49, 50, 51, 52, 53, 54, 55, 56, 57] : LB)).bind fun x7 =>
     J5 (x7 == ([] : LB))) (J5 false)))
   (cond (p0 == ([101, 110, 99, 111, 100, 105, 110, 103] : LB))
    ((letJ (fun v11 : Bool => (letJ (fun v16 : Bool => some v16) fun J15 => cond v11 ((L_Trim p1 ([65, 66, 67, 68, 69, 70, 71, 72, 73, 74, 75, 76, 77, 78, 79, 80, 81, 82, 83, 84, 85, 86, 87, 88, 89, 90, 97, 98, 99, 100, 101, 102, 103, 104, 105, 106, 107, 108, 109, 110, 111, 112, 113, 114, 115, 116, 117, 118, 119, 120, 121, 122, 48, 49, 50, 51, 52, 53, 54, 55, 56, 57, 46, 95, 45] : LB)).bind fun x17 =>
        J15 (x17 == ([] : LB))) (J15 false))) fun J10 => cond (!(p1 == ([] : LB))) ((idx p1 (0 : Int)).bind fun x12 =>
       (L_IndexByte ([65, 66, 67, 68, 69, 70, 71, 72, 73, 74, 75, 76, 77, 78, 79, 80, 81, 82, 83, 84, 85, 86, 87, 88, 89, 90, 97, 98, 99, 100, 101, 102, 103, 104, 105, 106, 107, 108, 109, 110, 111, 112, 113, 114, 115, 116, 117, 118, 119, 120, 121, 122] : LB) (x12.toNat : Int)).bind fun x13 =>
      J10 (decide ((0 : Int) ≤ x13))) (J10 false)))
    (some ((p1 == ([121, 101, 115] : LB)) || (p1 == ([110, 111] : LB)))))
def Fq_l1 (a94 : Int) (a95 : Int) (rec112 : Int → Option (Int)) (a109 : Int) : Option (Int) :=
  cond ((a109 != a94) && (decide (a109 < a95)))
   ((L_SimpleFold a109).bind fun x116 =>
   rec112 x116)
   (some a109)
def Fq_l0 (x52 : LB) (rec87 : LB × Nat → Option ((LB) ⊕ Bool)) : LB × Nat → Option ((LB) ⊕ Bool)
  | (a83, a84) =>
  cond (decide (a84 < x52.length))
   (cond ((a83.length : Int) == (0 : Int))
    (some (.inr false))
    ((L_DecodeRuneInString a83).bind fun x90 =>
     (slc a83 x90.2 (a83.length : Int)).bind fun x91 =>
    cond (x90.1 == (rnS x52 a84))
     (rec87 (x91, (a84 + wdS x52 a84)))
     (letJ (fun v : Int × Int => match v with
      | (a94, a95) =>
      cond (decide (a95 < (128 : Int)))
       (cond (((decide ((65 : Int) ≤ a94)) && (decide (a94 ≤ (90 : Int)))) && (a95 == (IntKind.wrap .i32 ((IntKind.wrap .i32 (a94 + (97 : Int))) - (65 : Int)))))
        (rec87 (x91, (a84 + wdS x52 a84)))
        (some (.inr false)))
       ((L_SimpleFold a94).bind fun x102 =>
       letJ (fun a107 : Int =>
        cond (a107 == a95)
         (rec87 (x91, (a84 + wdS x52 a84)))
         (some (.inr false))) fun J108 =>
        (iter (Fq_l1 a94 a95) FUEL x102).bind fun o =>
       J108 o)) fun J96 =>
     cond (decide (x90.1 < (rnS x52 a84)))
      (J96 (x90.1, (rnS x52 a84)))
      (J96 ((rnS x52 a84), x90.1)))))
   (some (.inl a83))
def Fq_l2 (p0 : LB) (p1 : LB) (rec146 : Int → Option (Unit ⊕ Int ⊕ Bool)) (a143 : Int) : Option (Unit ⊕ Int ⊕ Bool) :=
  cond (decide (a143 < (if (p1.length : Int) < (p0.length : Int) then (p1.length : Int) else (p0.length : Int))))
   (letJ (fun _ : Unit =>
    rec146 (IntKind.wrap .i64 (a143 + (1 : Int)))) fun J160 =>
    (idx p0 a143).bind fun x161 =>
    (idx p1 a143).bind fun x162 =>
   cond (decide ((128 : Int) ≤ (ior .u8 (x161.toNat : Int) (x162.toNat : Int))))
    (some (.inr (.inl a143)))
    (cond ((x162.toNat : Int) == (x161.toNat : Int))
     (J160 ())
     (letJ (fun v : Int × Int => match v with
      | (a166, a167) =>
      cond (((decide ((65 : Int) ≤ a166)) && (decide (a166 ≤ (90 : Int)))) && (a167 == (IntKind.wrap .u8 ((IntKind.wrap .u8 (a166 + (97 : Int))) - (65 : Int)))))
       (J160 ())
       (some (.inr (.inr false)))) fun J168 =>
     cond (decide ((x162.toNat : Int) < (x161.toNat : Int)))
      (J168 ((x162.toNat : Int), (x161.toNat : Int)))
      (J168 ((x161.toNat : Int), (x162.toNat : Int))))))
   (some (.inl ()))
def Fq (p0 : LB) (p1 : LB) : Option (Bool) :=
  letJ (fun a49 : Int =>
    (slc p0 a49 (p0.length : Int)).bind fun x52 =>
    (slc p1 a49 (p1.length : Int)).bind fun x53 =>
   letJ (fun a80 : LB =>
    some ((a80.length : Int) == (0 : Int))) fun J81 =>
    (iter (Fq_l0 x52) FUEL (x53, (0 : Nat))).bind fun o =>
   match o with
   | .inl o1 => J81 o1
   | .inr o1 => some o1) fun J50 =>
  letJ (fun _ : Unit =>
   some ((p0.length : Int) == (p1.length : Int))) fun J142 =>
   (iter (Fq_l2 p0 p1) FUEL (0 : Int)).bind fun o =>
  match o with
  | .inl o1 => J142 o1
  | .inr (.inl o1) => J50 o1
  | .inr (.inr o1) => some o1
def Fs_decl_l0 (rec82 : LB × Int × Int × Int × LB × (List TP) × LB × Int × LB × Int → Option ((LB × Int × LB × Int × Int × LB × (List TP) × LB × Int) ⊕ (Int × TS × TK))) : LB × Int × Int × Int × LB × (List TP) × LB × Int × LB × Int → Option ((LB × Int × LB × Int × Int × LB × (List TP) × LB × Int) ⊕ (Int × TS × TK))
  | (a69, a70, a71, a72, a73, a75, a76, a77, a78, a79) =>
  cond (decide (a79 < ([([118, 101, 114, 115, 105, 111, 110] : LB), ([101, 110, 99, 111, 100, 105, 110, 103] : LB), ([115, 116, 97, 110, 100, 97, 108, 111, 110, 101] : LB)].length : Int)))
   (letJ (fun v : LB × Int × (List TP) × LB => match v with
    | (a105, a106, a108, a109) =>
    rec82 (a105, a106, a71, a72, a73, a108, a76, a77, a109, (IntKind.wrap .i64 (a79 + (1 : Int))))) fun J110 =>
    (idx [([118, 101, 114, 115, 105, 111, 110] : LB), ([101, 110, 99, 111, 100, 105, 110, 103] : LB), ([115, 116, 97, 110, 100, 97, 108, 111, 110, 101] : LB)] a79).bind fun x111 =>
    (Fs_spaces (⟨a69, a70⟩ : TS) a70).bind fun x112 =>
    (letJ (fun v115 : Bool => cond v115
      (cond (x111 == ([118, 101, 114, 115, 105, 111, 110] : LB))
       (some (.inr ((23 : Int), (⟨a69, a70⟩ : TS), (⟨a71, a72, a73, a75, a76, a77⟩ : TK))))
       (J110 (a69, a70, a75, a78)))
      ((Fs_equals (⟨a69, (IntKind.wrap .i64 (x112 + (x111.length : Int)))⟩ : TS)).bind fun x120 =>
      cond (x120.1 != (0 : Int))
       (some (.inr ((23 : Int), x120.2, (⟨a71, a72, a73, a75, a76, a77⟩ : TK))))
       ((Fs_quoted x120.2).bind fun x122 =>
        (letJ (fun v125 : Bool => cond v125
          (some (.inr ((23 : Int), x122.2, (⟨a71, a72, a73, a75, a76, a77⟩ : TK))))
          ((app 32 a75 [(⟨x111, x122.1.1⟩ : TP)]).bind fun _ =>
           (some (a75 ++ [(⟨x111, x122.1.1⟩ : TP)])).bind fun a129 =>
          cond (x111 == ([101, 110, 99, 111, 100, 105, 110, 103] : LB))
           (J110 (x122.2.b, x122.2.at_, a129, x122.1.1))
           (J110 (x122.2.b, x122.2.at_, a129, a78)))) fun J124 => cond (x122.1.2 != (0 : Int)) (J124 true) ((F_scan_fits x111 x122.1.1).bind fun x126 =>
         J124 (!x126)))))) fun J114 => cond (x112 == a70) (J114 true) ((slc a69 x112 (a69.length : Int)).bind fun x116 =>
      (Fy_HasPrefix x116 x111).bind fun x117 =>
     J114 (!x117))))
   (some (.inl (a69, a70, a78, a71, a72, a73, a75, a76, a77)))
def Fs_decl (p0 : TS) (p1 : TK) : Option (Int × TS × TK) :=
  letJ (fun v : LB × Int × LB × Int × Int × LB × (List TP) × LB × Int => match v with
   | (a58, a59, a60, a61, a62, a63, a65, a66, a67) =>
    (Fs_spaces (⟨a58, a59⟩ : TS) a59).bind fun x131 =>
    (Fs_sign (⟨a58, x131⟩ : TS) ([63, 62] : LB)).bind fun x132 =>
   cond (x132.1 != (0 : Int))
    (some (x132.1, x132.2, (⟨a61, a62, a63, a65, a66, a67⟩ : TK)))
    ((letJ (fun v136 : Bool => cond v136
       (some ((25 : Int), x132.2, (⟨a61, a62, a63, a65, a66, a67⟩ : TK)))
       (some ((0 : Int), x132.2, (⟨a61, a62, a63, a65, a66, a67⟩ : TK)))) fun J135 => cond (!(a60 == ([] : LB))) ((Fq a60 ([117, 116, 102, 45, 56] : LB)).bind fun x137 =>
      J135 (!x137)) (J135 false)))) fun J68 =>
   (iter (Fs_decl_l0) FUEL (p0.b, (5 : Int), (1 : Int), p1.At, p1.Name, p1.Pairs, p1.Text, p1.Refs, ([] : LB), (0 : Int))).bind fun o =>
  match o with
  | .inl o1 => J68 o1
  | .inr o1 => some o1
def Fs_upTo (p0 : TS) (p1 : TK) (p2 : Int) (p3 : LB) : Option (Int × TS × TK) :=
   (slc p0.b (IntKind.wrap .i64 (p0.at_ + p2)) (p0.b.length : Int)).bind fun x1 =>
   (L_bIndex x1 p3).bind fun x2 =>
  cond (decide (x2 < (0 : Int)))
   (some ((23 : Int), p0, p1))
   ((slc x1 (0 : Int) x2).bind fun x4 =>
   some ((0 : Int), (⟨p0.b, (IntKind.wrap .i64 (p0.at_ + (IntKind.wrap .i64 ((IntKind.wrap .i64 (p2 + x2)) + (p3.length : Int)))))⟩ : TS), (⟨p1.Kind, p1.At, p1.Name, p1.Pairs, x4, p1.Refs⟩ : TK)))
def Fh_IsStart (p0 : Int) : Option (Bool) :=
  cond (decide (p0 < (128 : Int)))
   (some ((((decide ((97 : Int) ≤ p0)) && (decide (p0 ≤ (122 : Int)))) || ((decide ((65 : Int) ≤ p0)) && (decide (p0 ≤ (90 : Int))))) || (p0 == (95 : Int))))
   ((Fh_in p0 ([(⟨(192 : Int), (214 : Int)⟩ : TC), (⟨(216 : Int), (246 : Int)⟩ : TC), (⟨(248 : Int), (767 : Int)⟩ : TC), (⟨(880 : Int), (893 : Int)⟩ : TC), (⟨(895 : Int), (8191 : Int)⟩ : TC), (⟨(8204 : Int), (8205 : Int)⟩ : TC), (⟨(8304 : Int), (8591 : Int)⟩ : TC), (⟨(11264 : Int), (12271 : Int)⟩ : TC), (⟨(12289 : Int), (55295 : Int)⟩ : TC), (⟨(63744 : Int), (64975 : Int)⟩ : TC), (⟨(65008 : Int), (65533 : Int)⟩ : TC), (⟨(65536 : Int), (983039 : Int)⟩ : TC)])).bind fun x7 =>
   some x7)
def Fh_IsPart (p0 : Int) : Option (Bool) :=
   (Fh_IsStart p0).bind fun x1 =>
   (letJ (fun v10 : Bool => some v10) fun J9 => cond ((((x1 || (p0 == (45 : Int))) || (p0 == (46 : Int))) || ((decide ((48 : Int) ≤ p0)) && (decide (p0 ≤ (57 : Int))))) || (p0 == (183 : Int))) (J9 true) ((Fh_in p0 ([(⟨(768 : Int), (879 : Int)⟩ : TC), (⟨(8255 : Int), (8256 : Int)⟩ : TC)])).bind fun x11 =>
    J9 x11))
def Fh_Name_l0 (p0 : LB) (rec23 : Nat → Option (Unit ⊕ Bool)) (a20 : Nat) : Option (Unit ⊕ Bool) :=
  cond (decide (a20 < p0.length))
   ((letJ (fun v27 : Bool => (letJ (fun v31 : Bool => cond v31
        (some (.inr false))
        (rec23 (a20 + wdS p0 a20))) fun J30 => cond v27 (J30 true) ((Fh_IsPart (rnS p0 a20)).bind fun x32 =>
       J30 (!x32)))) fun J26 => cond (((a20 : Nat) : Int) == (0 : Int)) ((Fh_IsStart (rnS p0 a20)).bind fun x28 =>
     J26 (!x28)) (J26 false)))
   (some (.inl ()))
def Fh_Name (p0 : LB) : Option (Bool) :=
   (letJ (fun v4 : Bool => cond v4
     (some false)
     (letJ (fun _ : Unit =>
      some true) fun J18 =>
      (iter (Fh_Name_l0 p0) FUEL (0 : Nat)).bind fun o =>
     match o with
     | .inl o1 => J18 o1
     | .inr o1 => some o1)) fun J3 => cond ((p0 == ([] : LB)) || (decide ((100 : Int) < (p0.length : Int)))) (J3 true) ((L_ValidString p0).bind fun x5 =>
    J3 (!x5)))
def Fh_Split (p0 : LB) : Option (LB × LB × Bool) :=
   (L_Cut p0 ([58] : LB)).bind fun x1 =>
   (letJ (fun v4 : Bool => cond v4
     (some (([] : LB), p0, true))
     ((letJ (fun v9 : Bool => (letJ (fun v13 : Bool => cond v13
          (some (x1.1, x1.2.1, true))
          (some (([] : LB), ([] : LB), false))) fun J12 => cond v9 ((Fh_Name x1.2.1).bind fun x14 =>
         J12 x14) (J12 false))) fun J8 => cond x1.2.2 ((Fh_Name x1.1).bind fun x10 =>
       J8 x10) (J8 false)))) fun J3 => cond (!x1.2.2) ((Fh_Name p0).bind fun x5 =>
    J3 x5) (J3 false))
def Fs_name_l0 (p0 : TS) (rec22 : Int → Option (Int)) (a19 : Int) : Option (Int) :=
  cond (decide (a19 < (p0.b.length : Int)))
   ((slc p0.b a19 (p0.b.length : Int)).bind fun x25 =>
    (L_DecodeRune x25).bind fun x26 =>
    (letJ (fun v29 : Bool => cond v29
      (some a19)
      (rec22 (IntKind.wrap .i64 (a19 + x26.2)))) fun J28 => cond (x26.1 != (58 : Int)) ((Fh_IsPart x26.1).bind fun x30 =>
      (letJ (fun v33 : Bool => J28 v33) fun J32 => cond (!x30) (J32 true) ((letJ (fun v36 : Bool => J32 v36) fun J35 => cond (a19 == p0.at_) ((Fh_IsStart x26.1).bind fun x37 =>
         J35 (!x37)) (J35 false))))) (J28 false)))
   (some a19)
def Fs_name (p0 : TS) : Option ((LB × Int) × TS) :=
  letJ (fun a17 : Int =>
    (slc p0.b p0.at_ a17).bind fun x39 =>
   cond (x39 == ([] : LB))
    (some ((([] : LB), (23 : Int)), p0))
    ((Fh_Split x39).bind fun x41 =>
    cond (!x41.2.2)
     (some ((([] : LB), (24 : Int)), p0))
     (some ((x39, (0 : Int)), (⟨p0.b, a17⟩ : TS))))) fun J18 =>
   (iter (Fs_name_l0 p0) FUEL p0.at_).bind fun o =>
  J18 o
def Fs_instr (p0 : TS) (p1 : TK) : Option (Int × TS × TK) :=
   (Fs_name (⟨p0.b, (IntKind.wrap .i64 (p0.at_ + (2 : Int)))⟩ : TS)).bind fun x1 =>
  cond (x1.1.2 != (0 : Int))
   (some (x1.1.2, x1.2, (⟨(8 : Int), p1.At, p1.Name, p1.Pairs, p1.Text, p1.Refs⟩ : TK)))
   ((Fh_Name x1.1.1).bind fun x3 =>
   cond (!x3)
    (some ((24 : Int), x1.2, (⟨(8 : Int), p1.At, p1.Name, p1.Pairs, p1.Text, p1.Refs⟩ : TK)))
    ((Fq x1.1.1 ([120, 109, 108] : LB)).bind fun x5 =>
    cond x5
     (some ((29 : Int), x1.2, (⟨(8 : Int), p1.At, p1.Name, p1.Pairs, p1.Text, p1.Refs⟩ : TK)))
     ((Fs_here x1.2 ([63, 62] : LB)).bind fun x7 =>
     cond x7
      ((Fs_sign x1.2 ([63, 62] : LB)).bind fun x9 =>
      some (x9.1, x9.2, (⟨(8 : Int), p1.At, x1.1.1, p1.Pairs, p1.Text, p1.Refs⟩ : TK)))
      ((Fs_spaces x1.2 x1.2.at_).bind fun x10 =>
      cond (x10 == x1.2.at_)
       (some ((23 : Int), x1.2, (⟨(8 : Int), p1.At, x1.1.1, p1.Pairs, p1.Text, p1.Refs⟩ : TK)))
       ((Fs_upTo (⟨x1.2.b, x10⟩ : TS) (⟨(8 : Int), p1.At, x1.1.1, p1.Pairs, p1.Text, p1.Refs⟩ : TK) (0 : Int) ([63, 62] : LB)).bind fun x12 =>
       some (x12.1, x12.2.1, x12.2.2))))))
def Fs_closing (p0 : TS) (p1 : TK) : Option (Int × TS × TK) :=
   (Fs_name (⟨p0.b, (IntKind.wrap .i64 (p0.at_ + (2 : Int)))⟩ : TS)).bind fun x1 =>
  cond (x1.1.2 != (0 : Int))
   (some (x1.1.2, x1.2, (⟨(3 : Int), p1.At, p1.Name, p1.Pairs, p1.Text, p1.Refs⟩ : TK)))
   ((Fs_spaces x1.2 x1.2.at_).bind fun x3 =>
    (Fs_sign (⟨x1.2.b, x3⟩ : TS) ([62] : LB)).bind fun x4 =>
   some (x4.1, x4.2, (⟨(3 : Int), p1.At, x1.1.1, p1.Pairs, p1.Text, p1.Refs⟩ : TK)))
def Fr_digit (p0 : Int) : Option (Int) :=
  cond ((decide ((48 : Int) ≤ p0)) && (decide (p0 ≤ (57 : Int))))
   (some (IntKind.wrap .i64 (IntKind.wrap .u8 (p0 - (48 : Int)))))
   (cond ((decide ((97 : Int) ≤ p0)) && (decide (p0 ≤ (102 : Int))))
    (some (IntKind.wrap .i64 ((IntKind.wrap .i64 (IntKind.wrap .u8 (p0 - (97 : Int)))) + (10 : Int))))
    (cond ((decide ((65 : Int) ≤ p0)) && (decide (p0 ≤ (70 : Int))))
     (some (IntKind.wrap .i64 ((IntKind.wrap .i64 (IntKind.wrap .u8 (p0 - (65 : Int)))) + (10 : Int))))
     (some (99 : Int))))
def Fr_meant_l0 (a9 : LB) (a10 : Int) (rec28 : Int × Int → Option (Int ⊕ (Int × Int))) : Int × Int → Option (Int ⊕ (Int × Int))
  | (a24, a25) =>
  cond (decide (a25 < (a9.length : Int)))
   ((idx a9 a25).bind fun x31 =>
    (Fr_digit (x31.toNat : Int)).bind fun x32 =>
   cond (decide (a10 ≤ x32))
    (some (.inr ((0 : Int), (22 : Int))))
    (rec28 ((if (1114112 : Int) < (IntKind.wrap .i64 ((IntKind.wrap .i64 (a24 * a10)) + x32)) then (1114112 : Int) else (IntKind.wrap .i64 ((IntKind.wrap .i64 (a24 * a10)) + x32))), (IntKind.wrap .i64 (a25 + (1 : Int))))))
   (some (.inl a24))
def Fr_meant (p0 : LB) : Option (Int × Int) :=
  cond (p0 == ([108, 116] : LB))
   (some ((60 : Int), (0 : Int)))
   (cond (p0 == ([103, 116] : LB))
    (some ((62 : Int), (0 : Int)))
    (cond (p0 == ([97, 109, 112] : LB))
     (some ((38 : Int), (0 : Int)))
     (cond (p0 == ([97, 112, 111, 115] : LB))
      (some ((39 : Int), (0 : Int)))
      (cond (p0 == ([113, 117, 111, 116] : LB))
       (some ((34 : Int), (0 : Int)))
       ((Fx p0 ([35] : LB)).bind fun x6 =>
       letJ (fun v : LB × Int => match v with
        | (a9, a10) =>
        cond ((!x6.2) || (a9 == ([] : LB)))
         (some ((0 : Int), (22 : Int)))
         (letJ (fun a22 : Int =>
           (Fh_IsChar (IntKind.wrap .i32 a22)).bind fun x34 =>
          cond (!x34)
           (some ((0 : Int), (21 : Int)))
           (some ((IntKind.wrap .i32 a22), (0 : Int)))) fun J23 =>
          (iter (Fr_meant_l0 a9 a10) FUEL ((0 : Int), (0 : Int))).bind fun o =>
         match o with
         | .inl o1 => J23 o1
         | .inr o1 => some o1)) fun J11 =>
        (Fx x6.1 ([120] : LB)).bind fun x12 =>
       cond x12.2
        (J11 (x12.1, (16 : Int)))
        (J11 (x6.1, (10 : Int))))))))
def Fr_Expand (p0 : LB) (p1 : Int) : Option (Int × Int × Int) :=
   (letJ (fun v4 : Bool => cond v4
     (some ((0 : Int), (0 : Int), (1 : Int)))
     ((slc p0 p1 (p0.length : Int)).bind fun x7 =>
      (L_bIndexByte x7 (59 : Int)).bind fun x8 =>
     cond (decide (x8 < (0 : Int)))
      (some ((0 : Int), (0 : Int), (22 : Int)))
      ((slc p0 (IntKind.wrap .i64 (p1 + (1 : Int))) (IntKind.wrap .i64 (p1 + x8))).bind fun x10 =>
       (Fr_meant x10).bind fun x11 =>
      cond (x11.2 != (0 : Int))
       (some ((0 : Int), (0 : Int), x11.2))
       (some (x11.1, (IntKind.wrap .i64 ((IntKind.wrap .i64 (p1 + x8)) + (1 : Int))), (0 : Int)))))) fun J3 => cond ((decide (p1 < (0 : Int))) || (decide ((p0.length : Int) ≤ p1))) (J3 true) ((idx p0 p1).bind fun x5 =>
    J3 ((x5.toNat : Int) != (38 : Int))))
def Fr_read_l0 (p0 : LB) (p1 : Bool) (rec60 : LB × Int → Option ((LB) ⊕ (LB × Int × Int))) : LB × Int → Option ((LB) ⊕ (LB × Int × Int))
  | (a55, a57) =>
  cond (decide (a57 < (p0.length : Int)))
   ((Fh_Next p0 a57).bind fun x63 =>
   letJ (fun v : Int × Int => match v with
    | (a85, a86) =>
     (app 1 a55 (Utf8.encode a85).data.toList).bind fun _ =>
    rec60 ((a55 ++ (Utf8.encode a85).data.toList), a86)) fun J87 =>
   cond (x63.2.2 != (0 : Int))
    (some (.inr (([] : LB), a57, x63.2.2)))
    ((letJ (fun v91 : Bool => cond v91
       (some (.inr (([] : LB), a57, (23 : Int))))
       (cond (x63.1 == (38 : Int))
        ((Fr_Expand p0 a57).bind fun x101 =>
        cond (x101.2.2 != (0 : Int))
         (some (.inr (([] : LB), a57, x101.2.2)))
         (J87 (x101.1, x101.2.1)))
        (cond (p1 && (((x63.1 == (9 : Int)) || (x63.1 == (10 : Int))) || (x63.1 == (13 : Int))))
         (J87 ((32 : Int), x63.2.1))
         (J87 (x63.1, x63.2.1))))) fun J90 => cond (x63.1 == (60 : Int)) (J90 true) ((letJ (fun v94 : Bool => J90 v94) fun J93 => cond (!p1) ((slc p0 a57 (p0.length : Int)).bind fun x95 =>
         (Fy_HasPrefix x95 ([93, 93, 62] : LB)).bind fun x98 =>
        J93 x98) (J93 false))))))
   (some (.inl a55))
def Fr_read (p0 : LB) (p1 : Bool) : Option (LB × Int × Int) :=
  letJ (fun a52 : LB =>
   some (a52, (0 : Int), (0 : Int))) fun J54 =>
   (iter (Fr_read_l0 p0 p1) FUEL (([] : LB), (0 : Int))).bind fun o =>
  match o with
  | .inl o1 => J54 o1
  | .inr o1 => some o1
def Fr_ReadValue (p0 : LB) : Option (LB × Int × Int) :=
   (Fr_read p0 true).bind fun x1 =>
  some (x1.1, x1.2.1, x1.2.2)
def Fs_tag_l1 (a6 : Int) (a7 : Int) (a8 : LB) (a10 : List TP) (a11 : LB) (a12 : Int) (x27 : (LB × Int) × TS) (x31 : (LB × Int) × TS) (rec44 : Int → Option (Unit ⊕ (Int × TS × TK))) (a41 : Int) : Option (Unit ⊕ (Int × TS × TK)) :=
  cond (decide (a41 < (a10.length : Int)))
   ((idx a10 a41).bind fun x47 =>
   cond (x47.Name == x27.1.1)
    (some (.inr ((27 : Int), x31.2, (⟨a6, a7, a8, a10, a11, a12⟩ : TK))))
    (rec44 (IntKind.wrap .i64 (a41 + (1 : Int)))))
   (some (.inl ()))
def Fs_tag_l0 (rec17 : LB × Int × Int × Int × LB × (List TP) × LB × Int × LB × LB → Option ((Int × TS × TK))) : LB × Int × Int × Int × LB × (List TP) × LB × Int × LB × LB → Option ((Int × TS × TK))
  | (a4, a5, a6, a7, a8, a10, a11, a12, a13, a14) =>
   (Fs_spaces (⟨a4, a5⟩ : TS) a5).bind fun x19 =>
   (Fs_here (⟨a4, x19⟩ : TS) ([47, 62] : LB)).bind fun x20 =>
  cond x20
   ((Fs_sign (⟨a4, x19⟩ : TS) ([47, 62] : LB)).bind fun x22 =>
   some (x22.1, x22.2, (⟨(4 : Int), a7, a8, a10, a11, a12⟩ : TK)))
   ((Fs_here (⟨a4, x19⟩ : TS) ([62] : LB)).bind fun x23 =>
   cond x23
    ((Fs_sign (⟨a4, x19⟩ : TS) ([62] : LB)).bind fun x25 =>
    some (x25.1, x25.2, (⟨a6, a7, a8, a10, a11, a12⟩ : TK)))
    (cond (x19 == a5)
     (some ((23 : Int), (⟨a4, x19⟩ : TS), (⟨a6, a7, a8, a10, a11, a12⟩ : TK)))
     ((Fs_name (⟨a4, x19⟩ : TS)).bind fun x27 =>
     cond (x27.1.2 != (0 : Int))
      (some (x27.1.2, x27.2, (⟨a6, a7, a8, a10, a11, a12⟩ : TK)))
      ((Fs_equals x27.2).bind fun x29 =>
      cond (x29.1 != (0 : Int))
       (some (x29.1, x29.2, (⟨a6, a7, a8, a10, a11, a12⟩ : TK)))
       ((Fs_quoted x29.2).bind fun x31 =>
       cond (x31.1.2 != (0 : Int))
        (some (x31.1.2, x31.2, (⟨a6, a7, a8, a10, a11, a12⟩ : TK)))
        ((Fr_ReadValue x31.1.1).bind fun x33 =>
        cond (x33.2.2 != (0 : Int))
         (some (x33.2.2, x31.2, (⟨a6, a7, a8, a10, a11, a12⟩ : TK)))
         (letJ (fun _ : Unit =>
           (app 32 a10 [(⟨x27.1.1, x33.1⟩ : TP)]).bind fun _ =>
           (some (a10 ++ [(⟨x27.1.1, x33.1⟩ : TP)])).bind fun a51 =>
          rec17 (x31.2.b, x31.2.at_, a6, a7, a8, a51, a11, a12, x27.1.1, x33.1)) fun J40 =>
          (iter (Fs_tag_l1 a6 a7 a8 a10 a11 a12 x27 x31) FUEL (0 : Int)).bind fun o =>
         match o with
         | .inl o1 => J40 o1
         | .inr o1 => some o1)))))))
def Fs_tag (p0 : TS) (p1 : TK) : Option (Int × TS × TK) :=
   (Fs_name (⟨p0.b, (IntKind.wrap .i64 (p0.at_ + (1 : Int)))⟩ : TS)).bind fun x2 =>
  cond (x2.1.2 != (0 : Int))
   (some (x2.1.2, x2.2, p1))
   ((iter (Fs_tag_l0) FUEL (x2.2.b, x2.2.at_, (2 : Int), p1.At, x2.1.1, p1.Pairs, p1.Text, p1.Refs, ([] : LB), ([] : LB))).bind fun o =>
   some o)
def Fr_ReadText (p0 : LB) : Option (LB × Int × Int) :=
   (Fr_read p0 false).bind fun x1 =>
  some (x1.1, x1.2.1, x1.2.2)
def Fs_text (p0 : TS) (p1 : TK) : Option (Int × TS × TK) :=
   (slc p0.b p0.at_ (p0.b.length : Int)).bind fun x1 =>
  letJ (fun a5 : LB =>
    (Fr_ReadText a5).bind fun x10 =>
    (L_bCount a5 ([38] : LB)).bind fun x13 =>
   some (x10.2.2, (⟨p0.b, (IntKind.wrap .i64 (p0.at_ + (a5.length : Int)))⟩ : TS), (⟨(5 : Int), p1.At, p1.Name, p1.Pairs, x10.1, x13⟩ : TK))) fun J6 =>
   (L_bIndexByte x1 (60 : Int)).bind fun x7 =>
  cond (decide ((0 : Int) ≤ x7))
   ((slc x1 (0 : Int) x7).bind fun x9 =>
   J6 x9)
   (J6 x1)
def Fs_token (p0 : TS) (p1 : TK) : Option (Int × TS × TK) :=
   (letJ (fun v3 : Bool => (letJ (fun v7 : Bool => cond v7
       ((Fs_decl p0 p1).bind fun x10 =>
       some (x10.1, x10.2.1, x10.2.2))
       ((Fs_here p0 ([60, 33, 45, 45] : LB)).bind fun x12 =>
       cond x12
        ((Fs_upTo p0 (⟨(7 : Int), p1.At, p1.Name, p1.Pairs, p1.Text, p1.Refs⟩ : TK) (4 : Int) ([45, 45] : LB)).bind fun x14 =>
        cond (x14.1 != (0 : Int))
         (some (x14.1, x14.2.1, x14.2.2))
         ((Fs_sign x14.2.1 ([62] : LB)).bind fun x17 =>
         some (x17.1, x17.2, x14.2.2)))
        ((Fs_here p0 ([60, 33, 91, 67, 68, 65, 84, 65, 91] : LB)).bind fun x18 =>
        cond x18
         ((Fs_upTo p0 (⟨(6 : Int), p1.At, p1.Name, p1.Pairs, p1.Text, p1.Refs⟩ : TK) (9 : Int) ([93, 93, 62] : LB)).bind fun x20 =>
         some (x20.1, x20.2.1, x20.2.2))
         ((Fs_here p0 ([60, 33, 68, 79, 67, 84, 89, 80, 69] : LB)).bind fun x22 =>
         cond x22
          (some ((25 : Int), p0, p1))
          ((Fs_here p0 ([60, 33] : LB)).bind fun x24 =>
          cond x24
           (some ((23 : Int), p0, p1))
           ((Fs_here p0 ([60, 63] : LB)).bind fun x26 =>
           cond x26
            ((Fs_instr p0 p1).bind fun x28 =>
            some (x28.1, x28.2.1, x28.2.2))
            ((Fs_here p0 ([60, 47] : LB)).bind fun x30 =>
            cond x30
             ((Fs_closing p0 p1).bind fun x32 =>
             some (x32.1, x32.2.1, x32.2.2))
             ((Fs_here p0 ([60] : LB)).bind fun x34 =>
             cond x34
              ((Fs_tag p0 p1).bind fun x36 =>
              some (x36.1, x36.2.1, x36.2.2))
              ((Fs_text p0 p1).bind fun x38 =>
              some (x38.1, x38.2.1, x38.2.2)))))))))) fun J6 => cond v3 ((Fs_spaces p0 (5 : Int)).bind fun x8 =>
      J6 (decide ((5 : Int) < x8))) (J6 false))) fun J2 => cond (p0.at_ == (0 : Int)) ((Fs_here p0 ([60, 63, 120, 109, 108] : LB)).bind fun x4 =>
    J2 x4) (J2 false))
def F_scan_All_l0 (rec13 : LB × Int × (List TK) → Option (((List TK) × Int × Int))) : LB × Int × (List TK) → Option (((List TK) × Int × Int))
  | (a7, a8, a10) =>
  cond (a8 == (a7.length : Int))
   (some (a10, (0 : Int), (0 : Int)))
   ((Fs_token (⟨a7, a8⟩ : TS) (⟨(0 : Int), a8, ([] : LB), ([] : List TP), ([] : LB), (0 : Int)⟩ : TK)).bind fun x20 =>
   cond (x20.1 != (0 : Int))
    (some (([] : List TK), a8, x20.1))
    ((app 80 a10 [x20.2.2]).bind fun _ =>
     (some (a10 ++ [x20.2.2])).bind fun a27 =>
    rec13 (x20.2.1.b, x20.2.1.at_, a27)))
def F_scan_All (p0 : LB) : Option ((List TK) × Int × Int) :=
  cond (decide ((65536 : Int) < (p0.length : Int)))
   (some (([] : List TK), (0 : Int), (6 : Int)))
   ((F_scan_Plain p0).bind fun x2 =>
    (Fh_Fault (⟨x2, (0 : Int)⟩ : TS).b).bind fun x4 =>
   cond (x4.2 != (0 : Int))
    (some (([] : List TK), x4.1, x4.2))
    ((iter (F_scan_All_l0) FUEL ((⟨x2, (0 : Int)⟩ : TS).b, (⟨x2, (0 : Int)⟩ : TS).at_, ([] : List TK))).bind fun o =>
    some o))
def Fl_awake : Option (Bool) :=
   (F_scan_All ([60, 97, 62, 120, 38, 97, 109, 112, 59, 121, 60, 47, 97, 62] : LB)).bind fun x3 =>
   (F_scan_All ([60, 97, 32, 98, 61, 39, 49, 39, 32, 98, 61, 39, 50, 39, 62] : LB)).bind fun x6 =>
   (letJ (fun v11 : Bool => (letJ (fun v15 : Bool => (letJ (fun v19 : Bool => (letJ (fun v23 : Bool => some v23) fun J22 => cond v19 ((idx x3.1 (2 : Int)).bind fun x24 =>
          J22 (x24.At == (10 : Int))) (J22 false))) fun J18 => cond v15 ((idx x3.1 (2 : Int)).bind fun x20 =>
        J18 (x20.Kind == (3 : Int))) (J18 false))) fun J14 => cond v11 ((idx x3.1 (1 : Int)).bind fun x16 =>
      J14 (x16.Refs == (1 : Int))) (J14 false))) fun J10 => cond (((x3.2.2 == (0 : Int)) && (x6.2.2 == (27 : Int))) && ((x3.1.length : Int) == (3 : Int))) ((idx x3.1 (1 : Int)).bind fun x12 =>
    J10 (x12.Text == ([120, 38, 121] : LB))) (J10 false))
def Fa_Spare (p0 : LB) : Option (LB × LB) :=
   (mkG 1 (0 : Int) (IntKind.wrap .i64 ((p0.length : Int) + (3 : Int)))).bind fun _ =>
   (some (List.replicate (Int.toNat (0 : Int)) (0 : UInt8))).bind fun a2 =>
   (app 1 a2 p0).bind fun _ =>
   (some (a2 ++ p0)).bind fun a4 =>
   (u8 (165 : Int)).bind fun b5 =>
   (app 1 a4 [b5]).bind fun _ =>
   (some (a4 ++ [b5])).bind fun a7 =>
   (idx a7 (0 : Int)).bind fun x10 =>
   (slc (a7 ++ []) (0 : Int) (p0.length : Int)).bind fun x8 =>
  some (x8, (List.drop (Int.toNat (p0.length : Int)) (a7 ++ [])))
def Fa_Lines_l0 (p0 : LB) (rec44 : LB × Int → Option ((LB))) : LB × Int → Option ((LB))
  | (a39, a41) =>
  cond (decide (a41 < (p0.length : Int)))
   (letJ (fun a61 : LB =>
    rec44 (a61, (IntKind.wrap .i64 (a41 + (1 : Int))))) fun J63 =>
    (idx p0 a41).bind fun x64 =>
   cond ((x64.toNat : Int) == (13 : Int))
    ((u8 (10 : Int)).bind fun b66 =>
     (app 1 a39 [b66]).bind fun _ =>
    J63 (a39 ++ [b66]))
    ((idx p0 a41).bind fun x68 =>
     (letJ (fun v72 : Bool => cond v72
       ((idx p0 a41).bind fun x75 =>
        (u8 (x75.toNat : Int)).bind fun b76 =>
        (app 1 a39 [b76]).bind fun _ =>
       J63 (a39 ++ [b76]))
       (J63 a39)) fun J71 => cond (((x68.toNat : Int) != (10 : Int)) || (a41 == (0 : Int))) (J71 true) ((idx p0 (IntKind.wrap .i64 (a41 - (1 : Int)))).bind fun x73 =>
      J71 ((x73.toNat : Int) != (13 : Int))))))
   (some a39)
def Fa_Lines (p0 : LB) : Option (LB) :=
  letJ (fun a36 : LB =>
   some a36) fun J38 =>
   (iter (Fa_Lines_l0 p0) FUEL (([] : LB), (0 : Int))).bind fun o =>
  J38 o
def Fc_Text (p0 : LB) : Option (LB) :=
  letJ (fun a15 : LB =>
    (Fa_Lines a15).bind fun x31 =>
   some x31) fun J16 =>
   (letJ (fun v19 : Bool => (letJ (fun v23 : Bool => (letJ (fun v27 : Bool => cond v27
         ((slc p0 (3 : Int) (p0.length : Int)).bind fun x30 =>
         J16 x30)
         (J16 p0)) fun J26 => cond v23 ((idx p0 (2 : Int)).bind fun x28 =>
        J26 ((x28.toNat : Int) == (191 : Int))) (J26 false))) fun J22 => cond v19 ((idx p0 (1 : Int)).bind fun x24 =>
      J22 ((x24.toNat : Int) == (187 : Int))) (J22 false))) fun J18 => cond (decide ((3 : Int) ≤ (p0.length : Int))) ((idx p0 (0 : Int)).bind fun x20 =>
    J18 ((x20.toNat : Int) == (239 : Int))) (J18 false))
def Fa_Read_l0 (p0 : LB) (p1 : Int) (a9 : Int) (rec33 : Int × Int → Option (Int ⊕ (Int × Int))) : Int × Int → Option (Int ⊕ (Int × Int))
  | (a29, a30) =>
  cond (decide (a30 < a9))
   ((idx p0 (IntKind.wrap .i64 (p1 + a30))).bind fun x36 =>
   cond ((decide ((IntKind.wrap .i64 (x36.toNat : Int)) < (128 : Int))) || (decide ((191 : Int) < (IntKind.wrap .i64 (x36.toNat : Int)))))
    (some (.inr ((0 : Int), (0 : Int))))
    (rec33 ((IntKind.wrap .i64 ((IntKind.wrap .i64 ((IntKind.wrap .i64 ((64 : Int) * a29)) + (IntKind.wrap .i64 (x36.toNat : Int)))) - (128 : Int))), (IntKind.wrap .i64 (a30 + (1 : Int))))))
   (some (.inl a29))
def Fa_Read (p0 : LB) (p1 : Int) : Option (Int × Int) :=
   (idx p0 p1).bind fun x1 =>
  letJ (fun v : Int × Int × Int => match v with
   | (a9, a10, a11) =>
   cond (decide ((p0.length : Int) < (IntKind.wrap .i64 (p1 + a9))))
    (some ((0 : Int), (0 : Int)))
    (letJ (fun a27 : Int =>
     cond (((decide (a27 < a11)) || (decide ((1114111 : Int) < a27))) || ((decide ((55296 : Int) ≤ a27)) && (decide (a27 ≤ (57343 : Int)))))
      (some ((0 : Int), (0 : Int)))
      (some (a27, a9))) fun J28 =>
     (iter (Fa_Read_l0 p0 p1 a9) FUEL (a10, (1 : Int))).bind fun o =>
    match o with
    | .inl o1 => J28 o1
    | .inr o1 => some o1)) fun J12 =>
  cond (decide ((IntKind.wrap .i64 (x1.toNat : Int)) < (128 : Int)))
   (some ((IntKind.wrap .i64 (x1.toNat : Int)), (1 : Int)))
   (cond ((decide ((192 : Int) ≤ (IntKind.wrap .i64 (x1.toNat : Int)))) && (decide ((IntKind.wrap .i64 (x1.toNat : Int)) < (224 : Int))))
    (J12 ((2 : Int), (IntKind.wrap .i64 ((IntKind.wrap .i64 (x1.toNat : Int)) - (192 : Int))), (128 : Int)))
    (cond ((decide ((224 : Int) ≤ (IntKind.wrap .i64 (x1.toNat : Int)))) && (decide ((IntKind.wrap .i64 (x1.toNat : Int)) < (240 : Int))))
     (J12 ((3 : Int), (IntKind.wrap .i64 ((IntKind.wrap .i64 (x1.toNat : Int)) - (224 : Int))), (2048 : Int)))
     (cond ((decide ((240 : Int) ≤ (IntKind.wrap .i64 (x1.toNat : Int)))) && (decide ((IntKind.wrap .i64 (x1.toNat : Int)) < (248 : Int))))
      (J12 ((4 : Int), (IntKind.wrap .i64 ((IntKind.wrap .i64 (x1.toNat : Int)) - (240 : Int))), (65536 : Int)))
      (some ((0 : Int), (0 : Int))))))
def Fa_Char (p0 : Int) : Option (Bool) :=
  some ((((((p0 == (9 : Int)) || (p0 == (10 : Int))) || (p0 == (13 : Int))) || ((decide ((32 : Int) ≤ p0)) && (decide (p0 ≤ (55295 : Int))))) || ((decide ((57344 : Int) ≤ p0)) && (decide (p0 ≤ (65533 : Int))))) || ((decide ((65536 : Int) ≤ p0)) && (decide (p0 ≤ (1114111 : Int)))))
def Fa_Fault_l0 (p0 : LB) (rec11 : Int → Option (Unit ⊕ (Int × Int))) (a8 : Int) : Option (Unit ⊕ (Int × Int)) :=
  cond (decide (a8 < (p0.length : Int)))
   ((Fa_Read p0 a8).bind fun x14 =>
   cond (x14.2 == (0 : Int))
    (some (.inr (a8, (20 : Int))))
    ((Fa_Char x14.1).bind fun x16 =>
    cond (!x16)
     (some (.inr (a8, (21 : Int))))
     (rec11 (IntKind.wrap .i64 (a8 + x14.2)))))
   (some (.inl ()))
def Fa_Fault (p0 : LB) : Option (Int × Int) :=
  letJ (fun _ : Unit =>
   some ((0 : Int), (0 : Int))) fun J7 =>
   (iter (Fa_Fault_l0 p0) FUEL (0 : Int)).bind fun o =>
  match o with
  | .inl o1 => J7 o1
  | .inr o1 => some o1
def Fc_Stands (p0 : LB) (p1 : Int) (p2 : LB) : Option (Bool) :=
   (letJ (fun v3 : Bool => some v3) fun J2 => cond (decide ((IntKind.wrap .i64 (p1 + (p2.length : Int))) ≤ (p0.length : Int))) ((slc p0 p1 (IntKind.wrap .i64 (p1 + (p2.length : Int)))).bind fun x4 =>
    J2 (x4 == p2)) (J2 false))
def Fc_White_l0 (p0 : LB) (rec24 : Int → Option (Int)) (a21 : Int) : Option (Int) :=
   (letJ (fun v28 : Bool => cond v28
     (rec24 (IntKind.wrap .i64 (a21 + (1 : Int))))
     (some a21)) fun J27 => cond (decide (a21 < (p0.length : Int))) ((idx p0 a21).bind fun x29 =>
     (letJ (fun v32 : Bool => (letJ (fun v36 : Bool => (letJ (fun v40 : Bool => J27 v40) fun J39 => cond v36 (J39 true) ((idx p0 a21).bind fun x41 =>
          J39 ((x41.toNat : Int) == (13 : Int))))) fun J35 => cond v32 (J35 true) ((idx p0 a21).bind fun x37 =>
        J35 ((x37.toNat : Int) == (10 : Int))))) fun J31 => cond ((x29.toNat : Int) == (32 : Int)) (J31 true) ((idx p0 a21).bind fun x33 =>
      J31 ((x33.toNat : Int) == (9 : Int))))) (J27 false))
def Fc_White (p0 : LB) (p1 : Int) : Option (Int) :=
  letJ (fun a19 : Int =>
   some a19) fun J20 =>
   (iter (Fc_White_l0 p0) FUEL p1).bind fun o =>
  J20 o
def Fc_Find_l0 (p0 : LB) (p2 : LB) (rec9 : Int → Option (Unit ⊕ Int)) (a6 : Int) : Option (Unit ⊕ Int) :=
  cond (decide ((IntKind.wrap .i64 (a6 + (p2.length : Int))) ≤ (p0.length : Int)))
   ((slc p0 a6 (IntKind.wrap .i64 (a6 + (p2.length : Int)))).bind fun x12 =>
   cond (x12 == p2)
    (some (.inr a6))
    (rec9 (IntKind.wrap .i64 (a6 + (1 : Int)))))
   (some (.inl ()))
def Fc_Find (p0 : LB) (p1 : Int) (p2 : LB) : Option (Int) :=
  letJ (fun _ : Unit =>
   some (-1 : Int)) fun J5 =>
   (iter (Fc_Find_l0 p0 p2) FUEL p1).bind fun o =>
  match o with
  | .inl o1 => J5 o1
  | .inr o1 => some o1
def Fc_value (p0 : LB) (p1 : Int) : Option (LB × Int) :=
   (Fc_White p0 p1).bind fun x1 =>
   (Fc_Stands p0 x1 ([61] : LB)).bind fun x2 =>
  cond (!x2)
   (some (([] : LB), (-1 : Int)))
   ((Fc_White p0 (IntKind.wrap .i64 (x1 + (1 : Int)))).bind fun x4 =>
    (Fc_Stands p0 x4 ([39] : LB)).bind fun x5 =>
    (letJ (fun v8 : Bool => cond v8
      (some (([] : LB), (-1 : Int)))
      ((slc p0 x4 (IntKind.wrap .i64 (x4 + (1 : Int)))).bind fun x11 =>
       (Fc_Find p0 (IntKind.wrap .i64 (x4 + (1 : Int))) x11).bind fun x12 =>
      cond (decide (x12 < (0 : Int)))
       (some (([] : LB), (-1 : Int)))
       ((slc p0 (IntKind.wrap .i64 (x4 + (1 : Int))) x12).bind fun x14 =>
       some (x14, (IntKind.wrap .i64 (x12 + (1 : Int))))))) fun J7 => cond (!x5) ((Fc_Stands p0 x4 ([34] : LB)).bind fun x9 =>
     J7 (!x9)) (J7 false)))
def Fc_letter (p0 : Int) : Option (Bool) :=
  some (((decide ((97 : Int) ≤ p0)) && (decide (p0 ≤ (122 : Int)))) || ((decide ((65 : Int) ≤ p0)) && (decide (p0 ≤ (90 : Int)))))
def Fc_digit (p0 : Int) : Option (Bool) :=
  some ((decide ((48 : Int) ≤ p0)) && (decide (p0 ≤ (57 : Int))))
def Fc_allowed_l0 (p1 : LB) (rec88 : Int → Option (Unit ⊕ Bool)) (a85 : Int) : Option (Unit ⊕ Bool) :=
  cond (decide (a85 < (p1.length : Int)))
   ((idx p1 a85).bind fun x91 =>
    (Fc_letter (x91.toNat : Int)).bind fun x92 =>
    (letJ (fun v95 : Bool => (letJ (fun v100 : Bool => (letJ (fun v104 : Bool => (letJ (fun v108 : Bool => cond v108
            (some (.inr false))
            (rec88 (IntKind.wrap .i64 (a85 + (1 : Int))))) fun J107 => cond v104 ((idx p1 a85).bind fun x109 =>
           J107 ((x109.toNat : Int) != (45 : Int))) (J107 false))) fun J103 => cond v100 ((idx p1 a85).bind fun x105 =>
         J103 ((x105.toNat : Int) != (95 : Int))) (J103 false))) fun J99 => cond v95 ((idx p1 a85).bind fun x101 =>
       J99 ((x101.toNat : Int) != (46 : Int))) (J99 false))) fun J94 => cond (!x92) ((idx p1 a85).bind fun x96 =>
      (Fc_digit (x96.toNat : Int)).bind fun x97 =>
     J94 (!x97)) (J94 false)))
   (some (.inl ()))
def Fc_allowed_l1 (p1 : LB) (rec125 : Int → Option (Unit ⊕ Bool)) (a122 : Int) : Option (Unit ⊕ Bool) :=
  cond (decide (a122 < (p1.length : Int)))
   ((idx p1 a122).bind fun x128 =>
    (Fc_digit (x128.toNat : Int)).bind fun x129 =>
   cond (!x129)
    (some (.inr false))
    (rec125 (IntKind.wrap .i64 (a122 + (1 : Int)))))
   (some (.inl ()))
def Fc_allowed (p0 : Int) (p1 : LB) : Option (Bool) :=
  cond (p0 == (2 : Int))
   (some ((p1 == ([121, 101, 115] : LB)) || (p1 == ([110, 111] : LB))))
   (letJ (fun _ : Unit =>
     (letJ (fun v113 : Bool => cond v113
       (some false)
       (letJ (fun _ : Unit =>
        some true) fun J121 =>
        (iter (Fc_allowed_l1 p1) FUEL (2 : Int)).bind fun o =>
       match o with
       | .inl o1 => J121 o1
       | .inr o1 => some o1)) fun J112 => cond (decide ((p1.length : Int) < (3 : Int))) (J112 true) ((slc p1 (0 : Int) (2 : Int)).bind fun x114 =>
      J112 (!(x114 == ([49, 46] : LB)))))) fun J54 =>
   cond (p0 == (1 : Int))
    ((letJ (fun v58 : Bool => cond v58
       (some false)
       (letJ (fun _ : Unit =>
        some true) fun J84 =>
        (iter (Fc_allowed_l0 p1) FUEL (0 : Int)).bind fun o =>
       match o with
       | .inl o1 => J84 o1
       | .inr o1 => some o1)) fun J57 => cond (p1 == ([] : LB)) (J57 true) ((idx p1 (0 : Int)).bind fun x59 =>
       (Fc_letter (x59.toNat : Int)).bind fun x60 =>
      J57 (!x60))))
    (J54 ()))
def Fc_small_l0 (rec36 : LB × Int → Option ((LB))) : LB × Int → Option ((LB))
  | (a32, a33) =>
  cond (decide (a33 < (a32.length : Int)))
   (letJ (fun a50 : LB =>
    rec36 (a50, (IntKind.wrap .i64 (a33 + (1 : Int))))) fun J51 =>
    (idx a32 a33).bind fun x52 =>
    (letJ (fun v55 : Bool => cond v55
      ((idx a32 a33).bind fun x58 =>
       (idx a32 a33).bind fun x59 =>
       (u8 (IntKind.wrap .u8 ((x58.toNat : Int) + (32 : Int)))).bind fun b60 =>
       (some (List.set a32 (Int.toNat a33) b60)).bind fun a61 =>
      J51 a61)
      (J51 a32)) fun J54 => cond (decide ((65 : Int) ≤ (x52.toNat : Int))) ((idx a32 a33).bind fun x56 =>
     J54 (decide ((x56.toNat : Int) ≤ (90 : Int)))) (J54 false)))
   (some a32)
def Fc_small (p0 : LB) : Option (LB) :=
  letJ (fun a29 : LB =>
   some a29) fun J30 =>
   (iter (Fc_small_l0) FUEL (p0, (0 : Int))).bind fun o =>
  J30 o
def Fc_declaration_l0 (p0 : LB) (rec103 : Int × Int × LB × (List TP) × LB × Int × Int × Int × LB × (List TP) × LB × Int × Int × Bool × Int → Option ((Int × Int × LB × (List TP) × LB × Int × Int × Int × LB × (List TP) × LB × Int × Int × Bool) ⊕ (TR × Int × Int))) : Int × Int × LB × (List TP) × LB × Int × Int × Int × LB × (List TP) × LB × Int × Int × Bool × Int → Option ((Int × Int × LB × (List TP) × LB × Int × Int × Int × LB × (List TP) × LB × Int × Int × Bool) ⊕ (TR × Int × Int))
  | (a85, a86, a87, a88, a89, a90, a91, a92, a93, a94, a96, a97, a98, a99, a100) =>
  cond (decide (a100 < (3 : Int)))
   (letJ (fun v : (List TP) × Int × Bool => match v with
    | (a128, a130, a131) =>
    rec103 (a85, a86, a87, a88, a89, a90, a91, a92, a93, a128, a96, a97, a130, a131, (IntKind.wrap .i64 (a100 + (1 : Int))))) fun J132 =>
    (idxN 3 ([([118, 101, 114, 115, 105, 111, 110] : LB), ([101, 110, 99, 111, 100, 105, 110, 103] : LB), ([115, 116, 97, 110, 100, 97, 108, 111, 110, 101] : LB)] : List LB) a100).bind fun x133 =>
    (Fc_White p0 a98).bind fun x134 =>
    (letJ (fun v137 : Bool => cond v137
      ((Fc_value p0 (IntKind.wrap .i64 (x134 + (x133.length : Int)))).bind fun x140 =>
       (letJ (fun v143 : Bool => cond v143
         (some (.inr ((⟨(0 : Int), (0 : Int), ([] : LB), ([] : List TP), ([] : LB), (0 : Int)⟩ : TR), (0 : Int), (23 : Int))))
         ((app 32 a94 [(⟨x133, x140.1⟩ : TP)]).bind fun _ =>
          (letJ (fun v149 : Bool => J132 ((a94 ++ [(⟨x133, x140.1⟩ : TP)]), x140.2, v149)) fun J148 => cond a99 (J148 true) ((letJ (fun v152 : Bool => J148 v152) fun J151 => cond (a100 == (1 : Int)) ((Fc_small x140.1).bind fun x153 =>
             J151 (!(x153 == ([117, 116, 102, 45, 56] : LB)))) (J151 false)))))) fun J142 => cond (decide (x140.2 < (0 : Int))) (J142 true) ((Fc_allowed a100 x140.1).bind fun x144 =>
        J142 (!x144))))
      (cond (a100 == (0 : Int))
       (some (.inr ((⟨(0 : Int), (0 : Int), ([] : LB), ([] : List TP), ([] : LB), (0 : Int)⟩ : TR), (0 : Int), (23 : Int))))
       (J132 (a94, a98, a99)))) fun J136 => cond (decide (a98 < x134)) ((Fc_Stands p0 x134 x133).bind fun x138 =>
     J136 x138) (J136 false)))
   (some (.inl (a85, a86, a87, a88, a89, a90, a91, a92, a93, a94, a96, a97, a98, a99)))
def Fc_declaration (p0 : LB) : Option (TR × Int × Int) :=
  letJ (fun v : Int × Int × LB × (List TP) × LB × Int × Int × Int × LB × (List TP) × LB × Int × Int × Bool => match v with
   | (a69, a70, a71, a72, a73, a74, a75, a76, a77, a78, a80, a81, a82, a83) =>
    (Fc_White p0 a82).bind fun x155 =>
    (Fc_Stands p0 x155 ([63, 62] : LB)).bind fun x156 =>
   cond (!x156)
    (some ((⟨(0 : Int), (0 : Int), ([] : LB), ([] : List TP), ([] : LB), (0 : Int)⟩ : TR), (0 : Int), (23 : Int)))
    (cond a83
     (some ((⟨(0 : Int), (0 : Int), ([] : LB), ([] : List TP), ([] : LB), (0 : Int)⟩ : TR), (0 : Int), (25 : Int)))
     (some ((⟨a75, a76, a77, a78, a80, a81⟩ : TR), (IntKind.wrap .i64 (x155 + (2 : Int))), (0 : Int))))) fun J84 =>
   (iter (Fc_declaration_l0 p0) FUEL ((0 : Int), (0 : Int), ([] : LB), ([] : List TP), ([] : LB), (0 : Int), (1 : Int), (0 : Int), ([] : LB), ([] : List TP), ([] : LB), (0 : Int), (5 : Int), false, (0 : Int))).bind fun o =>
  match o with
  | .inl o1 => J84 o1
  | .inr o1 => some o1
def Fa_Start (p0 : Int) : Option (Bool) :=
  letJ (fun a5 : Bool =>
   cond a5
    (some true)
    (cond ((decide ((192 : Int) ≤ p0)) && (decide (p0 ≤ (767 : Int))))
     (some ((p0 != (215 : Int)) && (p0 != (247 : Int))))
     (cond ((decide ((880 : Int) ≤ p0)) && (decide (p0 ≤ (8191 : Int))))
      (some (p0 != (894 : Int)))
      (letJ (fun a18 : Bool =>
       cond a18
        (some true)
        (letJ (fun a27 : Bool =>
         cond a27
          (some true)
          (cond ((decide ((63744 : Int) ≤ p0)) && (decide (p0 ≤ (65533 : Int))))
           (some ((decide (p0 < (64976 : Int))) || (decide ((65008 : Int) ≤ p0))))
           (some ((decide ((65536 : Int) ≤ p0)) && (decide (p0 ≤ (983039 : Int))))))) fun J28 =>
        cond ((decide ((8304 : Int) ≤ p0)) && (decide (p0 ≤ (8591 : Int))))
         (J28 ((decide ((8304 : Int) ≤ p0)) && (decide (p0 ≤ (8591 : Int)))))
         (cond ((decide ((11264 : Int) ≤ p0)) && (decide (p0 ≤ (12271 : Int))))
          (J28 ((decide ((11264 : Int) ≤ p0)) && (decide (p0 ≤ (12271 : Int)))))
          (J28 ((decide ((12289 : Int) ≤ p0)) && (decide (p0 ≤ (55295 : Int)))))))) fun J19 =>
      cond (p0 == (8204 : Int))
       (J19 (p0 == (8204 : Int)))
       (J19 (p0 == (8205 : Int))))))) fun J6 =>
  cond ((decide ((65 : Int) ≤ p0)) && (decide (p0 ≤ (90 : Int))))
   (J6 ((decide ((65 : Int) ≤ p0)) && (decide (p0 ≤ (90 : Int)))))
   (cond (p0 == (95 : Int))
    (J6 (p0 == (95 : Int)))
    (J6 ((decide ((97 : Int) ≤ p0)) && (decide (p0 ≤ (122 : Int))))))
def Fa_Part (p0 : Int) : Option (Bool) :=
   (Fa_Start p0).bind fun x1 =>
  some (((((((x1 || (p0 == (45 : Int))) || (p0 == (46 : Int))) || ((decide ((48 : Int) ≤ p0)) && (decide (p0 ≤ (57 : Int))))) || (p0 == (183 : Int))) || ((decide ((768 : Int) ≤ p0)) && (decide (p0 ≤ (879 : Int))))) || (p0 == (8255 : Int))) || (p0 == (8256 : Int)))
def Fa_Name_l0 (p0 : LB) (rec22 : Int → Option (Unit ⊕ Bool)) (a19 : Int) : Option (Unit ⊕ Bool) :=
  cond (decide (a19 < (p0.length : Int)))
   ((Fa_Read p0 a19).bind fun x25 =>
    (letJ (fun v28 : Bool => (letJ (fun v32 : Bool => cond v32
        (some (.inr false))
        (rec22 (IntKind.wrap .i64 (a19 + x25.2)))) fun J31 => cond v28 (J31 true) ((letJ (fun v35 : Bool => J31 v35) fun J34 => cond (a19 == (0 : Int)) ((Fa_Start x25.1).bind fun x36 =>
         J34 (!x36)) (J34 false))))) fun J27 => cond (x25.2 == (0 : Int)) (J27 true) ((Fa_Part x25.1).bind fun x29 =>
     J27 (!x29))))
   (some (.inl ()))
def Fa_Name (p0 : LB) : Option (Bool) :=
  cond (((p0.length : Int) == (0 : Int)) || (decide ((100 : Int) < (p0.length : Int))))
   (some false)
   (letJ (fun _ : Unit =>
    some true) fun J18 =>
    (iter (Fa_Name_l0 p0) FUEL (0 : Int)).bind fun o =>
   match o with
   | .inl o1 => J18 o1
   | .inr o1 => some o1)
def Fa_Split_l0 (p0 : LB) (rec23 : Int → Option (Unit ⊕ (LB × LB × Bool))) (a20 : Int) : Option (Unit ⊕ (LB × LB × Bool)) :=
  cond (decide (a20 < (p0.length : Int)))
   ((idx p0 a20).bind fun x26 =>
    (letJ (fun v29 : Bool => (letJ (fun v34 : Bool => cond v34
        ((slc p0 (0 : Int) a20).bind fun x38 =>
         (slc p0 (IntKind.wrap .i64 (a20 + (1 : Int))) (p0.length : Int)).bind fun x39 =>
        some (.inr (x38, x39, true)))
        (rec23 (IntKind.wrap .i64 (a20 + (1 : Int))))) fun J33 => cond v29 ((slc p0 (IntKind.wrap .i64 (a20 + (1 : Int))) (p0.length : Int)).bind fun x35 =>
        (Fa_Name x35).bind fun x36 =>
       J33 x36) (J33 false))) fun J28 => cond ((x26.toNat : Int) == (58 : Int)) ((slc p0 (0 : Int) a20).bind fun x30 =>
      (Fa_Name x30).bind fun x31 =>
     J28 x31) (J28 false)))
   (some (.inl ()))
def Fa_Split (p0 : LB) : Option (LB × LB × Bool) :=
   (Fa_Name p0).bind fun x1 =>
  cond x1
   (some (([] : LB), p0, true))
   (letJ (fun _ : Unit =>
    some (([] : LB), ([] : LB), false)) fun J19 =>
    (iter (Fa_Split_l0 p0) FUEL (0 : Int)).bind fun o =>
   match o with
   | .inl o1 => J19 o1
   | .inr o1 => some o1)
def Fc_written_l0 (p0 : LB) (p1 : Int) (rec24 : Int → Option (Int ⊕ (LB × Int × Int))) (a21 : Int) : Option (Int ⊕ (LB × Int × Int)) :=
  cond (decide (a21 < (p0.length : Int)))
   ((slc p0 a21 (if (IntKind.wrap .i64 (a21 + (4 : Int))) < (p0.length : Int) then (IntKind.wrap .i64 (a21 + (4 : Int))) else (p0.length : Int))).bind fun x27 =>
    (Fa_Read x27 (0 : Int)).bind fun x28 =>
    (letJ (fun v31 : Bool => cond v31
      (some (.inl a21))
      ((letJ (fun v40 : Bool => cond v40
         (some (.inr (([] : LB), (0 : Int), (23 : Int))))
         (rec24 (IntKind.wrap .i64 (a21 + x28.2)))) fun J39 => cond ((a21 == p1) && (x28.1 != (58 : Int))) ((Fa_Start x28.1).bind fun x41 =>
        J39 (!x41)) (J39 false)))) fun J30 => cond (x28.2 == (0 : Int)) (J30 true) ((letJ (fun v34 : Bool => J30 v34) fun J33 => cond (x28.1 != (58 : Int)) ((Fa_Part x28.1).bind fun x35 =>
       J33 (!x35)) (J33 false)))))
   (some (.inl a21))
def Fc_written (p0 : LB) (p1 : Int) : Option (LB × Int × Int) :=
  letJ (fun a19 : Int =>
   cond (a19 == p1)
    (some (([] : LB), (0 : Int), (23 : Int)))
    ((slc p0 p1 a19).bind fun x44 =>
     (Fa_Split x44).bind fun x45 =>
    cond (!x45.2.2)
     (some (([] : LB), (0 : Int), (24 : Int)))
     ((slc p0 p1 a19).bind fun x47 =>
     some (x47, a19, (0 : Int))))) fun J20 =>
   (iter (Fc_written_l0 p0 p1) FUEL p1).bind fun o =>
  match o with
  | .inl o1 => J20 o1
  | .inr o1 => some o1
def Fc_instruction (p0 : LB) (p1 : Int) : Option (TR × Int × Int) :=
   (Fc_written p0 p1).bind fun x2 =>
  cond (x2.2.2 != (0 : Int))
   (some ((⟨(0 : Int), (0 : Int), ([] : LB), ([] : List TP), ([] : LB), (0 : Int)⟩ : TR), (0 : Int), x2.2.2))
   ((Fa_Name x2.1).bind fun x4 =>
   cond (!x4)
    (some ((⟨(0 : Int), (0 : Int), ([] : LB), ([] : List TP), ([] : LB), (0 : Int)⟩ : TR), (0 : Int), (24 : Int)))
    ((Fc_small x2.1).bind fun x6 =>
    cond (x6 == ([120, 109, 108] : LB))
     (some ((⟨(0 : Int), (0 : Int), ([] : LB), ([] : List TP), ([] : LB), (0 : Int)⟩ : TR), (0 : Int), (29 : Int)))
     ((Fc_Stands p0 x2.2.1 ([63, 62] : LB)).bind fun x8 =>
     cond x8
      (some ((⟨(8 : Int), (0 : Int), x2.1, ([] : List TP), ([] : LB), (0 : Int)⟩ : TR), (IntKind.wrap .i64 (x2.2.1 + (2 : Int))), (0 : Int)))
      ((Fc_White p0 x2.2.1).bind fun x10 =>
       (Fc_Find p0 x10 ([63, 62] : LB)).bind fun x11 =>
      cond ((x10 == x2.2.1) || (decide (x11 < (0 : Int))))
       (some ((⟨(0 : Int), (0 : Int), ([] : LB), ([] : List TP), ([] : LB), (0 : Int)⟩ : TR), (0 : Int), (23 : Int)))
       ((slc p0 x10 x11).bind fun x14 =>
       some ((⟨(8 : Int), (0 : Int), x2.1, ([] : List TP), x14, (0 : Int)⟩ : TR), (IntKind.wrap .i64 (x11 + (2 : Int))), (0 : Int)))))))
def Fb_word_l0 (p0 : LB) (p1 : Int) (rec14 : Int → Option (Unit ⊕ (Int × Int))) (a11 : Int) : Option (Unit ⊕ (Int × Int)) :=
  cond (decide (a11 < (5 : Int)))
   ((idxN 5 ([([108, 116, 59] : LB), ([103, 116, 59] : LB), ([97, 109, 112, 59] : LB), ([97, 112, 111, 115, 59] : LB), ([113, 117, 111, 116, 59] : LB)] : List LB) a11).bind fun x17 =>
    (letJ (fun v20 : Bool => cond v20
      ((idxN 5 ([(60 : Int), (62 : Int), (38 : Int), (39 : Int), (34 : Int)] : List Int) a11).bind fun x23 =>
      some (.inr (x23, (IntKind.wrap .i64 (p1 + (x17.length : Int))))))
      (rec14 (IntKind.wrap .i64 (a11 + (1 : Int))))) fun J19 => cond (decide ((IntKind.wrap .i64 (p1 + (x17.length : Int))) ≤ (p0.length : Int))) ((slc p0 p1 (IntKind.wrap .i64 (p1 + (x17.length : Int)))).bind fun x21 =>
     J19 (x21 == x17)) (J19 false)))
   (some (.inl ()))
def Fb_word (p0 : LB) (p1 : Int) : Option (Int × Int) :=
  letJ (fun _ : Unit =>
   some ((0 : Int), (0 : Int))) fun J10 =>
   (iter (Fb_word_l0 p0 p1) FUEL (0 : Int)).bind fun o =>
  match o with
  | .inl o1 => J10 o1
  | .inr o1 => some o1
def Fb_hex (p0 : Int) : Option (Int) :=
  cond ((decide ((48 : Int) ≤ p0)) && (decide (p0 ≤ (57 : Int))))
   (some (IntKind.wrap .i64 ((IntKind.wrap .i64 p0) - (48 : Int))))
   (cond ((decide ((97 : Int) ≤ p0)) && (decide (p0 ≤ (102 : Int))))
    (some (IntKind.wrap .i64 ((IntKind.wrap .i64 ((IntKind.wrap .i64 p0) - (97 : Int))) + (10 : Int))))
    (cond ((decide ((65 : Int) ≤ p0)) && (decide (p0 ≤ (70 : Int))))
     (some (IntKind.wrap .i64 ((IntKind.wrap .i64 ((IntKind.wrap .i64 p0) - (65 : Int))) + (10 : Int))))
     (some (-1 : Int))))
def Fb_Expand_l0 (p0 : LB) (a14 : Int) (rec51 : Int × Int × Int → Option ((Int × Int × Int))) : Int × Int × Int → Option ((Int × Int × Int))
  | (a46, a47, a48) =>
   (letJ (fun v55 : Bool => (letJ (fun v60 : Bool => cond v60
       (letJ (fun a67 : Int =>
        rec51 ((IntKind.wrap .i64 (a46 + (1 : Int))), a67, (IntKind.wrap .i64 (a48 + (1 : Int))))) fun J68 =>
       cond (decide (a47 < (2097152 : Int)))
        ((idx p0 a46).bind fun x70 =>
         (Fb_hex (x70.toNat : Int)).bind fun x71 =>
        J68 (IntKind.wrap .i64 ((IntKind.wrap .i64 (a14 * a47)) + x71)))
        (J68 a47))
       (some (a46, a47, a48))) fun J59 => cond v55 ((idx p0 a46).bind fun x61 =>
       (Fb_hex (x61.toNat : Int)).bind fun x62 =>
      J59 (decide (x62 < a14))) (J59 false))) fun J54 => cond (decide (a46 < (p0.length : Int))) ((idx p0 a46).bind fun x56 =>
     (Fb_hex (x56.toNat : Int)).bind fun x57 =>
    J54 (decide ((0 : Int) ≤ x57))) (J54 false))
def Fb_Expand (p0 : LB) (p1 : Int) : Option (Int × Int × Int) :=
   (Fb_word p0 (IntKind.wrap .i64 (p1 + (1 : Int)))).bind fun x1 =>
  cond (decide ((0 : Int) < x1.2))
   (some (x1.1, x1.2, (0 : Int)))
   ((letJ (fun v5 : Bool => cond v5
      (some ((0 : Int), (0 : Int), (22 : Int)))
      (letJ (fun v : Int × Int => match v with
       | (a13, a14) =>
       letJ (fun v : Int × Int × Int => match v with
        | (a42, a43, a44) =>
         (letJ (fun v75 : Bool => cond v75
           (some ((0 : Int), (0 : Int), (22 : Int)))
           ((Fa_Char a43).bind fun x78 =>
           cond (!x78)
            (some ((0 : Int), (0 : Int), (21 : Int)))
            (some (a43, (IntKind.wrap .i64 (a42 + (1 : Int))), (0 : Int))))) fun J74 => cond ((a44 == (0 : Int)) || (decide ((p0.length : Int) ≤ a42))) (J74 true) ((idx p0 a42).bind fun x76 =>
          J74 ((x76.toNat : Int) != (59 : Int))))) fun J45 =>
        (iter (Fb_Expand_l0 p0 a14) FUEL (a13, (0 : Int), (0 : Int))).bind fun o =>
       J45 o) fun J15 =>
       (letJ (fun v18 : Bool => cond v18
         (J15 ((IntKind.wrap .i64 ((IntKind.wrap .i64 ((IntKind.wrap .i64 (p1 + (1 : Int))) + (1 : Int))) + (1 : Int))), (16 : Int)))
         (J15 ((IntKind.wrap .i64 ((IntKind.wrap .i64 (p1 + (1 : Int))) + (1 : Int))), (10 : Int)))) fun J17 => cond (decide ((IntKind.wrap .i64 ((IntKind.wrap .i64 (p1 + (1 : Int))) + (1 : Int))) < (p0.length : Int))) ((idx p0 (IntKind.wrap .i64 ((IntKind.wrap .i64 (p1 + (1 : Int))) + (1 : Int)))).bind fun x19 =>
        J17 ((x19.toNat : Int) == (120 : Int))) (J17 false)))) fun J4 => cond (decide ((p0.length : Int) ≤ (IntKind.wrap .i64 (p1 + (1 : Int))))) (J4 true) ((idx p0 (IntKind.wrap .i64 (p1 + (1 : Int)))).bind fun x6 =>
     J4 ((x6.toNat : Int) != (35 : Int)))))
def Fb_Read_l0 (p0 : LB) (p1 : Bool) (rec53 : LB × Int → Option ((LB) ⊕ (LB × Int × Int))) : LB × Int → Option ((LB) ⊕ (LB × Int × Int))
  | (a48, a50) =>
  cond (decide (a50 < (p0.length : Int)))
   ((Fa_Read p0 a50).bind fun x56 =>
   cond (x56.2 == (0 : Int))
    (some (.inr (([] : LB), a50, (20 : Int))))
    ((Fa_Char x56.1).bind fun x58 =>
    cond (!x58)
     (some (.inr (([] : LB), a50, (21 : Int))))
     ((letJ (fun v62 : Bool => cond v62
        (some (.inr (([] : LB), a50, (23 : Int))))
        (letJ (fun v : Int × Int => match v with
         | (a83, a84) =>
          (app 1 a48 (Utf8.encode (IntKind.wrap .i32 a83)).data.toList).bind fun _ =>
         rec53 ((a48 ++ (Utf8.encode (IntKind.wrap .i32 a83)).data.toList), a84)) fun J85 =>
        cond (x56.1 == (38 : Int))
         ((Fb_Expand p0 a50).bind fun x87 =>
         cond (x87.2.2 != (0 : Int))
          (some (.inr (([] : LB), a50, x87.2.2)))
          (J85 (x87.1, x87.2.1)))
         (cond (p1 && (((x56.1 == (9 : Int)) || (x56.1 == (10 : Int))) || (x56.1 == (13 : Int))))
          (J85 ((32 : Int), (IntKind.wrap .i64 (a50 + x56.2))))
          (J85 (x56.1, (IntKind.wrap .i64 (a50 + x56.2))))))) fun J61 => cond (x56.1 == (60 : Int)) (J61 true) ((letJ (fun v67 : Bool => (letJ (fun v71 : Bool => J61 v71) fun J70 => cond v67 ((idx p0 (IntKind.wrap .i64 (a50 + (2 : Int)))).bind fun x72 =>
           J70 ((x72.toNat : Int) == (62 : Int))) (J70 false))) fun J66 => cond (((!p1) && (x56.1 == (93 : Int))) && (decide ((IntKind.wrap .i64 (a50 + (2 : Int))) < (p0.length : Int)))) ((idx p0 (IntKind.wrap .i64 (a50 + (1 : Int)))).bind fun x68 =>
         J66 ((x68.toNat : Int) == (93 : Int))) (J66 false)))))))
   (some (.inl a48))
def Fb_Read (p0 : LB) (p1 : Bool) : Option (LB × Int × Int) :=
  letJ (fun a45 : LB =>
   some (a45, (0 : Int), (0 : Int))) fun J47 =>
   (iter (Fb_Read_l0 p0 p1) FUEL (([] : LB), (0 : Int))).bind fun o =>
  match o with
  | .inl o1 => J47 o1
  | .inr o1 => some o1
def Fc_tag_l1 (a16 : List TP) (x30 : LB × Int × Int) (rec63 : Int × Int × LB × (List TP) × LB × Int × Int → Option ((Int × Int × LB × (List TP) × LB × Int) ⊕ (TR × Int × Int))) : Int × Int × LB × (List TP) × LB × Int × Int → Option ((Int × Int × LB × (List TP) × LB × Int) ⊕ (TR × Int × Int))
  | (a54, a55, a56, a57, a58, a59, a60) =>
  cond (decide (a60 < (a16.length : Int)))
   ((idx a16 a60).bind fun x66 =>
   cond (x66.Name == x30.1)
    (some (.inr ((⟨(0 : Int), (0 : Int), ([] : LB), ([] : List TP), ([] : LB), (0 : Int)⟩ : TR), (0 : Int), (27 : Int))))
    (rec63 (a54, a55, a56, a57, a58, a59, (IntKind.wrap .i64 (a60 + (1 : Int))))))
   (some (.inl (a54, a55, a56, a57, a58, a59)))
def Fc_tag_l0 (p0 : LB) (rec22 : Int × Int × LB × (List TP) × LB × Int × Int × Int × Int × LB × (List TP) × LB × Int → Option ((TR × Int × Int))) : Int × Int × LB × (List TP) × LB × Int × Int × Int × Int × LB × (List TP) × LB × Int → Option ((TR × Int × Int))
  | (a6, a7, a8, a9, a10, a11, a12, a13, a14, a15, a16, a18, a19) =>
   (Fc_White p0 a12).bind fun x24 =>
   (Fc_Stands p0 x24 ([62] : LB)).bind fun x25 =>
  cond x25
   (some ((⟨a13, a14, a15, a16, a18, a19⟩ : TR), (IntKind.wrap .i64 (x24 + (1 : Int))), (0 : Int)))
   ((Fc_Stands p0 x24 ([47, 62] : LB)).bind fun x27 =>
   cond x27
    (some ((⟨(4 : Int), a14, a15, a16, a18, a19⟩ : TR), (IntKind.wrap .i64 (x24 + (2 : Int))), (0 : Int)))
    (cond (x24 == a12)
     (some ((⟨(0 : Int), (0 : Int), ([] : LB), ([] : List TP), ([] : LB), (0 : Int)⟩ : TR), (0 : Int), (23 : Int)))
     ((Fc_written p0 x24).bind fun x30 =>
     cond (x30.2.2 != (0 : Int))
      (some ((⟨(0 : Int), (0 : Int), ([] : LB), ([] : List TP), ([] : LB), (0 : Int)⟩ : TR), (0 : Int), x30.2.2))
      ((Fc_value p0 x30.2.1).bind fun x32 =>
      cond (decide (x32.2 < (0 : Int)))
       (some ((⟨(0 : Int), (0 : Int), ([] : LB), ([] : List TP), ([] : LB), (0 : Int)⟩ : TR), (0 : Int), (23 : Int)))
       ((Fb_Read x32.1 true).bind fun x34 =>
       cond (x34.2.2 != (0 : Int))
        (some ((⟨(0 : Int), (0 : Int), ([] : LB), ([] : List TP), ([] : LB), (0 : Int)⟩ : TR), (0 : Int), x34.2.2))
        (letJ (fun v : Int × Int × LB × (List TP) × LB × Int => match v with
         | (a47, a48, a49, a50, a51, a52) =>
          (app 32 a16 [(⟨x30.1, x34.1⟩ : TP)]).bind fun _ =>
         rec22 (a47, a48, a49, a50, a51, a52, x32.2, a13, a14, a15, (a16 ++ [(⟨x30.1, x34.1⟩ : TP)]), a18, a19)) fun J53 =>
         (iter (Fc_tag_l1 a16 x30) FUEL (a6, a7, a8, a9, a10, a11, (0 : Int))).bind fun o =>
        match o with
        | .inl o1 => J53 o1
        | .inr o1 => some o1))))))
def Fc_tag (p0 : LB) (p1 : Int) : Option (TR × Int × Int) :=
   (Fc_written p0 p1).bind fun x2 =>
  cond (x2.2.2 != (0 : Int))
   (some ((⟨(0 : Int), (0 : Int), ([] : LB), ([] : List TP), ([] : LB), (0 : Int)⟩ : TR), (0 : Int), x2.2.2))
   ((iter (Fc_tag_l0 p0) FUEL ((0 : Int), (0 : Int), ([] : LB), ([] : List TP), ([] : LB), (0 : Int), x2.2.1, (2 : Int), (0 : Int), x2.1, ([] : List TP), ([] : LB), (0 : Int))).bind fun o =>
   some o)
def Fc_One_l0 (p0 : LB) (a45 : Int) (rec65 : Int × Int → Option (Int)) : Int × Int → Option (Int)
  | (a61, a62) =>
  cond (decide (a62 < a45))
   (letJ (fun a70 : Int =>
    rec65 (a70, (IntKind.wrap .i64 (a62 + (1 : Int))))) fun J71 =>
    (idx p0 a62).bind fun x72 =>
   cond ((x72.toNat : Int) == (38 : Int))
    (J71 (IntKind.wrap .i64 (a61 + (1 : Int))))
    (J71 a61))
   (some a61)
def Fc_One (p0 : LB) (p1 : Int) : Option (TR × Int × Int) :=
   (letJ (fun v4 : Bool => (letJ (fun v8 : Bool => cond v8
       ((Fc_declaration p0).bind fun x11 =>
       some (x11.1, x11.2.1, x11.2.2))
       ((Fc_Stands p0 p1 ([60, 33, 45, 45] : LB)).bind fun x12 =>
       cond x12
        ((Fc_Find p0 (IntKind.wrap .i64 (p1 + (4 : Int))) ([45, 45] : LB)).bind fun x14 =>
         (letJ (fun v17 : Bool => cond v17
           (some ((⟨(0 : Int), (0 : Int), ([] : LB), ([] : List TP), ([] : LB), (0 : Int)⟩ : TR), (0 : Int), (23 : Int)))
           ((slc p0 (IntKind.wrap .i64 (p1 + (4 : Int))) x14).bind fun x20 =>
           some ((⟨(7 : Int), (0 : Int), ([] : LB), ([] : List TP), x20, (0 : Int)⟩ : TR), (IntKind.wrap .i64 (x14 + (3 : Int))), (0 : Int)))) fun J16 => cond (decide (x14 < (0 : Int))) (J16 true) ((Fc_Stands p0 x14 ([45, 45, 62] : LB)).bind fun x18 =>
          J16 (!x18))))
        ((Fc_Stands p0 p1 ([60, 33, 91, 67, 68, 65, 84, 65, 91] : LB)).bind fun x21 =>
        cond x21
         ((Fc_Find p0 (IntKind.wrap .i64 (p1 + (9 : Int))) ([93, 93, 62] : LB)).bind fun x23 =>
         cond (decide (x23 < (0 : Int)))
          (some ((⟨(0 : Int), (0 : Int), ([] : LB), ([] : List TP), ([] : LB), (0 : Int)⟩ : TR), (0 : Int), (23 : Int)))
          ((slc p0 (IntKind.wrap .i64 (p1 + (9 : Int))) x23).bind fun x25 =>
          some ((⟨(6 : Int), (0 : Int), ([] : LB), ([] : List TP), x25, (0 : Int)⟩ : TR), (IntKind.wrap .i64 (x23 + (3 : Int))), (0 : Int))))
         ((Fc_Stands p0 p1 ([60, 33, 68, 79, 67, 84, 89, 80, 69] : LB)).bind fun x26 =>
         cond x26
          (some ((⟨(0 : Int), (0 : Int), ([] : LB), ([] : List TP), ([] : LB), (0 : Int)⟩ : TR), (0 : Int), (25 : Int)))
          ((Fc_Stands p0 p1 ([60, 33] : LB)).bind fun x28 =>
          cond x28
           (some ((⟨(0 : Int), (0 : Int), ([] : LB), ([] : List TP), ([] : LB), (0 : Int)⟩ : TR), (0 : Int), (23 : Int)))
           ((Fc_Stands p0 p1 ([60, 63] : LB)).bind fun x30 =>
           cond x30
            ((Fc_instruction p0 (IntKind.wrap .i64 (p1 + (2 : Int)))).bind fun x32 =>
            some (x32.1, x32.2.1, x32.2.2))
            ((Fc_Stands p0 p1 ([60, 47] : LB)).bind fun x33 =>
            cond x33
             ((Fc_written p0 (IntKind.wrap .i64 (p1 + (2 : Int)))).bind fun x35 =>
             cond (x35.2.2 != (0 : Int))
              (some ((⟨(0 : Int), (0 : Int), ([] : LB), ([] : List TP), ([] : LB), (0 : Int)⟩ : TR), (0 : Int), x35.2.2))
              ((Fc_White p0 x35.2.1).bind fun x37 =>
               (Fc_Stands p0 x37 ([62] : LB)).bind fun x38 =>
              cond (!x38)
               (some ((⟨(0 : Int), (0 : Int), ([] : LB), ([] : List TP), ([] : LB), (0 : Int)⟩ : TR), (0 : Int), (23 : Int)))
               (some ((⟨(3 : Int), (0 : Int), x35.1, ([] : List TP), ([] : LB), (0 : Int)⟩ : TR), (IntKind.wrap .i64 (x37 + (1 : Int))), (0 : Int)))))
             ((idx p0 p1).bind fun x40 =>
             cond ((x40.toNat : Int) == (60 : Int))
              ((Fc_tag p0 (IntKind.wrap .i64 (p1 + (1 : Int)))).bind fun x42 =>
              some (x42.1, x42.2.1, x42.2.2))
              ((Fc_Find p0 p1 ([60] : LB)).bind fun x43 =>
              letJ (fun a45 : Int =>
                (slc p0 p1 a45).bind fun x48 =>
                (Fb_Read x48 false).bind fun x49 =>
               cond (x49.2.2 != (0 : Int))
                (some ((⟨(0 : Int), (0 : Int), ([] : LB), ([] : List TP), ([] : LB), (0 : Int)⟩ : TR), (0 : Int), x49.2.2))
                (letJ (fun a59 : Int =>
                 some ((⟨(5 : Int), (0 : Int), ([] : LB), ([] : List TP), x49.1, a59⟩ : TR), a45, (0 : Int))) fun J60 =>
                 (iter (Fc_One_l0 p0 a45) FUEL ((0 : Int), p1)).bind fun o =>
                J60 o)) fun J46 =>
              cond (decide (x43 < (0 : Int)))
               (J46 (p0.length : Int))
               (J46 x43)))))))))) fun J7 => cond v4 ((Fc_White p0 (5 : Int)).bind fun x9 =>
      J7 (decide ((5 : Int) < x9))) (J7 false))) fun J3 => cond (p1 == (0 : Int)) ((Fc_Stands p0 (0 : Int) ([60, 63, 120, 109, 108] : LB)).bind fun x5 =>
    J3 x5) (J3 false))
def Fc_All_l0 (x2 : LB) (rec22 : Int × (List TR) → Option (((List TR)) ⊕ ((List TR) × Int × Int))) : Int × (List TR) → Option (((List TR)) ⊕ ((List TR) × Int × Int))
  | (a17, a18) =>
  cond (decide (a17 < (x2.length : Int)))
   ((Fc_One x2 a17).bind fun x25 =>
   cond (x25.2.2 != (0 : Int))
    (some (.inr (([] : List TR), a17, x25.2.2)))
    ((app 80 a18 [(⟨x25.1.Kind, a17, x25.1.Name, x25.1.Pairs, x25.1.Text, x25.1.Refs⟩ : TR)]).bind fun _ =>
    rec22 (x25.2.1, (a18 ++ [(⟨x25.1.Kind, a17, x25.1.Name, x25.1.Pairs, x25.1.Text, x25.1.Refs⟩ : TR)]))))
   (some (.inl a18))
def Fc_All (p0 : LB) : Option ((List TR) × Int × Int) :=
  cond (decide ((65536 : Int) < (p0.length : Int)))
   (some (([] : List TR), (0 : Int), (6 : Int)))
   ((Fc_Text p0).bind fun x2 =>
    (Fa_Fault x2).bind fun x3 =>
   cond (x3.2 != (0 : Int))
    (some (([] : List TR), x3.1, x3.2))
    (letJ (fun a14 : List TR =>
     some (a14, (0 : Int), (0 : Int))) fun J16 =>
     (iter (Fc_All_l0 x2) FUEL ((0 : Int), ([] : List TR))).bind fun o =>
    match o with
    | .inl o1 => J16 o1
    | .inr o1 => some o1))
def Fa_Same (p0 : LB) (p1 : LB) : Option (Bool) :=
  some (p0 == p1)
def Fa_Kept (p0 : LB × LB) (p1 : LB) : Option (Bool) :=
   (Fa_Same p0.1 p1).bind fun x1 =>
   (letJ (fun v4 : Bool => (letJ (fun v9 : Bool => some v9) fun J8 => cond v4 ((slc (p0.1 ++ p0.2) (0 : Int) (IntKind.wrap .i64 ((p0.1.length : Int) + (1 : Int)))).bind fun x10 =>
       (idx x10 (p0.1.length : Int)).bind fun x11 =>
      J8 ((x11.toNat : Int) == (165 : Int))) (J8 false))) fun J3 => cond x1 ((idx p0.2 (0 : Int)).bind fun x6 =>
    J3 true) (J3 false))
def Fl_doc_l0 (p0 : TK) (rec34 : Int × Int × LB × (List TP) × LB × Int × Int → Option ((Int × Int × LB × (List TP) × LB × Int))) : Int × Int × LB × (List TP) × LB × Int × Int → Option ((Int × Int × LB × (List TP) × LB × Int))
  | (a24, a25, a26, a27, a29, a30, a31) =>
  cond (decide (a31 < (p0.Pairs.length : Int)))
   ((idx p0.Pairs a31).bind fun x37 =>
    (app 32 a27 [x37]).bind fun _ =>
   rec34 (a24, a25, a26, (a27 ++ [x37]), a29, a30, (IntKind.wrap .i64 (a31 + (1 : Int)))))
   (some (a24, a25, a26, a27, a29, a30))
def Fl_doc (p0 : TK) : Option (TR) :=
  letJ (fun v : Int × Int × LB × (List TP) × LB × Int => match v with
   | (a16, a17, a18, a19, a21, a22) =>
   some (⟨a16, a17, a18, a19, a21, a22⟩ : TR)) fun J23 =>
   (iter (Fl_doc_l0 p0) FUEL (p0.Kind, p0.At, p0.Name, ([] : List TP), p0.Text, p0.Refs, (0 : Int))).bind fun o =>
  J23 o
def Fc_Same_l0 (p0 : TR) (p1 : TR) (rec15 : Int → Option (Unit ⊕ Bool)) (a12 : Int) : Option (Unit ⊕ Bool) :=
  cond (decide (a12 < (p0.Pairs.length : Int)))
   ((idx p0.Pairs a12).bind fun x18 =>
    (idx p1.Pairs a12).bind fun x19 =>
   cond (!((x18.Name == x19.Name) && ((x18.Value == x19.Value) && true)))
    (some (.inr false))
    (rec15 (IntKind.wrap .i64 (a12 + (1 : Int)))))
   (some (.inl ()))
def Fc_Same (p0 : TR) (p1 : TR) : Option (Bool) :=
  cond (((((p0.Kind != p1.Kind) || (!(p0.Name == p1.Name))) || (!(p0.Text == p1.Text))) || (p0.Refs != p1.Refs)) || ((p0.Pairs.length : Int) != (p1.Pairs.length : Int)))
   (some false)
   (letJ (fun _ : Unit =>
    some true) fun J11 =>
    (iter (Fc_Same_l0 p0 p1) FUEL (0 : Int)).bind fun o =>
   match o with
   | .inl o1 => J11 o1
   | .inr o1 => some o1)
def Fl_ScanReads_l0 (x4 : (List TK) × Int × Int) (x5 : (List TR) × Int × Int) (rec63 : Int → Option (Unit ⊕ Bool)) (a60 : Int) : Option (Unit ⊕ Bool) :=
  cond (decide (a60 < (x4.1.length : Int)))
   (letJ (fun a74 : Bool =>
    cond a74
     (some (.inr false))
     (rec63 (IntKind.wrap .i64 (a60 + (1 : Int))))) fun J75 =>
    (idx x4.1 a60).bind fun x76 =>
    (idx x5.1 a60).bind fun x77 =>
    (Fl_doc x76).bind fun x78 =>
    (Fc_Same x78 x77).bind fun x79 =>
   cond (!x79)
    (J75 true)
    ((idx x4.1 a60).bind fun x82 =>
     (idx x5.1 a60).bind fun x83 =>
    J75 (x82.At != x83.At)))
   (some (.inl ()))
def Fl_ScanReads (p0 : LB) : Option (Bool) :=
   (Fl_awake ).bind fun x1 =>
  cond (!x1)
   (some false)
   ((Fa_Spare p0).bind fun x3 =>
    (F_scan_All x3.1).bind fun x4 =>
    (Fc_All p0).bind fun x5 =>
   letJ (fun a21 : Bool =>
    cond a21
     (some false)
     (letJ (fun _ : Unit =>
      some true) fun J59 =>
      (iter (Fl_ScanReads_l0 x4 x5) FUEL (0 : Int)).bind fun o =>
     match o with
     | .inl o1 => J59 o1
     | .inr o1 => some o1)) fun J22 =>
   cond (x4.2.2 != x5.2.2)
    (J22 true)
    (cond (x4.2.1 != x5.2.1)
     (J22 true)
     (cond ((x4.1.length : Int) != (x5.1.length : Int))
      (J22 true)
      ((F_scan_Plain x3.1).bind fun x29 =>
       (Fc_Text p0).bind fun x30 =>
      cond (!(x29 == x30))
       (J22 true)
       ((Fa_Kept (x3.1, x3.2) p0).bind fun x33 =>
       J22 (!x33))))))
end Go.Proofs.YtfokkdofcekdbaaGreatDoor
