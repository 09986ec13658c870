/- The MS functions. No condition. -/
import Derived.Test.YtilhbalhkljanaaGreatDoorEng34
import Derived.Test.YtilhbalhkljanaaGreatDoorLg03
set_option linter.unusedVariables false
set_option linter.unusedSimpArgs false
set_option maxRecDepth 20000
set_option maxHeartbeats 8000000
namespace Go.Proofs.YtilhbalhkljanaaGreatDoor
abbrev LB := List UInt8
structure Aj where
  lo : Int
  hi : Int
  deriving DecidableEq, Inhabited
def Bi (x : Aj) : List D := [.int .i32 x.lo, .int .i32 x.hi]
structure TS where
  b : LB
  at_ : Int
  deriving DecidableEq, Inhabited
def cTS (x : TS) : List D := [.sl 1 (List.map AL x.b) 0, .int .i64 x.at_]
structure TP where
  Name : LB
  Value : LB
  deriving DecidableEq, Inhabited
def cP (x : TP) : List D := [.str x.Name, .str x.Value]
structure TK where
  Kind : Int
  At : Int
  Name : LB
  Pairs : List TP
  Text : LB
  Refs : Int
  deriving DecidableEq, Inhabited
def cTK (x : TK) : List D := [.int .i64 x.Kind, .int .i64 x.At, .str x.Name, .sl 2 (List.map cP x.Pairs) 0, .str x.Text, .int .i64 x.Refs]
structure Ai where
  prefix_ : LB
  uri : LB
  deriving DecidableEq, Inhabited
def Af (x : Ai) : List D := [.str x.prefix_, .str x.uri]
structure Ao where
  binds : List Ai
  deriving DecidableEq, Inhabited
def A0 (x : Ao) : List D := [.sl 2 (List.map Af x.binds) 0]
structure Ah where
  URI : LB
  Local : LB
  deriving DecidableEq, Inhabited
def AP (x : Ah) : List D := [.str x.URI, .str x.Local]
structure Aa where
  Name : Ah
  Value : LB
  deriving DecidableEq, Inhabited
def Ac (x : Aa) : List D := [.str x.Name.URI, .str x.Name.Local, .str x.Value]
structure Ad where
  Kind : Int
  Name : Ah
  Attrs : List Aa
  Kids : List Ad
  Text : LB
  deriving Inhabited
mutual
def Ae : Ad → List D
  | ⟨Kind, Name, Attrs, Kids, Text⟩ => [.int .i64 Kind, .str Name.URI, .str Name.Local, .sl 3 (List.map Ac Attrs) 0, .sl 6 (FF Kids) 0, .str Text]
def FF : List Ad → List (List D)
  | [] => []
  | x :: l => Ae x :: FF l
end
theorem Jz : ∀ l : List Ad, FF l = List.map Ae l
  | [] => by simp only [FF, List.map_nil]
  | x :: l => by simp only [FF, List.map_cons, Jz l]
theorem Ab (x : Ad) : Ae x = [.int .i64 x.Kind, .str x.Name.URI, .str x.Name.Local, .sl 3 (List.map Ac x.Attrs) 0, .sl 6 (List.map Ae x.Kids) 0, .str x.Text] := by cases x; simp only [Ae, Jz]
theorem B6 (x : Ad) : (Ae x).length = 6 := by rw [Ab]; rfl
structure Ag where
  node : Ad
  raw : LB
  in_ : Ao
  deriving Inhabited
def Og (x : Ag) : List D := [.int .i64 x.node.Kind, .str x.node.Name.URI, .str x.node.Name.Local, .sl 3 (List.map Ac x.node.Attrs) 0, .sl 6 (List.map Ae x.node.Kids) 0, .str x.node.Text, .str x.raw, .sl 2 (List.map Af x.in_.binds) 0]
structure AA where
  open_ : List Ag
  nodes : Int
  done : Bool
  deriving Inhabited
def Xw (x : AA) : List D := [.sl 8 (List.map Og x.open_) 0, .int .i64 x.nodes, .bool x.done]
def Hk (p0 : LB) (p1 : LB) : Option (Bool) :=
  some (p0 == p1)
def C3 (p0 : LB) (p1 : LB) : Option (Bool) :=
   (Ar (fun v3 : Bool => some v3) fun J2 => cond (decide ((p1.length : Int) ≤ (p0.length : Int))) ((slc p0 (0 : Int) (p1.length : Int)).bind fun x4 =>
     (Hk x4 p1).bind fun x5 =>
    J2 x5) (J2 false))
def Dd (p0 : LB) (p1 : LB) : Option (LB) :=
   (C3 p0 p1).bind fun x1 =>
  cond x1
   ((slc p0 (p1.length : Int) (p0.length : Int)).bind fun x3 =>
   some x3)
   (some p0)
def DA (p0 : LB) (rec55 : LB × Int → Option ((LB))) : LB × Int → Option ((LB))
  | (a51, a52) =>
  cond (decide (a52 < (p0.length : Int)))
   (Ar (fun a78 : LB =>
    rec55 (a78, (IntKind.wrap .i64 (a52 + (1 : Int))))) fun J79 =>
    (idx p0 a52).bind fun x80 =>
   Ar (fun a88 : Int =>
     (u8 a88).bind fun b97 =>
     (app 1 a51 [b97]).bind fun _ =>
     (some (a51 ++ [b97])).bind fun a99 =>
    J79 a99) fun J89 =>
    (Ar (fun v93 : Bool => cond v93
      (J79 a51)
      (cond ((x80.toNat : Int) == (13 : Int))
       (J89 (10 : Int))
       (J89 (x80.toNat : Int)))) fun J92 => cond (((x80.toNat : Int) == (10 : Int)) && (decide ((0 : Int) < a52))) ((idx p0 (IntKind.wrap .i64 (a52 - (1 : Int)))).bind fun x94 =>
     J92 ((x94.toNat : Int) == (13 : Int))) (J92 false)))
   (some a51)
def E1 (p0 : LB) : Option (LB) :=
   (mkG 1 (0 : Int) (p0.length : Int)).bind fun _ =>
   (some (List.replicate (Int.toNat (0 : Int)) (0 : UInt8))).bind fun a2 =>
  Ar (fun a48 : LB =>
   some a48) fun J49 =>
   (iter (DA p0) Ay (a2, (0 : Int))).bind fun o =>
  J49 o
def CA (p0 : LB) : Option (LB) :=
   (u8 (239 : Int)).bind fun b1 =>
   (u8 (187 : Int)).bind fun b2 =>
   (u8 (191 : Int)).bind fun b3 =>
   (Dd p0 ([b1, b2, b3])).bind fun x4 =>
   (E1 x4).bind fun x5 =>
  some x5
def GK (p0 : Int) (p1 : List Aj) (rec10 : Int → Option (Unit ⊕ Bool)) (a7 : Int) : Option (Unit ⊕ Bool) :=
  cond (decide (a7 < (p1.length : Int)))
   ((idx p1 a7).bind fun x13 =>
   cond (decide (p0 ≤ x13.hi))
    (some (.inr (decide (x13.lo ≤ p0))))
    (rec10 (IntKind.wrap .i64 (a7 + (1 : Int)))))
   (some (.inl ()))
def Gt (p0 : Int) (p1 : List Aj) : Option (Bool) :=
  Ar (fun _ : Unit =>
   some false) fun J6 =>
   (iter (GK p0 p1) Ay (0 : Int)).bind fun o =>
  match o with
  | .inl o1 => J6 o1
  | .inr o1 => some o1
def Eh (p0 : Int) : Option (Bool) :=
   (Ar (fun v5 : Bool => some v5) fun J4 => cond (((p0 == (9 : Int)) || (p0 == (10 : Int))) || (p0 == (13 : Int))) (J4 true) ((Gt p0 ([(⟨(32 : Int), (55295 : Int)⟩ : Aj), (⟨(57344 : Int), (65533 : Int)⟩ : Aj), (⟨(65536 : Int), (1114111 : Int)⟩ : Aj)])).bind fun x6 =>
    J4 x6))
def FH (p0 : LB) (p1 : Int) : Option (Int × Int × Int) :=
  cond ((decide (p1 < (0 : Int))) || (decide ((p0.length : Int) ≤ p1)))
   (some ((0 : Int), (0 : Int), (1 : Int)))
   ((slc p0 p1 (p0.length : Int)).bind fun x3 =>
    (DN x3).bind fun x4 =>
   cond ((x4.1 == (65533 : Int)) && (decide (x4.2 < (3 : Int))))
    (some ((0 : Int), (0 : Int), (20 : Int)))
    ((Eh x4.1).bind fun x7 =>
    cond (!x7)
     (some ((0 : Int), (0 : Int), (21 : Int)))
     (some (x4.1, (IntKind.wrap .i64 (p1 + x4.2)), (0 : Int)))))
def C9 (p0 : LB) (rec9 : Int → Option (Unit ⊕ (Int × Int))) (a6 : Int) : Option (Unit ⊕ (Int × Int)) :=
  cond (decide (a6 < (p0.length : Int)))
   ((FH p0 a6).bind fun x12 =>
   cond (x12.2.2 != (0 : Int))
    (some (.inr (a6, x12.2.2)))
    (rec9 x12.2.1))
   (some (.inl ()))
def DL (p0 : LB) : Option (Int × Int) :=
  Ar (fun _ : Unit =>
   some ((0 : Int), (0 : Int))) fun J5 =>
   (iter (C9 p0) Ay (0 : Int)).bind fun o =>
  match o with
  | .inl o1 => J5 o1
  | .inr o1 => some o1
def Ap (p0 : TS) (p1 : LB) : Option (Bool) :=
   (slc p0.b p0.at_ (p0.b.length : Int)).bind fun x1 =>
   (C3 x1 p1).bind fun x2 =>
  some x2
def C8 (p0 : TS) (rec13 : Int → Option (Int)) (a10 : Int) : Option (Int) :=
   (Ar (fun v17 : Bool => cond v17
     (rec13 (IntKind.wrap .i64 (a10 + (1 : Int))))
     (some a10)) fun J16 => cond (decide (a10 < (p0.b.length : Int))) ((idx p0.b a10).bind fun x18 =>
     (FR ([32, 9, 10, 13] : LB) (x18.toNat : Int)).bind fun x19 =>
    J16 (decide ((0 : Int) ≤ x19))) (J16 false))
def Bo (p0 : TS) (p1 : Int) : Option (Int) :=
  Ar (fun a8 : Int =>
   some a8) fun J9 =>
   (iter (C8 p0) Ay p1).bind fun o =>
  J9 o
def Bk (p0 : TS) (p1 : LB) : Option (Int × TS) :=
   (Ap p0 p1).bind fun x1 =>
  cond (!x1)
   (some ((23 : Int), p0))
   (some ((0 : Int), (⟨p0.b, (IntKind.wrap .i64 (p0.at_ + (p1.length : Int)))⟩ : TS)))
def BO (p0 : TS) : Option (Int × TS) :=
   (Bo p0 p0.at_).bind fun x1 =>
   (Bk (⟨p0.b, x1⟩ : TS) ([61] : LB)).bind fun x2 =>
   (Bo x2.2 x2.2.at_).bind fun x3 =>
  some (x2.1, (⟨x2.2.b, x3⟩ : TS))
def Ct (p0 : TS) : Option ((LB × Int) × TS) :=
   (Ap p0 ([39] : LB)).bind fun x1 =>
   (Ar (fun v4 : Bool => cond v4
     (some ((([] : LB), (23 : Int)), p0))
     ((slc p0.b (IntKind.wrap .i64 (p0.at_ + (1 : Int))) (p0.b.length : Int)).bind fun x7 =>
      (idx p0.b p0.at_).bind fun x8 =>
      (Ds x7 (x8.toNat : Int)).bind fun x9 =>
     cond (decide (x9 < (0 : Int)))
      (some ((([] : LB), (23 : Int)), p0))
      ((slc x7 (0 : Int) x9).bind fun x11 =>
      some ((x11, (0 : Int)), (⟨p0.b, (IntKind.wrap .i64 (p0.at_ + (IntKind.wrap .i64 (x9 + (2 : Int)))))⟩ : TS))))) fun J3 => cond (!x1) ((Ap p0 ([34] : LB)).bind fun x5 =>
    J3 (!x5)) (J3 false))
def Dg (p0 : LB) (p1 : LB) : Option (Bool) :=
   (Ar (fun v3 : Bool => some v3) fun J2 => cond (decide ((p1.length : Int) ≤ (p0.length : Int))) ((slc p0 (0 : Int) (p1.length : Int)).bind fun x4 =>
    J2 (x4 == p1)) (J2 false))
def D1 (p0 : LB) (p1 : LB) : Option (LB × Bool) :=
   (Dg p0 p1).bind fun x1 =>
  cond (!x1)
   (some (p0, false))
   ((slc p0 (p1.length : Int) (p0.length : Int)).bind fun x3 =>
   some (x3, true))
def CZ (p0 : LB) (p1 : LB) : Option (LB × Bool) :=
   (D1 p0 p1).bind fun x1 =>
  some (x1.1, x1.2)
def FN (p0 : LB) (p1 : LB) : Option (Bool) :=
  cond (p0 == ([118, 101, 114, 115, 105, 111, 110] : LB))
   ((CZ p1 ([49, 46] : LB)).bind fun x2 =>
    (Ar (fun v6 : Bool => some v6) fun J5 => cond (x2.2 && (!(x2.1 == ([] : LB)))) ((HW x2.1 ([48, 49, 50, 51, 52, 53, 54, 55, 56, 57] : LB)).bind fun x7 =>
     J5 (x7 == ([] : LB))) (J5 false)))
   (cond (p0 == ([101, 110, 99, 111, 100, 105, 110, 103] : LB))
    ((Ar (fun v11 : Bool => (Ar (fun v16 : Bool => some v16) fun J15 => cond v11 ((HW p1 ([65, 66, 67, 68, 69, 70, 71, 72, 73, 74, 75, 76, 77, 78, 79, 80, 81, 82, 83, 84, 85, 86, 87, 88, 89, 90, 97, 98, 99, 100, 101, 102, 103, 104, 105, 106, 107, 108, 109, 110, 111, 112, 113, 114, 115, 116, 117, 118, 119, 120, 121, 122, 48, 49, 50, 51, 52, 53, 54, 55, 56, 57, 46, 95, 45] : LB)).bind fun x17 =>
        J15 (x17 == ([] : LB))) (J15 false))) fun J10 => cond (!(p1 == ([] : LB))) ((idx p1 (0 : Int)).bind fun x12 =>
       (FR ([65, 66, 67, 68, 69, 70, 71, 72, 73, 74, 75, 76, 77, 78, 79, 80, 81, 82, 83, 84, 85, 86, 87, 88, 89, 90, 97, 98, 99, 100, 101, 102, 103, 104, 105, 106, 107, 108, 109, 110, 111, 112, 113, 114, 115, 116, 117, 118, 119, 120, 121, 122] : LB) (x12.toNat : Int)).bind fun x13 =>
      J10 (decide ((0 : Int) ≤ x13))) (J10 false)))
    (some ((p1 == ([121, 101, 115] : LB)) || (p1 == ([110, 111] : LB)))))
def B9 (a94 : Int) (a95 : Int) (rec112 : Int → Option (Int)) (a109 : Int) : Option (Int) :=
  cond ((a109 != a94) && (decide (a109 < a95)))
   ((DO a109).bind fun x116 =>
   rec112 x116)
   (some a109)
def BG (x52 : LB) (rec87 : LB × Nat → Option ((LB) ⊕ Bool)) : LB × Nat → Option ((LB) ⊕ Bool)
  | (a83, a84) =>
  cond (decide (a84 < x52.length))
   (cond ((a83.length : Int) == (0 : Int))
    (some (.inr false))
    ((DR a83).bind fun x90 =>
     (slc a83 x90.2 (a83.length : Int)).bind fun x91 =>
    cond (x90.1 == (rnS x52 a84))
     (rec87 (x91, (a84 + wdS x52 a84)))
     (Ar (fun v : Int × Int => match v with
      | (a94, a95) =>
      cond (decide (a95 < (128 : Int)))
       (cond (((decide ((65 : Int) ≤ a94)) && (decide (a94 ≤ (90 : Int)))) && (a95 == (IntKind.wrap .i32 ((IntKind.wrap .i32 (a94 + (97 : Int))) - (65 : Int)))))
        (rec87 (x91, (a84 + wdS x52 a84)))
        (some (.inr false)))
       ((DO a94).bind fun x102 =>
       Ar (fun a107 : Int =>
        cond (a107 == a95)
         (rec87 (x91, (a84 + wdS x52 a84)))
         (some (.inr false))) fun J108 =>
        (iter (B9 a94 a95) Ay x102).bind fun o =>
       J108 o)) fun J96 =>
     cond (decide (x90.1 < (rnS x52 a84)))
      (J96 (x90.1, (rnS x52 a84)))
      (J96 ((rnS x52 a84), x90.1)))))
   (some (.inl a83))
def Cz (p0 : LB) (p1 : LB) (rec146 : Int → Option (Unit ⊕ Int ⊕ Bool)) (a143 : Int) : Option (Unit ⊕ Int ⊕ Bool) :=
  cond (decide (a143 < (if (p1.length : Int) < (p0.length : Int) then (p1.length : Int) else (p0.length : Int))))
   (Ar (fun _ : Unit =>
    rec146 (IntKind.wrap .i64 (a143 + (1 : Int)))) fun J160 =>
    (idx p0 a143).bind fun x161 =>
    (idx p1 a143).bind fun x162 =>
   cond (decide ((128 : Int) ≤ (ior .u8 (x161.toNat : Int) (x162.toNat : Int))))
    (some (.inr (.inl a143)))
    (cond ((x162.toNat : Int) == (x161.toNat : Int))
     (J160 ())
     (Ar (fun v : Int × Int => match v with
      | (a166, a167) =>
      cond (((decide ((65 : Int) ≤ a166)) && (decide (a166 ≤ (90 : Int)))) && (a167 == (IntKind.wrap .u8 ((IntKind.wrap .u8 (a166 + (97 : Int))) - (65 : Int)))))
       (J160 ())
       (some (.inr (.inr false)))) fun J168 =>
     cond (decide ((x162.toNat : Int) < (x161.toNat : Int)))
      (J168 ((x162.toNat : Int), (x161.toNat : Int)))
      (J168 ((x161.toNat : Int), (x162.toNat : Int))))))
   (some (.inl ()))
def AZ (p0 : LB) (p1 : LB) : Option (Bool) :=
  Ar (fun a49 : Int =>
    (slc p0 a49 (p0.length : Int)).bind fun x52 =>
    (slc p1 a49 (p1.length : Int)).bind fun x53 =>
   Ar (fun a80 : LB =>
    some ((a80.length : Int) == (0 : Int))) fun J81 =>
    (iter (BG x52) Ay (x53, (0 : Nat))).bind fun o =>
   match o with
   | .inl o1 => J81 o1
   | .inr o1 => some o1) fun J50 =>
  Ar (fun _ : Unit =>
   some ((p0.length : Int) == (p1.length : Int))) fun J142 =>
   (iter (Cz p0 p1) Ay (0 : Int)).bind fun o =>
  match o with
  | .inl o1 => J142 o1
  | .inr (.inl o1) => J50 o1
  | .inr (.inr o1) => some o1
def AC (rec82 : LB × Int × Int × Int × LB × (List TP) × LB × Int × LB × Int → Option ((LB × Int × LB × Int × Int × LB × (List TP) × LB × Int) ⊕ (Int × TS × TK))) : LB × Int × Int × Int × LB × (List TP) × LB × Int × LB × Int → Option ((LB × Int × LB × Int × Int × LB × (List TP) × LB × Int) ⊕ (Int × TS × TK))
  | (a69, a70, a71, a72, a73, a75, a76, a77, a78, a79) =>
  cond (decide (a79 < ([([118, 101, 114, 115, 105, 111, 110] : LB), ([101, 110, 99, 111, 100, 105, 110, 103] : LB), ([115, 116, 97, 110, 100, 97, 108, 111, 110, 101] : LB)].length : Int)))
   (Ar (fun v : LB × Int × (List TP) × LB => match v with
    | (a105, a106, a108, a109) =>
    rec82 (a105, a106, a71, a72, a73, a108, a76, a77, a109, (IntKind.wrap .i64 (a79 + (1 : Int))))) fun J110 =>
    (idx [([118, 101, 114, 115, 105, 111, 110] : LB), ([101, 110, 99, 111, 100, 105, 110, 103] : LB), ([115, 116, 97, 110, 100, 97, 108, 111, 110, 101] : LB)] a79).bind fun x111 =>
    (Bo (⟨a69, a70⟩ : TS) a70).bind fun x112 =>
    (Ar (fun v115 : Bool => cond v115
      (cond (x111 == ([118, 101, 114, 115, 105, 111, 110] : LB))
       (some (.inr ((23 : Int), (⟨a69, a70⟩ : TS), (⟨a71, a72, a73, a75, a76, a77⟩ : TK))))
       (J110 (a69, a70, a75, a78)))
      ((BO (⟨a69, (IntKind.wrap .i64 (x112 + (x111.length : Int)))⟩ : TS)).bind fun x120 =>
      cond (x120.1 != (0 : Int))
       (some (.inr ((23 : Int), x120.2, (⟨a71, a72, a73, a75, a76, a77⟩ : TK))))
       ((Ct x120.2).bind fun x122 =>
        (Ar (fun v125 : Bool => cond v125
          (some (.inr ((23 : Int), x122.2, (⟨a71, a72, a73, a75, a76, a77⟩ : TK))))
          ((app 32 a75 [(⟨x111, x122.1.1⟩ : TP)]).bind fun _ =>
           (some (a75 ++ [(⟨x111, x122.1.1⟩ : TP)])).bind fun a129 =>
          cond (x111 == ([101, 110, 99, 111, 100, 105, 110, 103] : LB))
           (J110 (x122.2.b, x122.2.at_, a129, x122.1.1))
           (J110 (x122.2.b, x122.2.at_, a129, a78)))) fun J124 => cond (x122.1.2 != (0 : Int)) (J124 true) ((FN x111 x122.1.1).bind fun x126 =>
         J124 (!x126)))))) fun J114 => cond (x112 == a70) (J114 true) ((slc a69 x112 (a69.length : Int)).bind fun x116 =>
      (C3 x116 x111).bind fun x117 =>
     J114 (!x117))))
   (some (.inl (a69, a70, a78, a71, a72, a73, a75, a76, a77)))
def CE (p0 : TS) (p1 : TK) : Option (Int × TS × TK) :=
  Ar (fun v : LB × Int × LB × Int × Int × LB × (List TP) × LB × Int => match v with
   | (a58, a59, a60, a61, a62, a63, a65, a66, a67) =>
    (Bo (⟨a58, a59⟩ : TS) a59).bind fun x131 =>
    (Bk (⟨a58, x131⟩ : TS) ([63, 62] : LB)).bind fun x132 =>
   cond (x132.1 != (0 : Int))
    (some (x132.1, x132.2, (⟨a61, a62, a63, a65, a66, a67⟩ : TK)))
    ((Ar (fun v136 : Bool => cond v136
       (some ((25 : Int), x132.2, (⟨a61, a62, a63, a65, a66, a67⟩ : TK)))
       (some ((0 : Int), x132.2, (⟨a61, a62, a63, a65, a66, a67⟩ : TK)))) fun J135 => cond (!(a60 == ([] : LB))) ((AZ a60 ([117, 116, 102, 45, 56] : LB)).bind fun x137 =>
      J135 (!x137)) (J135 false)))) fun J68 =>
   (iter (AC) Ay (p0.b, (5 : Int), (1 : Int), p1.At, p1.Name, p1.Pairs, p1.Text, p1.Refs, ([] : LB), (0 : Int))).bind fun o =>
  match o with
  | .inl o1 => J68 o1
  | .inr o1 => some o1
def Bb (p0 : TS) (p1 : TK) (p2 : Int) (p3 : LB) : Option (Int × TS × TK) :=
   (slc p0.b (IntKind.wrap .i64 (p0.at_ + p2)) (p0.b.length : Int)).bind fun x1 =>
   (IZ x1 p3).bind fun x2 =>
  cond (decide (x2 < (0 : Int)))
   (some ((23 : Int), p0, p1))
   ((slc x1 (0 : Int) x2).bind fun x4 =>
   some ((0 : Int), (⟨p0.b, (IntKind.wrap .i64 (p0.at_ + (IntKind.wrap .i64 ((IntKind.wrap .i64 (p2 + x2)) + (p3.length : Int)))))⟩ : TS), (⟨p1.Kind, p1.At, p1.Name, p1.Pairs, x4, p1.Refs⟩ : TK)))
def Eu (p0 : Int) : Option (Bool) :=
  cond (decide (p0 < (128 : Int)))
   (some ((((decide ((97 : Int) ≤ p0)) && (decide (p0 ≤ (122 : Int)))) || ((decide ((65 : Int) ≤ p0)) && (decide (p0 ≤ (90 : Int))))) || (p0 == (95 : Int))))
   ((Gt p0 ([(⟨(192 : Int), (214 : Int)⟩ : Aj), (⟨(216 : Int), (246 : Int)⟩ : Aj), (⟨(248 : Int), (767 : Int)⟩ : Aj), (⟨(880 : Int), (893 : Int)⟩ : Aj), (⟨(895 : Int), (8191 : Int)⟩ : Aj), (⟨(8204 : Int), (8205 : Int)⟩ : Aj), (⟨(8304 : Int), (8591 : Int)⟩ : Aj), (⟨(11264 : Int), (12271 : Int)⟩ : Aj), (⟨(12289 : Int), (55295 : Int)⟩ : Aj), (⟨(63744 : Int), (64975 : Int)⟩ : Aj), (⟨(65008 : Int), (65533 : Int)⟩ : Aj), (⟨(65536 : Int), (983039 : Int)⟩ : Aj)])).bind fun x7 =>
   some x7)
def Fj (p0 : Int) : Option (Bool) :=
   (Eu p0).bind fun x1 =>
   (Ar (fun v10 : Bool => some v10) fun J9 => cond ((((x1 || (p0 == (45 : Int))) || (p0 == (46 : Int))) || ((decide ((48 : Int) ≤ p0)) && (decide (p0 ≤ (57 : Int))))) || (p0 == (183 : Int))) (J9 true) ((Gt p0 ([(⟨(768 : Int), (879 : Int)⟩ : Aj), (⟨(8255 : Int), (8256 : Int)⟩ : Aj)])).bind fun x11 =>
    J9 x11))
def FK (p0 : LB) (rec23 : Nat → Option (Unit ⊕ Bool)) (a20 : Nat) : Option (Unit ⊕ Bool) :=
  cond (decide (a20 < p0.length))
   ((Ar (fun v27 : Bool => (Ar (fun v31 : Bool => cond v31
        (some (.inr false))
        (rec23 (a20 + wdS p0 a20))) fun J30 => cond v27 (J30 true) ((Fj (rnS p0 a20)).bind fun x32 =>
       J30 (!x32)))) fun J26 => cond (((a20 : Nat) : Int) == (0 : Int)) ((Eu (rnS p0 a20)).bind fun x28 =>
     J26 (!x28)) (J26 false)))
   (some (.inl ()))
def Ee (p0 : LB) : Option (Bool) :=
   (Ar (fun v4 : Bool => cond v4
     (some false)
     (Ar (fun _ : Unit =>
      some true) fun J18 =>
      (iter (FK p0) Ay (0 : Nat)).bind fun o =>
     match o with
     | .inl o1 => J18 o1
     | .inr o1 => some o1)) fun J3 => cond ((p0 == ([] : LB)) || (decide ((100 : Int) < (p0.length : Int)))) (J3 true) ((Fk p0).bind fun x5 =>
    J3 (!x5)))
def CT (p0 : LB) : Option (LB × LB × Bool) :=
   (Rw p0 ([58] : LB)).bind fun x1 =>
   (Ar (fun v4 : Bool => cond v4
     (some (([] : LB), p0, true))
     ((Ar (fun v9 : Bool => (Ar (fun v13 : Bool => cond v13
          (some (x1.1, x1.2.1, true))
          (some (([] : LB), ([] : LB), false))) fun J12 => cond v9 ((Ee x1.2.1).bind fun x14 =>
         J12 x14) (J12 false))) fun J8 => cond x1.2.2 ((Ee x1.1).bind fun x10 =>
       J8 x10) (J8 false)))) fun J3 => cond (!x1.2.2) ((Ee p0).bind fun x5 =>
    J3 x5) (J3 false))
def AW (p0 : TS) (rec22 : Int → Option (Int)) (a19 : Int) : Option (Int) :=
  cond (decide (a19 < (p0.b.length : Int)))
   ((slc p0.b a19 (p0.b.length : Int)).bind fun x25 =>
    (DN x25).bind fun x26 =>
    (Ar (fun v29 : Bool => cond v29
      (some a19)
      (rec22 (IntKind.wrap .i64 (a19 + x26.2)))) fun J28 => cond (x26.1 != (58 : Int)) ((Fj x26.1).bind fun x30 =>
      (Ar (fun v33 : Bool => J28 v33) fun J32 => cond (!x30) (J32 true) ((Ar (fun v36 : Bool => J32 v36) fun J35 => cond (a19 == p0.at_) ((Eu x26.1).bind fun x37 =>
         J35 (!x37)) (J35 false))))) (J28 false)))
   (some a19)
def Bl (p0 : TS) : Option ((LB × Int) × TS) :=
  Ar (fun a17 : Int =>
    (slc p0.b p0.at_ a17).bind fun x39 =>
   cond (x39 == ([] : LB))
    (some ((([] : LB), (23 : Int)), p0))
    ((CT x39).bind fun x41 =>
    cond (!x41.2.2)
     (some ((([] : LB), (24 : Int)), p0))
     (some ((x39, (0 : Int)), (⟨p0.b, a17⟩ : TS))))) fun J18 =>
   (iter (AW p0) Ay p0.at_).bind fun o =>
  J18 o
def Bv (p0 : TS) (p1 : TK) : Option (Int × TS × TK) :=
   (Bl (⟨p0.b, (IntKind.wrap .i64 (p0.at_ + (2 : Int)))⟩ : TS)).bind fun x1 =>
  cond (x1.1.2 != (0 : Int))
   (some (x1.1.2, x1.2, (⟨(8 : Int), p1.At, p1.Name, p1.Pairs, p1.Text, p1.Refs⟩ : TK)))
   ((Ee x1.1.1).bind fun x3 =>
   cond (!x3)
    (some ((24 : Int), x1.2, (⟨(8 : Int), p1.At, p1.Name, p1.Pairs, p1.Text, p1.Refs⟩ : TK)))
    ((AZ x1.1.1 ([120, 109, 108] : LB)).bind fun x5 =>
    cond x5
     (some ((29 : Int), x1.2, (⟨(8 : Int), p1.At, p1.Name, p1.Pairs, p1.Text, p1.Refs⟩ : TK)))
     ((Ap x1.2 ([63, 62] : LB)).bind fun x7 =>
     cond x7
      ((Bk x1.2 ([63, 62] : LB)).bind fun x9 =>
      some (x9.1, x9.2, (⟨(8 : Int), p1.At, x1.1.1, p1.Pairs, p1.Text, p1.Refs⟩ : TK)))
      ((Bo x1.2 x1.2.at_).bind fun x10 =>
      cond (x10 == x1.2.at_)
       (some ((23 : Int), x1.2, (⟨(8 : Int), p1.At, x1.1.1, p1.Pairs, p1.Text, p1.Refs⟩ : TK)))
       ((Bb (⟨x1.2.b, x10⟩ : TS) (⟨(8 : Int), p1.At, x1.1.1, p1.Pairs, p1.Text, p1.Refs⟩ : TK) (0 : Int) ([63, 62] : LB)).bind fun x12 =>
       some (x12.1, x12.2.1, x12.2.2))))))
def BI (p0 : TS) (p1 : TK) : Option (Int × TS × TK) :=
   (Bl (⟨p0.b, (IntKind.wrap .i64 (p0.at_ + (2 : Int)))⟩ : TS)).bind fun x1 =>
  cond (x1.1.2 != (0 : Int))
   (some (x1.1.2, x1.2, (⟨(3 : Int), p1.At, p1.Name, p1.Pairs, p1.Text, p1.Refs⟩ : TK)))
   ((Bo x1.2 x1.2.at_).bind fun x3 =>
    (Bk (⟨x1.2.b, x3⟩ : TS) ([62] : LB)).bind fun x4 =>
   some (x4.1, x4.2, (⟨(3 : Int), p1.At, x1.1.1, p1.Pairs, p1.Text, p1.Refs⟩ : TK)))
def F9 (p0 : Int) : Option (Int) :=
  cond ((decide ((48 : Int) ≤ p0)) && (decide (p0 ≤ (57 : Int))))
   (some (IntKind.wrap .i64 (IntKind.wrap .u8 (p0 - (48 : Int)))))
   (cond ((decide ((97 : Int) ≤ p0)) && (decide (p0 ≤ (102 : Int))))
    (some (IntKind.wrap .i64 ((IntKind.wrap .i64 (IntKind.wrap .u8 (p0 - (97 : Int)))) + (10 : Int))))
    (cond ((decide ((65 : Int) ≤ p0)) && (decide (p0 ≤ (70 : Int))))
     (some (IntKind.wrap .i64 ((IntKind.wrap .i64 (IntKind.wrap .u8 (p0 - (65 : Int)))) + (10 : Int))))
     (some (99 : Int))))
def B8 (a9 : LB) (a10 : Int) (rec28 : Int × Int → Option (Int ⊕ (Int × Int))) : Int × Int → Option (Int ⊕ (Int × Int))
  | (a24, a25) =>
  cond (decide (a25 < (a9.length : Int)))
   ((idx a9 a25).bind fun x31 =>
    (F9 (x31.toNat : Int)).bind fun x32 =>
   cond (decide (a10 ≤ x32))
    (some (.inr ((0 : Int), (22 : Int))))
    (rec28 ((if (1114112 : Int) < (IntKind.wrap .i64 ((IntKind.wrap .i64 (a24 * a10)) + x32)) then (1114112 : Int) else (IntKind.wrap .i64 ((IntKind.wrap .i64 (a24 * a10)) + x32))), (IntKind.wrap .i64 (a25 + (1 : Int))))))
   (some (.inl a24))
def EI (p0 : LB) : Option (Int × Int) :=
  cond (p0 == ([108, 116] : LB))
   (some ((60 : Int), (0 : Int)))
   (cond (p0 == ([103, 116] : LB))
    (some ((62 : Int), (0 : Int)))
    (cond (p0 == ([97, 109, 112] : LB))
     (some ((38 : Int), (0 : Int)))
     (cond (p0 == ([97, 112, 111, 115] : LB))
      (some ((39 : Int), (0 : Int)))
      (cond (p0 == ([113, 117, 111, 116] : LB))
       (some ((34 : Int), (0 : Int)))
       ((CZ p0 ([35] : LB)).bind fun x6 =>
       Ar (fun v : LB × Int => match v with
        | (a9, a10) =>
        cond ((!x6.2) || (a9 == ([] : LB)))
         (some ((0 : Int), (22 : Int)))
         (Ar (fun a22 : Int =>
           (Eh (IntKind.wrap .i32 a22)).bind fun x34 =>
          cond (!x34)
           (some ((0 : Int), (21 : Int)))
           (some ((IntKind.wrap .i32 a22), (0 : Int)))) fun J23 =>
          (iter (B8 a9 a10) Ay ((0 : Int), (0 : Int))).bind fun o =>
         match o with
         | .inl o1 => J23 o1
         | .inr o1 => some o1)) fun J11 =>
        (CZ x6.1 ([120] : LB)).bind fun x12 =>
       cond x12.2
        (J11 (x12.1, (16 : Int)))
        (J11 (x6.1, (10 : Int))))))))
def Dr (p0 : LB) (p1 : Int) : Option (Int × Int × Int) :=
   (Ar (fun v4 : Bool => cond v4
     (some ((0 : Int), (0 : Int), (1 : Int)))
     ((slc p0 p1 (p0.length : Int)).bind fun x7 =>
      (Ds x7 (59 : Int)).bind fun x8 =>
     cond (decide (x8 < (0 : Int)))
      (some ((0 : Int), (0 : Int), (22 : Int)))
      ((slc p0 (IntKind.wrap .i64 (p1 + (1 : Int))) (IntKind.wrap .i64 (p1 + x8))).bind fun x10 =>
       (EI x10).bind fun x11 =>
      cond (x11.2 != (0 : Int))
       (some ((0 : Int), (0 : Int), x11.2))
       (some (x11.1, (IntKind.wrap .i64 ((IntKind.wrap .i64 (p1 + x8)) + (1 : Int))), (0 : Int)))))) fun J3 => cond ((decide (p1 < (0 : Int))) || (decide ((p0.length : Int) ≤ p1))) (J3 true) ((idx p0 p1).bind fun x5 =>
    J3 ((x5.toNat : Int) != (38 : Int))))
def A7 (p0 : LB) (p1 : Bool) (rec60 : LB × Int → Option ((LB) ⊕ (LB × Int × Int))) : LB × Int → Option ((LB) ⊕ (LB × Int × Int))
  | (a55, a57) =>
  cond (decide (a57 < (p0.length : Int)))
   ((FH p0 a57).bind fun x63 =>
   Ar (fun v : Int × Int => match v with
    | (a85, a86) =>
     (app 1 a55 (Utf8.encode a85).data.toList).bind fun _ =>
    rec60 ((a55 ++ (Utf8.encode a85).data.toList), a86)) fun J87 =>
   cond (x63.2.2 != (0 : Int))
    (some (.inr (([] : LB), a57, x63.2.2)))
    ((Ar (fun v91 : Bool => cond v91
       (some (.inr (([] : LB), a57, (23 : Int))))
       (cond (x63.1 == (38 : Int))
        ((Dr p0 a57).bind fun x101 =>
        cond (x101.2.2 != (0 : Int))
         (some (.inr (([] : LB), a57, x101.2.2)))
         (J87 (x101.1, x101.2.1)))
        (cond (p1 && (((x63.1 == (9 : Int)) || (x63.1 == (10 : Int))) || (x63.1 == (13 : Int))))
         (J87 ((32 : Int), x63.2.1))
         (J87 (x63.1, x63.2.1))))) fun J90 => cond (x63.1 == (60 : Int)) (J90 true) ((Ar (fun v94 : Bool => J90 v94) fun J93 => cond (!p1) ((slc p0 a57 (p0.length : Int)).bind fun x95 =>
         (C3 x95 ([93, 93, 62] : LB)).bind fun x98 =>
        J93 x98) (J93 false))))))
   (some (.inl a55))
def DQ (p0 : LB) (p1 : Bool) : Option (LB × Int × Int) :=
  Ar (fun a52 : LB =>
   some (a52, (0 : Int), (0 : Int))) fun J54 =>
   (iter (A7 p0 p1) Ay (([] : LB), (0 : Int))).bind fun o =>
  match o with
  | .inl o1 => J54 o1
  | .inr o1 => some o1
def CK (p0 : LB) : Option (LB × Int × Int) :=
   (DQ p0 true).bind fun x1 =>
  some (x1.1, x1.2.1, x1.2.2)
def CI (a6 : Int) (a7 : Int) (a8 : LB) (a10 : List TP) (a11 : LB) (a12 : Int) (x27 : (LB × Int) × TS) (x31 : (LB × Int) × TS) (rec44 : Int → Option (Unit ⊕ (Int × TS × TK))) (a41 : Int) : Option (Unit ⊕ (Int × TS × TK)) :=
  cond (decide (a41 < (a10.length : Int)))
   ((idx a10 a41).bind fun x47 =>
   cond (x47.Name == x27.1.1)
    (some (.inr ((27 : Int), x31.2, (⟨a6, a7, a8, a10, a11, a12⟩ : TK))))
    (rec44 (IntKind.wrap .i64 (a41 + (1 : Int)))))
   (some (.inl ()))
def Az (rec17 : LB × Int × Int × Int × LB × (List TP) × LB × Int × LB × LB → Option ((Int × TS × TK))) : LB × Int × Int × Int × LB × (List TP) × LB × Int × LB × LB → Option ((Int × TS × TK))
  | (a4, a5, a6, a7, a8, a10, a11, a12, a13, a14) =>
   (Bo (⟨a4, a5⟩ : TS) a5).bind fun x19 =>
   (Ap (⟨a4, x19⟩ : TS) ([47, 62] : LB)).bind fun x20 =>
  cond x20
   ((Bk (⟨a4, x19⟩ : TS) ([47, 62] : LB)).bind fun x22 =>
   some (x22.1, x22.2, (⟨(4 : Int), a7, a8, a10, a11, a12⟩ : TK)))
   ((Ap (⟨a4, x19⟩ : TS) ([62] : LB)).bind fun x23 =>
   cond x23
    ((Bk (⟨a4, x19⟩ : TS) ([62] : LB)).bind fun x25 =>
    some (x25.1, x25.2, (⟨a6, a7, a8, a10, a11, a12⟩ : TK)))
    (cond (x19 == a5)
     (some ((23 : Int), (⟨a4, x19⟩ : TS), (⟨a6, a7, a8, a10, a11, a12⟩ : TK)))
     ((Bl (⟨a4, x19⟩ : TS)).bind fun x27 =>
     cond (x27.1.2 != (0 : Int))
      (some (x27.1.2, x27.2, (⟨a6, a7, a8, a10, a11, a12⟩ : TK)))
      ((BO x27.2).bind fun x29 =>
      cond (x29.1 != (0 : Int))
       (some (x29.1, x29.2, (⟨a6, a7, a8, a10, a11, a12⟩ : TK)))
       ((Ct x29.2).bind fun x31 =>
       cond (x31.1.2 != (0 : Int))
        (some (x31.1.2, x31.2, (⟨a6, a7, a8, a10, a11, a12⟩ : TK)))
        ((CK x31.1.1).bind fun x33 =>
        cond (x33.2.2 != (0 : Int))
         (some (x33.2.2, x31.2, (⟨a6, a7, a8, a10, a11, a12⟩ : TK)))
         (Ar (fun _ : Unit =>
           (app 32 a10 [(⟨x27.1.1, x33.1⟩ : TP)]).bind fun _ =>
           (some (a10 ++ [(⟨x27.1.1, x33.1⟩ : TP)])).bind fun a51 =>
          rec17 (x31.2.b, x31.2.at_, a6, a7, a8, a51, a11, a12, x27.1.1, x33.1)) fun J40 =>
          (iter (CI a6 a7 a8 a10 a11 a12 x27 x31) Ay (0 : Int)).bind fun o =>
         match o with
         | .inl o1 => J40 o1
         | .inr o1 => some o1)))))))
def Cj (p0 : TS) (p1 : TK) : Option (Int × TS × TK) :=
   (Bl (⟨p0.b, (IntKind.wrap .i64 (p0.at_ + (1 : Int)))⟩ : TS)).bind fun x2 =>
  cond (x2.1.2 != (0 : Int))
   (some (x2.1.2, x2.2, p1))
   ((iter (Az) Ay (x2.2.b, x2.2.at_, (2 : Int), p1.At, x2.1.1, p1.Pairs, p1.Text, p1.Refs, ([] : LB), ([] : LB))).bind fun o =>
   some o)
def Dh (p0 : LB) : Option (LB × Int × Int) :=
   (DQ p0 false).bind fun x1 =>
  some (x1.1, x1.2.1, x1.2.2)
def BR (p0 : TS) (p1 : TK) : Option (Int × TS × TK) :=
   (slc p0.b p0.at_ (p0.b.length : Int)).bind fun x1 =>
  Ar (fun a5 : LB =>
    (Dh a5).bind fun x10 =>
    (GG a5 ([38] : LB)).bind fun x13 =>
   some (x10.2.2, (⟨p0.b, (IntKind.wrap .i64 (p0.at_ + (a5.length : Int)))⟩ : TS), (⟨(5 : Int), p1.At, p1.Name, p1.Pairs, x10.1, x13⟩ : TK))) fun J6 =>
   (Ds x1 (60 : Int)).bind fun x7 =>
  cond (decide ((0 : Int) ≤ x7))
   ((slc x1 (0 : Int) x7).bind fun x9 =>
   J6 x9)
   (J6 x1)
def AJ (p0 : TS) (p1 : TK) : Option (Int × TS × TK) :=
   (Ar (fun v3 : Bool => (Ar (fun v7 : Bool => cond v7
       ((CE p0 p1).bind fun x10 =>
       some (x10.1, x10.2.1, x10.2.2))
       ((Ap p0 ([60, 33, 45, 45] : LB)).bind fun x12 =>
       cond x12
        ((Bb p0 (⟨(7 : Int), p1.At, p1.Name, p1.Pairs, p1.Text, p1.Refs⟩ : TK) (4 : Int) ([45, 45] : LB)).bind fun x14 =>
        cond (x14.1 != (0 : Int))
         (some (x14.1, x14.2.1, x14.2.2))
         ((Bk x14.2.1 ([62] : LB)).bind fun x17 =>
         some (x17.1, x17.2, x14.2.2)))
        ((Ap p0 ([60, 33, 91, 67, 68, 65, 84, 65, 91] : LB)).bind fun x18 =>
        cond x18
         ((Bb p0 (⟨(6 : Int), p1.At, p1.Name, p1.Pairs, p1.Text, p1.Refs⟩ : TK) (9 : Int) ([93, 93, 62] : LB)).bind fun x20 =>
         some (x20.1, x20.2.1, x20.2.2))
         ((Ap p0 ([60, 33, 68, 79, 67, 84, 89, 80, 69] : LB)).bind fun x22 =>
         cond x22
          (some ((25 : Int), p0, p1))
          ((Ap p0 ([60, 33] : LB)).bind fun x24 =>
          cond x24
           (some ((23 : Int), p0, p1))
           ((Ap p0 ([60, 63] : LB)).bind fun x26 =>
           cond x26
            ((Bv p0 p1).bind fun x28 =>
            some (x28.1, x28.2.1, x28.2.2))
            ((Ap p0 ([60, 47] : LB)).bind fun x30 =>
            cond x30
             ((BI p0 p1).bind fun x32 =>
             some (x32.1, x32.2.1, x32.2.2))
             ((Ap p0 ([60] : LB)).bind fun x34 =>
             cond x34
              ((Cj p0 p1).bind fun x36 =>
              some (x36.1, x36.2.1, x36.2.2))
              ((BR p0 p1).bind fun x38 =>
              some (x38.1, x38.2.1, x38.2.2)))))))))) fun J6 => cond v3 ((Bo p0 (5 : Int)).bind fun x8 =>
      J6 (decide ((5 : Int) < x8))) (J6 false))) fun J2 => cond (p0.at_ == (0 : Int)) ((Ap p0 ([60, 63, 120, 109, 108] : LB)).bind fun x4 =>
    J2 x4) (J2 false))
def B4 (rec13 : LB × Int × (List TK) → Option (((List TK) × Int × Int))) : LB × Int × (List TK) → Option (((List TK) × Int × Int))
  | (a7, a8, a10) =>
  cond (a8 == (a7.length : Int))
   (some (a10, (0 : Int), (0 : Int)))
   ((AJ (⟨a7, a8⟩ : TS) (⟨(0 : Int), a8, ([] : LB), ([] : List TP), ([] : LB), (0 : Int)⟩ : TK)).bind fun x20 =>
   cond (x20.1 != (0 : Int))
    (some (([] : List TK), a8, x20.1))
    ((app 80 a10 [x20.2.2]).bind fun _ =>
     (some (a10 ++ [x20.2.2])).bind fun a27 =>
    rec13 (x20.2.1.b, x20.2.1.at_, a27)))
def DH (p0 : LB) : Option ((List TK) × Int × Int) :=
  cond (decide ((65536 : Int) < (p0.length : Int)))
   (some (([] : List TK), (0 : Int), (6 : Int)))
   ((CA p0).bind fun x2 =>
    (DL (⟨x2, (0 : Int)⟩ : TS).b).bind fun x4 =>
   cond (x4.2 != (0 : Int))
    (some (([] : List TK), x4.1, x4.2))
    ((iter (B4) Ay ((⟨x2, (0 : Int)⟩ : TS).b, (⟨x2, (0 : Int)⟩ : TS).at_, ([] : List TK))).bind fun o =>
    some o))
def Im : Option (Ao) :=
  some (⟨([] : List Ai)⟩ : Ao)
def Ba (p0 : AA) (p1 : Ad) : Option (Int × AA) :=
  cond (decide ((8192 : Int) < (p1.Text.length : Int)))
   (some ((5 : Int), p0))
   ((Jm p0.open_ (IntKind.wrap .i64 ((List.length p0.open_ : Int) - (1 : Int)))).bind fun x2 =>
    (app 104 x2.1.node.Kids [(⟨(0 : Int), (⟨([] : LB), ([] : LB)⟩ : Ah), ([] : List Aa), ([] : List Ad), ([] : LB)⟩ : Ad)]).bind fun _ =>
    (some (x2.1.node.Kids ++ [p1])).bind fun a12 =>
   some ((0 : Int), (⟨((⟨(⟨x2.1.node.Kind, x2.1.node.Name, x2.1.node.Attrs, a12, x2.1.node.Text⟩ : Ad), x2.1.raw, x2.1.in_⟩ : Ag) :: x2.2), (IntKind.wrap .i64 (p0.nodes + (1 : Int))), p0.done⟩ : AA)))
def AQ (p0 : AA) (p1 : TK) : Option (Int × AA) :=
  cond ((p0.open_.length : Int) == (1 : Int))
   ((Ar (fun v5 : Bool => cond v5
      (some ((30 : Int), p0))
      (some ((0 : Int), p0))) fun J4 => cond ((p1.Kind == (6 : Int)) || (decide ((0 : Int) < p1.Refs))) (J4 true) ((HW p1.Text ([32, 9, 10, 13] : LB)).bind fun x6 =>
     J4 (!(x6 == ([] : LB))))))
   ((Jm p0.open_ (IntKind.wrap .i64 ((List.length p0.open_ : Int) - (1 : Int)))).bind fun x8 =>
   cond (p1.Text == ([] : LB))
    (some ((0 : Int), p0))
    ((Ar (fun v21 : Bool => cond v21
       ((Ba p0 (⟨(3 : Int), (⟨([] : LB), ([] : LB)⟩ : Ah), ([] : List Aa), ([] : List Ad), p1.Text⟩ : Ad)).bind fun x26 =>
       some (x26.1, x26.2))
       ((idx x8.1.node.Kids (IntKind.wrap .i64 ((x8.1.node.Kids.length : Int) - (1 : Int)))).bind fun x29 =>
        (cat x29.Text p1.Text).bind fun _ =>
        (idx x8.1.node.Kids (IntKind.wrap .i64 ((x8.1.node.Kids.length : Int) - (1 : Int)))).bind fun x30 =>
        (some (List.set x8.1.node.Kids (Int.toNat (IntKind.wrap .i64 ((x8.1.node.Kids.length : Int) - (1 : Int)))) (⟨x30.Kind, x30.Name, x30.Attrs, x30.Kids, (x29.Text ++ p1.Text)⟩ : Ad))).bind fun a31 =>
        (idx a31 (IntKind.wrap .i64 ((x8.1.node.Kids.length : Int) - (1 : Int)))).bind fun x32 =>
       cond (decide ((8192 : Int) < (x32.Text.length : Int)))
        (some ((5 : Int), (⟨((⟨(⟨x8.1.node.Kind, x8.1.node.Name, x8.1.node.Attrs, a31, x8.1.node.Text⟩ : Ad), x8.1.raw, x8.1.in_⟩ : Ag) :: x8.2), p0.nodes, p0.done⟩ : AA)))
        (some ((0 : Int), (⟨((⟨(⟨x8.1.node.Kind, x8.1.node.Name, x8.1.node.Attrs, a31, x8.1.node.Text⟩ : Ad), x8.1.raw, x8.1.in_⟩ : Ag) :: x8.2), p0.nodes, p0.done⟩ : AA))))) fun J20 => cond (decide ((IntKind.wrap .i64 ((x8.1.node.Kids.length : Int) - (1 : Int))) < (0 : Int))) (J20 true) ((idx x8.1.node.Kids (IntKind.wrap .i64 ((x8.1.node.Kids.length : Int) - (1 : Int)))).bind fun x22 =>
      J20 (x22.Kind != (3 : Int))))))
def Df (p0 : TP) : Option (LB × Bool) :=
   (CT p0.Name).bind fun x1 =>
  cond (x1.2.2 && (x1.1 == ([120, 109, 108, 110, 115] : LB)))
   (some (x1.2.1, true))
   (cond (p0.Name == ([120, 109, 108, 110, 115] : LB))
    (some (([] : LB), true))
    (some (([] : LB), false)))
def EF (p0 : LB) (p1 : LB) : Option (Int) :=
  Ar (fun a3 : Bool =>
   cond a3
    (some (29 : Int))
    (cond ((!(p0 == ([] : LB))) && (p1 == ([] : LB)))
     (some (28 : Int))
     (cond (decide ((100 : Int) < (p1.length : Int)))
      (some (6 : Int))
      (some (0 : Int))))) fun J4 =>
  cond (p0 == ([120, 109, 108, 110, 115] : LB))
   (J4 (p0 == ([120, 109, 108, 110, 115] : LB)))
   (cond (p1 == ([104, 116, 116, 112, 58, 47, 47, 119, 119, 119, 46, 119, 51, 46, 111, 114, 103, 47, 50, 48, 48, 48, 47, 120, 109, 108, 110, 115, 47] : LB))
    (J4 (p1 == ([104, 116, 116, 112, 58, 47, 47, 119, 119, 119, 46, 119, 51, 46, 111, 114, 103, 47, 50, 48, 48, 48, 47, 120, 109, 108, 110, 115, 47] : LB)))
    (J4 (!((p0 == ([120, 109, 108] : LB)) == (p1 == ([104, 116, 116, 112, 58, 47, 47, 119, 119, 119, 46, 119, 51, 46, 111, 114, 103, 47, 88, 77, 76, 47, 49, 57, 57, 56, 47, 110, 97, 109, 101, 115, 112, 97, 99, 101] : LB))))))
def Cq (p0 : List LB) (p1 : LB) (rec9 : Int → Option (Unit ⊕ Int)) (a6 : Int) : Option (Unit ⊕ Int) :=
  cond (decide (a6 < (p0.length : Int)))
   ((idx p0 a6).bind fun x12 =>
   cond (p1 == x12)
    (some (.inr a6))
    (rec9 (IntKind.wrap .i64 (a6 + (1 : Int)))))
   (some (.inl ()))
def Db (p0 : List LB) (p1 : LB) : Option (Int) :=
  Ar (fun _ : Unit =>
   some (-1 : Int)) fun J5 =>
   (iter (Cq p0 p1) Ay (0 : Int)).bind fun o =>
  match o with
  | .inl o1 => J5 o1
  | .inr o1 => some o1
def Cr (p0 : List LB) (p1 : LB) : Option (Bool) :=
   (Db p0 p1).bind fun x1 =>
  some (decide ((0 : Int) ≤ x1))
def Ce (p0 : Ai) (p1 : LB) : Option (Bool) :=
  some (p0.prefix_ == p1)
def Bp (p0 : List Ai) (p1 : Ai → Option Bool) (rec10 : Int → Option (Unit ⊕ Int)) (a7 : Int) : Option (Unit ⊕ Int) :=
  cond (decide (a7 < (p0.length : Int)))
   ((idx p0 a7).bind fun x13 =>
    (p1 x13).bind fun x14 =>
   cond x14
    (some (.inr a7))
    (rec10 (IntKind.wrap .i64 (a7 + (1 : Int)))))
   (some (.inl ()))
def BW (p0 : List Ai) (p1 : Ai → Option Bool) : Option (Int) :=
  Ar (fun _ : Unit =>
   some (-1 : Int)) fun J6 =>
   (iter (Bp p0 p1) Ay (0 : Int)).bind fun o =>
  match o with
  | .inl o1 => J6 o1
  | .inr o1 => some o1
def AD (p1 : Ai → Option Bool) (rec33 : (List Ai) × Int × Int → Option (((List Ai) × Int))) : (List Ai) × Int × Int → Option (((List Ai) × Int))
  | (a27, a29, a30) =>
  cond (decide (a30 < (a27.length : Int)))
   (Ar (fun v : (List Ai) × Int => match v with
    | (a42, a44) =>
    rec33 (a42, a44, (IntKind.wrap .i64 (a30 + (1 : Int))))) fun J45 =>
    (idx a27 a30).bind fun x46 =>
    (p1 x46).bind fun x48 =>
   cond (!x48)
    ((idx a27 a29).bind fun x50 =>
     (some (List.set a27 (Int.toNat a29) x46)).bind fun a51 =>
    J45 (a51, (IntKind.wrap .i64 (a29 + (1 : Int)))))
    (J45 (a27, a29)))
   (some (a27, a29))
def AS (p0 : List Ai) (p1 : Ai → Option Bool) : Option (List Ai) :=
   (BW p0 p1).bind fun x1 =>
  cond (x1 == (-1 : Int))
   (some p0)
   (Ar (fun v : (List Ai) × Int => match v with
    | (a23, a25) =>
     (slc a23 a25 (a23.length : Int)).bind fun x52 =>
     (ltL a25 (List.length a23)).bind fun _ =>
    some (List.take (Int.toNat a25) a23)) fun J26 =>
    (iter (AD p1) Ay (p0, x1, (IntKind.wrap .i64 (x1 + (1 : Int))))).bind fun o =>
   J26 o)
def CH (p1 : List TP) (rec64 : (List Ai) × (List LB) × (List Ai) × Int → Option (((List Ai) × (List Ai)) ⊕ (Ao × Int))) : (List Ai) × (List LB) × (List Ai) × Int → Option (((List Ai) × (List Ai)) ⊕ (Ao × Int))
  | (a56, a57, a60, a61) =>
  cond (decide (a61 < (p1.length : Int)))
   (Ar (fun v : (List LB) × (List Ai) => match v with
    | (a85, a88) =>
    rec64 (a56, a85, a88, (IntKind.wrap .i64 (a61 + (1 : Int))))) fun J89 =>
    (idx p1 a61).bind fun x90 =>
    (Df x90).bind fun x92 =>
   cond (!x92.2)
    (J89 (a57, a60))
    ((EF x92.1 x90.Value).bind fun x95 =>
    cond (x95 != (0 : Int))
     (some (.inr ((⟨([] : List Ai)⟩ : Ao), x95)))
     ((Cr a57 x92.1).bind fun x97 =>
     cond x97
      (some (.inr ((⟨([] : List Ai)⟩ : Ao), (27 : Int))))
      ((app 16 a57 [x92.1]).bind fun _ =>
       (AS a60 (fun z0 => Ce z0 x92.1)).bind fun x102 =>
      cond ((!(x92.1 == ([120, 109, 108] : LB))) && (!(x90.Value == ([] : LB))))
       ((app 32 x102 [(⟨x92.1, x90.Value⟩ : Ai)]).bind fun _ =>
        (some (x102 ++ [(⟨x92.1, x90.Value⟩ : Ai)])).bind fun a107 =>
       J89 ((a57 ++ [x92.1]), a107))
       (J89 ((a57 ++ [x92.1]), x102))))))
   (some (.inl (a56, a60)))
def Cm (p0 : Ao) (p1 : List TP) : Option (Ao × Int) :=
   (app 32 [] p0.binds).bind fun x3 =>
  Ar (fun v : (List Ai) × (List Ai) => match v with
   | (a52, a54) =>
   some ((⟨a54⟩ : Ao), (0 : Int))) fun J55 =>
   (iter (CH p1) Ay (([] : List Ai), ([] : List LB), x3, (0 : Int))).bind fun o =>
  match o with
  | .inl o1 => J55 o1
  | .inr o1 => some o1
def Cw (p0 : Ao) (p1 : LB) (rec11 : Int → Option (Unit ⊕ (LB × Bool))) (a8 : Int) : Option (Unit ⊕ (LB × Bool)) :=
  cond (decide (a8 < (p0.binds.length : Int)))
   ((idx p0.binds a8).bind fun x14 =>
   cond (x14.prefix_ == p1)
    (some (.inr (x14.uri, true)))
    (rec11 (IntKind.wrap .i64 (a8 + (1 : Int)))))
   (some (.inl ()))
def CY (p0 : Ao) (p1 : LB) : Option (LB × Bool) :=
  cond (p1 == ([120, 109, 108] : LB))
   (some (([104, 116, 116, 112, 58, 47, 47, 119, 119, 119, 46, 119, 51, 46, 111, 114, 103, 47, 88, 77, 76, 47, 49, 57, 57, 56, 47, 110, 97, 109, 101, 115, 112, 97, 99, 101] : LB), true))
   (Ar (fun _ : Unit =>
    some (([] : LB), (p1 == ([] : LB)))) fun J7 =>
    (iter (Cw p0 p1) Ay (0 : Int)).bind fun o =>
   match o with
   | .inl o1 => J7 o1
   | .inr o1 => some o1)
def BY (p0 : Ao) (p1 : LB) : Option (Ah × Int) :=
   (CT p1).bind fun x2 =>
  cond (!x2.2.2)
   (some ((⟨([] : LB), ([] : LB)⟩ : Ah), (24 : Int)))
   (cond (x2.1 == ([120, 109, 108, 110, 115] : LB))
    (some ((⟨([] : LB), ([] : LB)⟩ : Ah), (29 : Int)))
    ((CY p0 x2.1).bind fun x5 =>
    cond (!x5.2)
     (some ((⟨([] : LB), ([] : LB)⟩ : Ah), (28 : Int)))
     (some ((⟨x5.1, x2.2.1⟩ : Ah), (0 : Int)))))
def AB (p1 : Int) (p3 : Aa → Aa → Option Int) (rec38 : (List Aa) × Int → Option (((List Aa)))) : (List Aa) × Int → Option (((List Aa)))
  | (a33, a35) =>
  Ar (fun a45 : Bool =>
   cond a45
    ((idx a33 (IntKind.wrap .i64 (a35 - (1 : Int)))).bind fun x53 =>
     (idx a33 a35).bind fun x54 =>
     (idx a33 a35).bind fun x55 =>
     (some (List.set a33 (Int.toNat a35) x53)).bind fun a56 =>
     (idx a56 (IntKind.wrap .i64 (a35 - (1 : Int)))).bind fun x57 =>
     (some (List.set a56 (Int.toNat (IntKind.wrap .i64 (a35 - (1 : Int)))) x54)).bind fun a58 =>
    rec38 (a58, (IntKind.wrap .i64 (a35 - (1 : Int)))))
    (some a33)) fun J46 =>
  cond (decide (p1 < a35))
   ((idx a33 a35).bind fun x49 =>
    (idx a33 (IntKind.wrap .i64 (a35 - (1 : Int)))).bind fun x50 =>
    (p3 x49 x50).bind fun x51 =>
   J46 (decide (x51 < (0 : Int))))
   (J46 false)
def AM (p1 : Int) (p2 : Int) (p3 : Aa → Aa → Option Int) (rec6 : (List Aa) × Int → Option (((List Aa)))) : (List Aa) × Int → Option (((List Aa)))
  | (a1, a3) =>
  cond (decide (a3 < p2))
   (Ar (fun a30 : List Aa =>
    rec6 (a30, (IntKind.wrap .i64 (a3 + (1 : Int))))) fun J32 =>
    (iter (AB p1 p3) Ay (a1, a3)).bind fun o =>
   J32 o)
   (some a1)
def Bm (p0 : List Aa) (p1 : Int) (p2 : Int) (p3 : Aa → Aa → Option Int) : Option ((List Aa)) :=
   (iter (AM p1 p2 p3) Ay (p0, (IntKind.wrap .i64 (p1 + (1 : Int))))).bind fun o =>
  some o
def Bq (p1 : Int) (p2 : Int) (p3 : Int) (rec6 : (List Aa) × Int → Option (((List Aa)))) : (List Aa) × Int → Option (((List Aa)))
  | (a1, a3) =>
  cond (decide (a3 < p3))
   ((idx a1 (IntKind.wrap .i64 (p2 + a3))).bind fun x9 =>
    (idx a1 (IntKind.wrap .i64 (p1 + a3))).bind fun x10 =>
    (idx a1 (IntKind.wrap .i64 (p1 + a3))).bind fun x11 =>
    (some (List.set a1 (Int.toNat (IntKind.wrap .i64 (p1 + a3))) x9)).bind fun a12 =>
    (idx a12 (IntKind.wrap .i64 (p2 + a3))).bind fun x13 =>
    (some (List.set a12 (Int.toNat (IntKind.wrap .i64 (p2 + a3))) x10)).bind fun a14 =>
   rec6 (a14, (IntKind.wrap .i64 (a3 + (1 : Int)))))
   (some a1)
def Bj (p0 : List Aa) (p1 : Int) (p2 : Int) (p3 : Int) (p4 : Aa → Aa → Option Int) : Option ((List Aa)) :=
   (iter (Bq p1 p2 p3) Ay (p0, (0 : Int))).bind fun o =>
  some o
def BV (p2 : Int) (p4 : Aa → Aa → Option Int) (rec25 : (List Aa) × Int × Int → Option (((List Aa) × Int))) : (List Aa) × Int × Int → Option (((List Aa) × Int))
  | (a19, a21, a22) =>
  cond (a21 != a22)
   (cond (decide (a22 < a21))
    ((Bj a19 (IntKind.wrap .i64 (p2 - a21)) p2 a22 p4).bind fun x29 =>
     (some x29).bind fun a31 =>
     (eqL a31 a19).bind fun _ =>
    rec25 (a31, (IntKind.wrap .i64 (a21 - a22)), a22))
    ((Bj a19 (IntKind.wrap .i64 (p2 - a21)) (IntKind.wrap .i64 ((IntKind.wrap .i64 (p2 + a22)) - a21)) a21 p4).bind fun x33 =>
     (some x33).bind fun a35 =>
     (eqL a35 a19).bind fun _ =>
    rec25 (a35, a21, (IntKind.wrap .i64 (a22 - a21)))))
   (some (a19, a21))
def BS (p0 : List Aa) (p1 : Int) (p2 : Int) (p3 : Int) (p4 : Aa → Aa → Option Int) : Option ((List Aa)) :=
  Ar (fun v : (List Aa) × Int => match v with
   | (a15, a17) =>
    (Bj a15 (IntKind.wrap .i64 (p2 - a17)) p2 a17 p4).bind fun x37 =>
    (some x37).bind fun a39 =>
    (eqL a39 a15).bind fun _ =>
   some a39) fun J18 =>
   (iter (BV p2 p4) Ay (p0, (IntKind.wrap .i64 (p2 - p1)), (IntKind.wrap .i64 (p3 - p2)))).bind fun o =>
  J18 o
def AU (p0 : List Aa) (p1 : Int) (p4 : Aa → Aa → Option Int) (rec54 : Int × Int → Option (Int)) : Int × Int → Option (Int)
  | (a50, a51) =>
  cond (decide (a50 < a51))
   ((idx p0 (IntKind.wrap .i64 (DU .u64 (IntKind.wrap .u64 (IntKind.wrap .i64 (a50 + a51))) (1 : Int)))).bind fun x57 =>
    (idx p0 p1).bind fun x58 =>
    (p4 x57 x58).bind fun x59 =>
   cond (decide (x59 < (0 : Int)))
    (rec54 ((IntKind.wrap .i64 ((IntKind.wrap .i64 (DU .u64 (IntKind.wrap .u64 (IntKind.wrap .i64 (a50 + a51))) (1 : Int))) + (1 : Int))), a51))
    (rec54 (a50, (IntKind.wrap .i64 (DU .u64 (IntKind.wrap .u64 (IntKind.wrap .i64 (a50 + a51))) (1 : Int))))))
   (some a50)
def A9 (a48 : Int) (rec79 : (List Aa) × Int → Option (((List Aa)))) : (List Aa) × Int → Option (((List Aa)))
  | (a74, a76) =>
  cond (decide (a76 < (IntKind.wrap .i64 (a48 - (1 : Int)))))
   ((idx a74 (IntKind.wrap .i64 (a76 + (1 : Int)))).bind fun x82 =>
    (idx a74 a76).bind fun x83 =>
    (idx a74 a76).bind fun x84 =>
    (some (List.set a74 (Int.toNat a76) x82)).bind fun a85 =>
    (idx a85 (IntKind.wrap .i64 (a76 + (1 : Int)))).bind fun x86 =>
    (some (List.set a85 (Int.toNat (IntKind.wrap .i64 (a76 + (1 : Int)))) x83)).bind fun a87 =>
   rec79 (a87, (IntKind.wrap .i64 (a76 + (1 : Int)))))
   (some a74)
def AV (p0 : List Aa) (p2 : Int) (p4 : Aa → Aa → Option Int) (rec141 : Int × Int → Option (Int)) : Int × Int → Option (Int)
  | (a137, a138) =>
  cond (decide (a137 < a138))
   ((idx p0 p2).bind fun x144 =>
    (idx p0 (IntKind.wrap .i64 (DU .u64 (IntKind.wrap .u64 (IntKind.wrap .i64 (a137 + a138))) (1 : Int)))).bind fun x145 =>
    (p4 x144 x145).bind fun x146 =>
   cond (!(decide (x146 < (0 : Int))))
    (rec141 ((IntKind.wrap .i64 ((IntKind.wrap .i64 (DU .u64 (IntKind.wrap .u64 (IntKind.wrap .i64 (a137 + a138))) (1 : Int))) + (1 : Int))), a138))
    (rec141 (a137, (IntKind.wrap .i64 (DU .u64 (IntKind.wrap .u64 (IntKind.wrap .i64 (a137 + a138))) (1 : Int))))))
   (some a137)
def Bc (a135 : Int) (rec166 : (List Aa) × Int → Option (((List Aa)))) : (List Aa) × Int → Option (((List Aa)))
  | (a161, a163) =>
  cond (decide (a135 < a163))
   ((idx a161 (IntKind.wrap .i64 (a163 - (1 : Int)))).bind fun x169 =>
    (idx a161 a163).bind fun x170 =>
    (idx a161 a163).bind fun x171 =>
    (some (List.set a161 (Int.toNat a163) x169)).bind fun a172 =>
    (idx a172 (IntKind.wrap .i64 (a163 - (1 : Int)))).bind fun x173 =>
    (some (List.set a172 (Int.toNat (IntKind.wrap .i64 (a163 - (1 : Int)))) x170)).bind fun a174 =>
   rec166 (a174, (IntKind.wrap .i64 (a163 - (1 : Int)))))
   (some a161)
def Bd (p0 : List Aa) (p1 : Int) (p2 : Int) (p3 : Int) (p4 : Aa → Aa → Option Int) (rec193 : Int × Int → Option (Int)) : Int × Int → Option (Int)
  | (a189, a190) =>
  cond (decide (a189 < a190))
   ((idx p0 (IntKind.wrap .i64 ((IntKind.wrap .i64 ((IntKind.wrap .i64 ((IntKind.wrap .i64 (DU .u64 (IntKind.wrap .u64 (IntKind.wrap .i64 (p1 + p3))) (1 : Int))) + p2)) - (1 : Int))) - (IntKind.wrap .i64 (DU .u64 (IntKind.wrap .u64 (IntKind.wrap .i64 (a189 + a190))) (1 : Int)))))).bind fun x196 =>
    (idx p0 (IntKind.wrap .i64 (DU .u64 (IntKind.wrap .u64 (IntKind.wrap .i64 (a189 + a190))) (1 : Int)))).bind fun x197 =>
    (p4 x196 x197).bind fun x198 =>
   cond (!(decide (x198 < (0 : Int))))
    (rec193 ((IntKind.wrap .i64 ((IntKind.wrap .i64 (DU .u64 (IntKind.wrap .u64 (IntKind.wrap .i64 (a189 + a190))) (1 : Int))) + (1 : Int))), a190))
    (rec193 (a189, (IntKind.wrap .i64 (DU .u64 (IntKind.wrap .u64 (IntKind.wrap .i64 (a189 + a190))) (1 : Int))))))
   (some a189)
def AG (rec0 : (List Aa) × Int × Int × Int × (Aa → Aa → Option Int) → Option ((List Aa))) : (List Aa) × Int × Int × Int × (Aa → Aa → Option Int) → Option ((List Aa))
  | (p0, p1, p2, p3, p4) =>
  Ar (fun _ : Unit =>
   Ar (fun _ : Unit =>
    Ar (fun v : Int × Int => match v with
     | (a176, a177) =>
     Ar (fun a187 : Int =>
      Ar (fun a206 : List Aa =>
       Ar (fun a221 : List Aa =>
        cond ((decide ((IntKind.wrap .i64 (DU .u64 (IntKind.wrap .u64 (IntKind.wrap .i64 (p1 + p3))) (1 : Int))) < (IntKind.wrap .i64 ((IntKind.wrap .i64 ((IntKind.wrap .i64 (DU .u64 (IntKind.wrap .u64 (IntKind.wrap .i64 (p1 + p3))) (1 : Int))) + p2)) - a187)))) && (decide ((IntKind.wrap .i64 ((IntKind.wrap .i64 ((IntKind.wrap .i64 (DU .u64 (IntKind.wrap .u64 (IntKind.wrap .i64 (p1 + p3))) (1 : Int))) + p2)) - a187)) < p3)))
         ((rec0 (a221, (IntKind.wrap .i64 (DU .u64 (IntKind.wrap .u64 (IntKind.wrap .i64 (p1 + p3))) (1 : Int))), (IntKind.wrap .i64 ((IntKind.wrap .i64 ((IntKind.wrap .i64 (DU .u64 (IntKind.wrap .u64 (IntKind.wrap .i64 (p1 + p3))) (1 : Int))) + p2)) - a187)), p3, p4)).bind fun x232 =>
          (some x232).bind fun a234 =>
          (eqL a234 a221).bind fun _ =>
         some a234)
         (some a221)) fun J223 =>
       cond ((decide (p1 < a187)) && (decide (a187 < (IntKind.wrap .i64 (DU .u64 (IntKind.wrap .u64 (IntKind.wrap .i64 (p1 + p3))) (1 : Int))))))
        ((rec0 (a206, p1, a187, (IntKind.wrap .i64 (DU .u64 (IntKind.wrap .u64 (IntKind.wrap .i64 (p1 + p3))) (1 : Int))), p4)).bind fun x226 =>
         (some x226).bind fun a228 =>
         (eqL a228 a206).bind fun _ =>
        J223 a228)
        (J223 a206)) fun J208 =>
      cond ((decide (a187 < p2)) && (decide (p2 < (IntKind.wrap .i64 ((IntKind.wrap .i64 ((IntKind.wrap .i64 (DU .u64 (IntKind.wrap .u64 (IntKind.wrap .i64 (p1 + p3))) (1 : Int))) + p2)) - a187)))))
       ((BS p0 a187 p2 (IntKind.wrap .i64 ((IntKind.wrap .i64 ((IntKind.wrap .i64 (DU .u64 (IntKind.wrap .u64 (IntKind.wrap .i64 (p1 + p3))) (1 : Int))) + p2)) - a187)) p4).bind fun x211 =>
        (some x211).bind fun a213 =>
        (eqL a213 p0).bind fun _ =>
       J208 a213)
       (J208 p0)) fun J188 =>
      (iter (Bd p0 p1 p2 p3 p4) Ay (a176, a177)).bind fun o =>
     J188 o) fun J178 =>
    cond (decide ((IntKind.wrap .i64 (DU .u64 (IntKind.wrap .u64 (IntKind.wrap .i64 (p1 + p3))) (1 : Int))) < p2))
     (J178 ((IntKind.wrap .i64 ((IntKind.wrap .i64 ((IntKind.wrap .i64 (DU .u64 (IntKind.wrap .u64 (IntKind.wrap .i64 (p1 + p3))) (1 : Int))) + p2)) - p3)), (IntKind.wrap .i64 (DU .u64 (IntKind.wrap .u64 (IntKind.wrap .i64 (p1 + p3))) (1 : Int)))))
     (J178 (p1, p2))) fun J126 =>
   cond ((IntKind.wrap .i64 (p3 - p2)) == (1 : Int))
    (Ar (fun a135 : Int =>
     Ar (fun a158 : List Aa =>
      some a158) fun J160 =>
      (iter (Bc a135) Ay (p0, p2)).bind fun o =>
     J160 o) fun J136 =>
     (iter (AV p0 p2 p4) Ay (p1, p2)).bind fun o =>
    J136 o)
    (J126 ())) fun J39 =>
  cond ((IntKind.wrap .i64 (p2 - p1)) == (1 : Int))
   (Ar (fun a48 : Int =>
    Ar (fun a71 : List Aa =>
     some a71) fun J73 =>
     (iter (A9 a48) Ay (p0, p1)).bind fun o =>
    J73 o) fun J49 =>
    (iter (AU p0 p1 p4) Ay (p2, p3)).bind fun o =>
   J49 o)
   (J39 ())
def B5 (p0 : List Aa) (p1 : Int) (p2 : Int) (p3 : Int) (p4 : Aa → Aa → Option Int) : Option ((List Aa)) := iter AG Ay (p0, p1, p2, p3, p4)
def BA (p1 : Int) (p2 : Aa → Aa → Option Int) (rec20 : (List Aa) × Int × Int → Option (((List Aa) × Int))) : (List Aa) × Int × Int → Option (((List Aa) × Int))
  | (a14, a16, a17) =>
  cond (decide (a17 ≤ p1))
   ((Bm a14 a16 a17 p2).bind fun x23 =>
    (some x23).bind fun a25 =>
    (eqL a25 a14).bind fun _ =>
   rec20 (a25, a17, (IntKind.wrap .i64 (a17 + (20 : Int)))))
   (some (a14, a16))
def BU (p1 : Int) (p2 : Aa → Aa → Option Int) (a33 : Int) (rec58 : (List Aa) × Int × Int → Option (((List Aa) × Int))) : (List Aa) × Int × Int → Option (((List Aa) × Int))
  | (a52, a54, a55) =>
  cond (decide (a55 ≤ p1))
   ((B5 a52 a54 (IntKind.wrap .i64 (a54 + a33)) a55 p2).bind fun x61 =>
    (some x61).bind fun a63 =>
    (eqL a63 a52).bind fun _ =>
   rec58 (a63, a55, (IntKind.wrap .i64 (a55 + (IntKind.wrap .i64 ((2 : Int) * a33))))))
   (some (a52, a54))
def BC (p1 : Int) (p2 : Aa → Aa → Option Int) (rec36 : (List Aa) × Int → Option (((List Aa)))) : (List Aa) × Int → Option (((List Aa)))
  | (a31, a33) =>
  cond (decide (a33 < p1))
   (Ar (fun v : (List Aa) × Int => match v with
    | (a48, a50) =>
    Ar (fun a70 : List Aa =>
     rec36 (a70, (IntKind.wrap .i64 (a33 * (2 : Int))))) fun J72 =>
    cond (decide ((IntKind.wrap .i64 (a50 + a33)) < p1))
     ((B5 a48 a50 (IntKind.wrap .i64 (a50 + a33)) p1 p2).bind fun x74 =>
      (some x74).bind fun a76 =>
      (eqL a76 a48).bind fun _ =>
     J72 a76)
     (J72 a48)) fun J51 =>
    (iter (BU p1 p2 a33) Ay (a31, (0 : Int), (IntKind.wrap .i64 ((2 : Int) * a33)))).bind fun o =>
   J51 o)
   (some a31)
def Cs (p0 : List Aa) (p1 : Int) (p2 : Aa → Aa → Option Int) : Option ((List Aa)) :=
  Ar (fun v : (List Aa) × Int => match v with
   | (a10, a12) =>
    (Bm a10 a12 p1 p2).bind fun x27 =>
    (some x27).bind fun a29 =>
    (eqL a29 a10).bind fun _ =>
    (iter (BC p1 p2) Ay (a29, (20 : Int))).bind fun o =>
   some o) fun J13 =>
   (iter (BA p1 p2) Ay (p0, (0 : Int), (20 : Int))).bind fun o =>
  J13 o
def A8 (p0 : List Aa) (p1 : Aa → Aa → Option Int) : Option ((List Aa)) :=
   (Cs p0 (p0.length : Int) p1).bind fun x1 =>
   (some x1).bind fun a3 =>
   (eqL a3 p0).bind fun _ =>
  some a3
def Er (p0 : LB) : Option (Bool) :=
  some (!(p0 == p0))
def Cu (p0 : LB) (p1 : LB) : Option (Int) :=
   (Er p0).bind fun x1 =>
   (Er p1).bind fun x2 =>
  cond x1
   (cond x2
    (some (0 : Int))
    (some (-1 : Int)))
   (cond x2
    (some (1 : Int))
    (cond (Op.bytesLess p0 p1)
     (some (-1 : Int))
     (cond (!(Op.bytesLess p0 p1 || p0 == p1))
      (some (1 : Int))
      (some (0 : Int)))))
def E8 (p0 : List Int) (rec9 : Int → Option (Unit ⊕ Int)) (a6 : Int) : Option (Unit ⊕ Int) :=
  cond (decide (a6 < (p0.length : Int)))
   ((idx p0 a6).bind fun x12 =>
   cond (x12 != (0 : Int))
    (some (.inr x12))
    (rec9 (IntKind.wrap .i64 (a6 + (1 : Int)))))
   (some (.inl ()))
def FZ (p0 : List Int) : Option (Int) :=
  Ar (fun _ : Unit =>
   some (0 : Int)) fun J5 =>
   (iter (E8 p0) Ay (0 : Int)).bind fun o =>
  match o with
  | .inl o1 => J5 o1
  | .inr o1 => some o1
def C6 (p0 : Aa) (p1 : Aa) : Option (Int) :=
   (Cu p0.Name.URI p1.Name.URI).bind fun x1 =>
   (Cu p0.Name.Local p1.Name.Local).bind fun x2 =>
   (FZ ([x1, x2])).bind fun x3 =>
  some x3
def Cb (p0 : Ao) (p1 : List TP) (rec44 : (List Aa) × Int → Option (((List Aa)) ⊕ ((List Aa) × Int))) : (List Aa) × Int → Option (((List Aa)) ⊕ ((List Aa) × Int))
  | (a40, a41) =>
  cond (decide (a41 < (p1.length : Int)))
   (Ar (fun a62 : List Aa =>
    rec44 (a62, (IntKind.wrap .i64 (a41 + (1 : Int))))) fun J63 =>
    (idx p1 a41).bind fun x64 =>
    (Df x64).bind fun x66 =>
   cond x66.2
    (J63 a40)
    ((BY p0 x64.Name).bind fun x68 =>
    cond (x68.2 != (0 : Int))
     (some (.inr (([] : List Aa), x68.2)))
     (Ar (fun a73 : LB =>
       (app 48 a40 [(⟨(⟨a73, x68.1.Local⟩ : Ah), x64.Value⟩ : Aa)]).bind fun _ =>
       (some (a40 ++ [(⟨(⟨a73, x68.1.Local⟩ : Ah), x64.Value⟩ : Aa)])).bind fun a78 =>
      J63 a78) fun J74 =>
      (CT x64.Name).bind fun x75 =>
     cond (x75.1 == ([] : LB))
      (J74 ([] : LB))
      (J74 x68.1.URI))))
   (some (.inl a40))
def BH (a81 : List Aa) (rec99 : Int → Option (Unit ⊕ ((List Aa) × Int))) (a96 : Int) : Option (Unit ⊕ ((List Aa) × Int)) :=
  cond (decide (a96 < (a81.length : Int)))
   (Ar (fun a106 : Bool =>
    cond a106
     (some (.inr (([] : List Aa), (27 : Int))))
     (rec99 (IntKind.wrap .i64 (a96 + (1 : Int))))) fun J107 =>
   cond (decide ((0 : Int) < a96))
    ((idx a81 a96).bind fun x110 =>
     (idx a81 (IntKind.wrap .i64 (a96 - (1 : Int)))).bind fun x111 =>
    J107 ((x110.Name.URI == x111.Name.URI) && ((x110.Name.Local == x111.Name.Local) && true)))
    (J107 false))
   (some (.inl ()))
def CD (p0 : Ao) (p1 : List TP) : Option ((List Aa) × Int) :=
  Ar (fun a37 : List Aa =>
    (A8 a37 C6).bind fun x79 =>
    (some x79).bind fun a81 =>
    (eqL a81 a37).bind fun _ =>
   Ar (fun _ : Unit =>
    some (a81, (0 : Int))) fun J95 =>
    (iter (BH a81) Ay (0 : Int)).bind fun o =>
   match o with
   | .inl o1 => J95 o1
   | .inr o1 => some o1) fun J38 =>
   (iter (Cb p0 p1) Ay (([] : List Aa), (0 : Int))).bind fun o =>
  match o with
  | .inl o1 => J38 o1
  | .inr o1 => some o1
def B3 (p0 : AA) (x78 : (List Aa) × Int) (rec90 : Int → Option (Unit ⊕ (Int × AA))) (a87 : Int) : Option (Unit ⊕ (Int × AA)) :=
  cond (decide (a87 < (x78.1.length : Int)))
   ((idx x78.1 a87).bind fun x93 =>
   cond ((decide ((64 : Int) < (x78.1.length : Int))) || (decide ((8192 : Int) < (x93.Value.length : Int))))
    (some (.inr ((5 : Int), p0)))
    (rec90 (IntKind.wrap .i64 (a87 + (1 : Int)))))
   (some (.inl ()))
def AH (p0 : AA) (p1 : TK) : Option (Int × AA) :=
   (Ar (fun v3 : Bool => cond v3
     (some ((30 : Int), p0))
     (cond (decide ((32 : Int) < (IntKind.wrap .i64 ((p0.open_.length : Int) - (1 : Int)))))
      (some ((31 : Int), p0))
      (Ar (fun v : (List Ai) × Int => match v with
       | (a39, a40) =>
       cond (a40 != (0 : Int))
        (some (a40, p0))
        ((BY (⟨a39⟩ : Ao) p1.Name).bind fun x75 =>
        cond (x75.2 != (0 : Int))
         (some (x75.2, p0))
         ((CD (⟨a39⟩ : Ao) p1.Pairs).bind fun x78 =>
         cond (x78.2 != (0 : Int))
          (some (x78.2, p0))
          (Ar (fun _ : Unit =>
            (app 144 p0.open_ [(⟨(⟨(2 : Int), x75.1, x78.1, ([] : List Ad), ([] : LB)⟩ : Ad), p1.Name, (⟨a39⟩ : Ao)⟩ : Ag)]).bind fun _ =>
           some ((0 : Int), (⟨((⟨(⟨(2 : Int), x75.1, x78.1, ([] : List Ad), ([] : LB)⟩ : Ad), p1.Name, (⟨a39⟩ : Ao)⟩ : Ag) :: p0.open_), (IntKind.wrap .i64 (p0.nodes + (1 : Int))), p0.done⟩ : AA))) fun J86 =>
           (iter (B3 p0 x78) Ay (0 : Int)).bind fun o =>
          match o with
          | .inl o1 => J86 o1
          | .inr o1 => some o1)))) fun J41 =>
       (Jm p0.open_ (IntKind.wrap .i64 ((List.length p0.open_ : Int) - (1 : Int)))).bind fun x42 =>
       (Cm x42.1.in_ p1.Pairs).bind fun x50 =>
      J41 (x50.1.binds, x50.2)))) fun J2 => cond ((p0.open_.length : Int) == (1 : Int)) (J2 p0.done) (J2 false))
def Bn (p0 : AA) : Option (AA) :=
   (Jm p0.open_ (IntKind.wrap .i64 ((List.length p0.open_ : Int) - (1 : Int)))).bind fun x1 =>
   (Jm p0.open_ (IntKind.wrap .i64 ((p0.open_.length : Int) - (1 : Int)))).bind fun x12 =>
   (Jm x12.2 (IntKind.wrap .i64 ((List.length x12.2 : Int) - (1 : Int)))).bind fun x15 =>
   (app 104 x15.1.node.Kids [(⟨(0 : Int), (⟨([] : LB), ([] : LB)⟩ : Ah), ([] : List Aa), ([] : List Ad), ([] : LB)⟩ : Ad)]).bind fun _ =>
   (some (x15.1.node.Kids ++ [x1.1.node])).bind fun a25 =>
   (Ar (fun v28 : Bool => some (⟨((⟨(⟨x15.1.node.Kind, x15.1.node.Name, x15.1.node.Attrs, a25, x15.1.node.Text⟩ : Ad), x15.1.raw, x15.1.in_⟩ : Ag) :: x15.2), p0.nodes, v28⟩ : AA)) fun J27 => cond p0.done (J27 true) (J27 ((x12.2.length : Int) == (1 : Int))))
def Aw (p0 : AA) (p1 : TK) : Option (Int × AA) :=
  cond (p1.Kind == (7 : Int))
   ((Ba p0 (⟨(4 : Int), (⟨([] : LB), ([] : LB)⟩ : Ah), ([] : List Aa), ([] : List Ad), p1.Text⟩ : Ad)).bind fun x2 =>
    (Ar (fun v7 : Bool => cond v7
      (some ((5 : Int), x2.2))
      (some (x2.1, x2.2))) fun J6 => cond (x2.1 == (0 : Int)) (J6 (decide ((2000 : Int) < x2.2.nodes))) (J6 false)))
   (cond (p1.Kind == (8 : Int))
    ((Ba p0 (⟨(5 : Int), (⟨([] : LB), p1.Name⟩ : Ah), ([] : List Aa), ([] : List Ad), p1.Text⟩ : Ad)).bind fun x10 =>
     (Ar (fun v15 : Bool => cond v15
       (some ((5 : Int), x10.2))
       (some (x10.1, x10.2))) fun J14 => cond (x10.1 == (0 : Int)) (J14 (decide ((2000 : Int) < x10.2.nodes))) (J14 false)))
    (cond (p1.Kind == (5 : Int))
     ((AQ p0 p1).bind fun x18 =>
      (Ar (fun v23 : Bool => cond v23
        (some ((5 : Int), x18.2))
        (some (x18.1, x18.2))) fun J22 => cond (x18.1 == (0 : Int)) (J22 (decide ((2000 : Int) < x18.2.nodes))) (J22 false)))
     (cond (p1.Kind == (6 : Int))
      ((AQ p0 p1).bind fun x26 =>
       (Ar (fun v31 : Bool => cond v31
         (some ((5 : Int), x26.2))
         (some (x26.1, x26.2))) fun J30 => cond (x26.1 == (0 : Int)) (J30 (decide ((2000 : Int) < x26.2.nodes))) (J30 false)))
      (cond (p1.Kind == (2 : Int))
       ((AH p0 p1).bind fun x34 =>
        (Ar (fun v39 : Bool => cond v39
          (some ((5 : Int), x34.2))
          (some (x34.1, x34.2))) fun J38 => cond (x34.1 == (0 : Int)) (J38 (decide ((2000 : Int) < x34.2.nodes))) (J38 false)))
       (cond (p1.Kind == (4 : Int))
        ((AH p0 p1).bind fun x42 =>
        cond (x42.1 == (0 : Int))
         ((Bn x42.2).bind fun x46 =>
         cond (decide ((2000 : Int) < x46.nodes))
          (some ((5 : Int), x46))
          (some (x42.1, x46)))
         (some (x42.1, x42.2)))
        (cond (p1.Kind == (3 : Int))
         (cond ((p0.open_.length : Int) == (1 : Int))
          (some ((26 : Int), p0))
          ((Jm p0.open_ (IntKind.wrap .i64 ((List.length p0.open_ : Int) - (1 : Int)))).bind fun x53 =>
          cond (!(x53.1.raw == p1.Name))
           (some ((26 : Int), p0))
           ((Bn p0).bind fun x66 =>
            (Ar (fun v71 : Bool => cond v71
              (some ((5 : Int), x66))
              (some ((0 : Int), x66))) fun J70 => cond ((0 : Int) == (0 : Int)) (J70 (decide ((2000 : Int) < x66.nodes))) (J70 false)))))
         ((Ar (fun v75 : Bool => cond v75
            (some ((5 : Int), p0))
            (some ((0 : Int), p0))) fun J74 => cond ((0 : Int) == (0 : Int)) (J74 (decide ((2000 : Int) < p0.nodes))) (J74 false)))))))))
def DJ (x2 : (List TK) × Int × Int) (rec60 : Int × LB × LB × (List Aa) × (List Ad) × LB × (List Ag) × Int × Bool × Int → Option ((Int × LB × LB × (List Aa) × (List Ad) × LB × (List Ag) × Int × Bool) ⊕ (Ad × Int × Int))) : Int × LB × LB × (List Aa) × (List Ad) × LB × (List Ag) × Int × Bool × Int → Option ((Int × LB × LB × (List Aa) × (List Ad) × LB × (List Ag) × Int × Bool) ⊕ (Ad × Int × Int))
  | (a44, a45, a46, a47, a48, a49, a51, a55, a56, a57) =>
  cond (decide (a57 < (x2.1.length : Int)))
   ((idx x2.1 a57).bind fun x63 =>
    (Aw (⟨a51, a55, a56⟩ : AA) x63).bind fun x65 =>
   cond (x65.1 != (0 : Int))
    (some (.inr ((⟨(0 : Int), (⟨([] : LB), ([] : LB)⟩ : Ah), ([] : List Aa), ([] : List Ad), ([] : LB)⟩ : Ad), x63.At, x65.1)))
    (rec60 (a44, a45, a46, a47, a48, a49, x65.2.open_, x65.2.nodes, x65.2.done, (IntKind.wrap .i64 (a57 + (1 : Int))))))
   (some (.inl (a44, a45, a46, a47, a48, a49, a51, a55, a56)))
def Ci (p0 : LB) : Option (Ad × Int × Int) :=
   (DH p0).bind fun x2 =>
  cond (x2.2.2 != (0 : Int))
   (some ((⟨(0 : Int), (⟨([] : LB), ([] : LB)⟩ : Ah), ([] : List Aa), ([] : List Ad), ([] : LB)⟩ : Ad), x2.2.1, x2.2.2))
   ((Im ).bind fun x4 =>
   Ar (fun v : Int × LB × LB × (List Aa) × (List Ad) × LB × (List Ag) × Int × Bool => match v with
    | (a30, a31, a32, a33, a34, a35, a37, a41, a42) =>
    cond (decide ((1 : Int) < (a37.length : Int)))
     ((CA p0).bind fun x70 =>
     some ((⟨(0 : Int), (⟨([] : LB), ([] : LB)⟩ : Ah), ([] : List Aa), ([] : List Ad), ([] : LB)⟩ : Ad), (x70.length : Int), (26 : Int)))
     (cond (!a42)
      ((CA p0).bind fun x72 =>
      some ((⟨(0 : Int), (⟨([] : LB), ([] : LB)⟩ : Ah), ([] : List Aa), ([] : List Ad), ([] : LB)⟩ : Ad), (x72.length : Int), (30 : Int)))
      ((Jm a37 (0 : Int)).bind fun x73 =>
      some (x73.1.node, (0 : Int), (0 : Int))))) fun J43 =>
    (iter (DJ x2) Ay ((0 : Int), ([] : LB), ([] : LB), ([] : List Aa), ([] : List Ad), ([] : LB), [(⟨(⟨(1 : Int), (⟨([] : LB), ([] : LB)⟩ : Ah), ([] : List Aa), ([] : List Ad), ([] : LB)⟩ : Ad), ([] : LB), x4⟩ : Ag)], (0 : Int), false, (0 : Int))).bind fun o =>
   match o with
   | .inl o1 => J43 o1
   | .inr o1 => some o1)
def EE : Option (Bool) :=
   (Ci ([60, 97, 32, 120, 109, 108, 110, 115, 61, 39, 117, 39, 32, 98, 61, 39, 49, 39, 62, 120, 60, 33, 91, 67, 68, 65, 84, 65, 91, 60, 93, 93, 62, 38, 97, 109, 112, 59, 60, 47, 97, 62] : LB)).bind fun x3 =>
   (Ci ([60, 97, 62, 60, 47, 98, 62] : LB)).bind fun x7 =>
   (Ar (fun v14 : Bool => (Ar (fun v18 : Bool => (Ar (fun v22 : Bool => some v22) fun J21 => cond v18 ((idx x3.1.Kids (0 : Int)).bind fun x23 =>
         (idx x23.Kids (0 : Int)).bind fun x24 =>
        J21 (x24.Text == ([120, 60, 38] : LB))) (J21 false))) fun J17 => cond v14 ((idx x3.1.Kids (0 : Int)).bind fun x19 =>
      J17 ((x19.Kids.length : Int) == (1 : Int))) (J17 false))) fun J13 => cond ((((x3.2.2 == (0 : Int)) && (x7.2.2 == (26 : Int))) && (x7.2.1 == (3 : Int))) && ((x3.1.Kids.length : Int) == (1 : Int))) ((idx x3.1.Kids (0 : Int)).bind fun x15 =>
    J13 ((x15.Name.URI == (⟨([117] : LB), ([97] : LB)⟩ : Ah).URI) && ((x15.Name.Local == (⟨([117] : LB), ([97] : LB)⟩ : Ah).Local) && true))) (J13 false))
def CL (p0 : List Aa) (p1 : List Aa) (rec11 : Int → Option (Unit ⊕ Bool)) (a8 : Int) : Option (Unit ⊕ Bool) :=
  cond (decide (a8 < (p0.length : Int)))
   ((idx p0 a8).bind fun x14 =>
    (idx p1 a8).bind fun x15 =>
   cond (!(((x14.Name.URI == x15.Name.URI) && ((x14.Name.Local == x15.Name.Local) && true)) && ((x14.Value == x15.Value) && true)))
    (some (.inr false))
    (rec11 (IntKind.wrap .i64 (a8 + (1 : Int)))))
   (some (.inl ()))
def Ck (p0 : List Aa) (p1 : List Aa) : Option (Bool) :=
  cond ((p0.length : Int) != (p1.length : Int))
   (some false)
   (Ar (fun _ : Unit =>
    some true) fun J7 =>
    (iter (CL p0 p1) Ay (0 : Int)).bind fun o =>
   match o with
   | .inl o1 => J7 o1
   | .inr o1 => some o1)
def Dp (p0 : Ad) (p1 : Ad) (rec0 : Ad × Ad → Option (Bool)) (rec19 : Int → Option (Unit ⊕ Bool)) (a16 : Int) : Option (Unit ⊕ Bool) :=
  cond (decide (a16 < (p0.Kids.length : Int)))
   ((idx p0.Kids a16).bind fun x22 =>
    (idx p1.Kids a16).bind fun x23 =>
    (rec0 (x22, x23)).bind fun x24 =>
   cond (!x24)
    (some (.inr false))
    (rec19 (IntKind.wrap .i64 (a16 + (1 : Int)))))
   (some (.inl ()))
def BP (rec0 : Ad × Ad → Option (Bool)) : Ad × Ad → Option (Bool)
  | (p0, p1) =>
   (Ar (fun v5 : Bool => cond (v5 || ((p0.Kids.length : Int) != (p1.Kids.length : Int)))
     (some false)
     (Ar (fun _ : Unit =>
      some true) fun J15 =>
      (iter (Dp p0 p1 rec0) Ay (0 : Int)).bind fun o =>
     match o with
     | .inl o1 => J15 o1
     | .inr o1 => some o1)) fun J4 => cond (((p0.Kind != p1.Kind) || (!((p0.Name.URI == p1.Name.URI) && ((p0.Name.Local == p1.Name.Local) && true)))) || (!(p0.Text == p1.Text))) (J4 true) ((Ck p0.Attrs p1.Attrs).bind fun x6 =>
    J4 (!x6)))
def C0 (p0 : Ad) (p1 : Ad) : Option (Bool) := iter BP Ay (p0, p1)
def FU (p0 : Ad) (rec0 : Ad × (List Ad) → Option ((List Ad))) (rec19 : (List Ad) × Int → Option (((List Ad)))) : (List Ad) × Int → Option (((List Ad)))
  | (a14, a16) =>
  cond (decide (a16 < (p0.Kids.length : Int)))
   ((idx p0.Kids a16).bind fun x22 =>
    (rec0 (x22, a14)).bind fun x24 =>
   rec19 (x24, (IntKind.wrap .i64 (a16 + (1 : Int)))))
   (some a14)
def Dn (rec0 : Ad × (List Ad) → Option ((List Ad))) : Ad × (List Ad) → Option ((List Ad))
  | (p0, p1) =>
   (app 104 p1 [p0]).bind fun _ =>
  Ar (fun a11 : List Ad =>
   some a11) fun J13 =>
   (iter (FU p0 rec0) Ay ((p1 ++ [p0]), (0 : Int))).bind fun o =>
  J13 o
def Gu (p0 : Ad) (p1 : List Ad) : Option ((List Ad)) := iter Dn Ay (p0, p1)
def BE (p0 : List Ad) (p1 : Ad → Option Bool) (rec10 : Int → Option (Unit ⊕ Int)) (a7 : Int) : Option (Unit ⊕ Int) :=
  cond (decide (a7 < (p0.length : Int)))
   ((idx p0 a7).bind fun x13 =>
    (p1 x13).bind fun x14 =>
   cond x14
    (some (.inr a7))
    (rec10 (IntKind.wrap .i64 (a7 + (1 : Int)))))
   (some (.inl ()))
def Bt (p0 : List Ad) (p1 : Ad → Option Bool) : Option (Int) :=
  Ar (fun _ : Unit =>
   some (-1 : Int)) fun J6 =>
   (iter (BE p0 p1) Ay (0 : Int)).bind fun o =>
  match o with
  | .inl o1 => J6 o1
  | .inr o1 => some o1
def An (p0 : List Ad) (p1 : Ad → Option Bool) : Option (Bool) :=
   (Bt p0 p1).bind fun x1 =>
  some (decide ((0 : Int) ≤ x1))
def H9 (p0 : Int) (p1 : Int) : Option (Bool) :=
  cond (p0 == (1 : Int))
   (some (((p1 == (2 : Int)) || (p1 == (4 : Int))) || (p1 == (5 : Int))))
   (cond (p0 == (2 : Int))
    (some ((decide ((2 : Int) ≤ p1)) && (decide (p1 ≤ (5 : Int)))))
    (some false))
def GN (p0 : Ad) (p1 : Ad) : Option (Bool) :=
   (H9 p1.Kind p0.Kind).bind fun x1 =>
  some (!x1)
def He (p0 : Ad) : Option (Bool) :=
  Ar (fun a9 : Bool =>
    (Ar (fun v20 : Bool => some v20) fun J19 => cond a9 (J19 true) ((An p0.Kids (fun z0 => GN z0 p0)).bind fun x21 =>
     J19 x21))) fun J10 =>
  cond (p0.Kind == (1 : Int))
   (J10 ((((p0.Kind != (2 : Int)) && (decide ((0 : Int) < (p0.Attrs.length : Int)))) || (!((p0.Name.URI == (⟨([] : LB), ([] : LB)⟩ : Ah).URI) && ((p0.Name.Local == (⟨([] : LB), ([] : LB)⟩ : Ah).Local) && true)))) || (!(p0.Text == ([] : LB)))))
   (cond (p0.Kind == (2 : Int))
    (J10 (!(p0.Text == ([] : LB))))
    (cond (p0.Kind == (5 : Int))
     (J10 (((p0.Kind != (2 : Int)) && (decide ((0 : Int) < (p0.Attrs.length : Int)))) || (!(p0.Name.URI == ([] : LB)))))
     (J10 (((p0.Kind != (2 : Int)) && (decide ((0 : Int) < (p0.Attrs.length : Int)))) || (!((p0.Name.URI == (⟨([] : LB), ([] : LB)⟩ : Ah).URI) && ((p0.Name.Local == (⟨([] : LB), ([] : LB)⟩ : Ah).Local) && true)))))))
def Gb (rec0 : Ad × Int → Option Bool) (p0 : Ad) (p1 : Int) : Option (Bool) :=
   (rec0 (p0, p1)).bind fun x1 =>
  some x1
def DM (rec0 : Ad × Int → Option (Bool)) : Ad × Int → Option (Bool)
  | (p0, p1) =>
  Ar (fun a4 : Int =>
    (An p0.Kids (fun z0 => Gb rec0 z0 a4)).bind fun x10 =>
   some x10) fun J5 =>
  cond (p0.Kind == (2 : Int))
   (cond (decide ((32 : Int) < p1))
    (some true)
    (J5 (IntKind.wrap .i64 (p1 + (1 : Int)))))
   (J5 p1)
def Iq (p0 : Ad) (p1 : Int) : Option (Bool) := iter DM Ay (p0, p1)
def GR (p0 : Aa) : Option (Bool) :=
  some (decide ((8192 : Int) < (p0.Value.length : Int)))
def BF (p0 : List Aa) (p1 : Aa → Option Bool) (rec10 : Int → Option (Unit ⊕ Int)) (a7 : Int) : Option (Unit ⊕ Int) :=
  cond (decide (a7 < (p0.length : Int)))
   ((idx p0 a7).bind fun x13 =>
    (p1 x13).bind fun x14 =>
   cond x14
    (some (.inr a7))
    (rec10 (IntKind.wrap .i64 (a7 + (1 : Int)))))
   (some (.inl ()))
def Bs (p0 : List Aa) (p1 : Aa → Option Bool) : Option (Int) :=
  Ar (fun _ : Unit =>
   some (-1 : Int)) fun J6 =>
   (iter (BF p0 p1) Ay (0 : Int)).bind fun o =>
  match o with
  | .inl o1 => J6 o1
  | .inr o1 => some o1
def AE (p0 : List Aa) (p1 : Aa → Option Bool) : Option (Bool) :=
   (Bs p0 p1).bind fun x1 =>
  some (decide ((0 : Int) ≤ x1))
def F1 (p0 : Ad) : Option (Bool) :=
   (Ar (fun v4 : Bool => some v4) fun J3 => cond ((decide ((64 : Int) < (p0.Attrs.length : Int))) || (decide ((8192 : Int) < (p0.Text.length : Int)))) (J3 true) ((AE p0.Attrs GR).bind fun x5 =>
    J3 x5))
def Gi (p0 : LB) : Option (Bool) :=
   (DL p0).bind fun x1 =>
  some (x1.2 != (0 : Int))
def Ek (p0 : Ah) : Option (Bool) :=
   (Ee p0.Local).bind fun x1 =>
   (Ar (fun v5 : Bool => some (v5 || (p0.URI == ([104, 116, 116, 112, 58, 47, 47, 119, 119, 119, 46, 119, 51, 46, 111, 114, 103, 47, 50, 48, 48, 48, 47, 120, 109, 108, 110, 115, 47] : LB)))) fun J4 => cond ((!x1) || (decide ((100 : Int) < (p0.URI.length : Int)))) (J4 true) ((Gi p0.URI).bind fun x6 =>
    J4 x6))
def Ft (p0 : Aa) : Option (Bool) :=
   (Ek p0.Name).bind fun x1 =>
  some (x1 || ((p0.Name.URI == (⟨([] : LB), ([120, 109, 108, 110, 115] : LB)⟩ : Ah).URI) && ((p0.Name.Local == (⟨([] : LB), ([120, 109, 108, 110, 115] : LB)⟩ : Ah).Local) && true)))
def EA (p0 : Ad) : Option (Bool) :=
  cond (p0.Kind == (2 : Int))
   ((Ek p0.Name).bind fun x2 =>
    (Ar (fun v5 : Bool => some v5) fun J4 => cond x2 (J4 true) ((AE p0.Attrs Ft).bind fun x6 =>
     J4 x6)))
   (cond (p0.Kind == (5 : Int))
    ((Ee p0.Name.Local).bind fun x8 =>
     (Ar (fun v11 : Bool => some v11) fun J10 => cond (!x8) (J10 true) ((AZ p0.Name.Local ([120, 109, 108] : LB)).bind fun x12 =>
      J10 x12)))
    (some false))
def Ge (p0 : Aa) : Option (Bool) :=
   (Gi p0.Value).bind fun x1 =>
  some x1
def Fi (p0 : Ad) : Option (Bool) :=
   (Gi p0.Text).bind fun x1 =>
   (Ar (fun v4 : Bool => some v4) fun J3 => cond x1 (J3 true) ((AE p0.Attrs Ge).bind fun x5 =>
    J3 x5))
def FW (p0 : Ah) (p1 : Ah) : Option (Int) :=
   (Cu p0.URI p1.URI).bind fun x1 =>
   (Cu p0.Local p1.Local).bind fun x2 =>
   (FZ ([x1, x2])).bind fun x3 =>
  some x3
def D8 (p0 : Ad) (rec19 : Int → Option (Unit ⊕ Bool)) (a16 : Int) : Option (Unit ⊕ Bool) :=
  cond (decide (a16 < (p0.Attrs.length : Int)))
   (Ar (fun a27 : Bool =>
    cond a27
     (some (.inr true))
     (rec19 (IntKind.wrap .i64 (a16 + (1 : Int))))) fun J28 =>
   cond (decide ((0 : Int) < a16))
    ((idx p0.Attrs (IntKind.wrap .i64 (a16 - (1 : Int)))).bind fun x31 =>
     (idx p0.Attrs a16).bind fun x32 =>
     (FW x31.Name x32.Name).bind fun x33 =>
    J28 (decide ((0 : Int) ≤ x33)))
    (J28 false))
   (some (.inl ()))
def Em (p0 : Ad) : Option (Bool) :=
  Ar (fun _ : Unit =>
   some false) fun J15 =>
   (iter (D8 p0) Ay (0 : Int)).bind fun o =>
  match o with
  | .inl o1 => J15 o1
  | .inr o1 => some o1
def D0 (p0 : LB) (p1 : LB) : Option (Bool) :=
   (Ar (fun v3 : Bool => some v3) fun J2 => cond (decide ((p1.length : Int) ≤ (p0.length : Int))) ((slc p0 (IntKind.wrap .i64 ((p0.length : Int) - (p1.length : Int))) (p0.length : Int)).bind fun x4 =>
    J2 (x4 == p1)) (J2 false))
def D6 (p0 : LB) (p1 : LB) : Option (Bool) :=
   (D0 p0 p1).bind fun x1 =>
  some x1
def D5 (p0 : Ad) (rec15 : Int → Option (Unit ⊕ Bool)) (a12 : Int) : Option (Unit ⊕ Bool) :=
  cond (decide (a12 < (p0.Kids.length : Int)))
   ((idx p0.Kids a12).bind fun x18 =>
    (Ar (fun v23 : Bool => cond v23
      (some (.inr true))
      (rec15 (IntKind.wrap .i64 (a12 + (1 : Int))))) fun J22 => cond ((decide ((0 : Int) < a12)) && (x18.Kind == (3 : Int))) ((idx p0.Kids (IntKind.wrap .i64 (a12 - (1 : Int)))).bind fun x24 =>
     J22 (x24.Kind == (3 : Int))) (J22 false)))
   (some (.inl ()))
def El (p0 : Ad) : Option (Bool) :=
  Ar (fun _ : Unit =>
   cond (p0.Kind == (3 : Int))
    (some (p0.Text == ([] : LB)))
    (cond (p0.Kind == (4 : Int))
     ((E3 p0.Text ([45, 45] : LB)).bind fun x28 =>
      (Ar (fun v31 : Bool => (Ar (fun v35 : Bool => some v35) fun J34 => cond v31 (J34 true) ((E3 p0.Text ([13] : LB)).bind fun x36 =>
         J34 x36))) fun J30 => cond x28 (J30 true) ((D6 p0.Text ([45] : LB)).bind fun x32 =>
       J30 x32)))
     (cond (p0.Kind == (5 : Int))
      (Ar (fun a45 : Bool =>
       some a45) fun J46 =>
       (E3 p0.Text ([63, 62] : LB)).bind fun x47 =>
      cond x47
       (J46 true)
       ((E3 p0.Text ([13] : LB)).bind fun x50 =>
       cond x50
        (J46 true)
        ((G3 p0.Text ([32, 9, 10] : LB)).bind fun x53 =>
        J46 (!(p0.Text == x53)))))
      (some false)))) fun J11 =>
   (iter (D5 p0) Ay (0 : Int)).bind fun o =>
  match o with
  | .inl o1 => J11 o1
  | .inr o1 => some o1
def Ff (p0 : Ad) (rec40 : Int × Int → Option (Int)) : Int × Int → Option (Int)
  | (a36, a37) =>
  cond (decide (a37 < (p0.Kids.length : Int)))
   (Ar (fun a46 : Int =>
    rec40 (a46, (IntKind.wrap .i64 (a37 + (1 : Int))))) fun J47 =>
    (idx p0.Kids a37).bind fun x48 =>
   cond (x48.Kind == (2 : Int))
    (J47 (IntKind.wrap .i64 (a36 + (1 : Int))))
    (J47 a36))
   (some a36)
def F2 (p0 : Ad) : Option (Int) :=
   (Gu p0 ([] : List Ad)).bind fun x1 =>
   (Ar (fun v6 : Bool => cond v6
     (some (33 : Int))
     ((Iq p0 (0 : Int)).bind fun x9 =>
     cond x9
      (some (31 : Int))
      ((Ar (fun v13 : Bool => cond v13
         (some (5 : Int))
         ((An x1 EA).bind fun x16 =>
         cond x16
          (some (24 : Int))
          ((An x1 Fi).bind fun x18 =>
          cond x18
           (some (21 : Int))
           ((An x1 Em).bind fun x20 =>
           cond x20
            (some (34 : Int))
            ((An x1 El).bind fun x22 =>
            cond x22
             (some (32 : Int))
             (Ar (fun a34 : Int =>
              cond (a34 != (1 : Int))
               (some (30 : Int))
               (some (0 : Int))) fun J35 =>
              (iter (Ff p0) Ay ((0 : Int), (0 : Int))).bind fun o =>
             J35 o)))))) fun J12 => cond (decide ((2000 : Int) < (IntKind.wrap .i64 ((x1.length : Int) - (1 : Int))))) (J12 true) ((An x1 F1).bind fun x14 =>
        J12 x14))))) fun J5 => cond (p0.Kind != (1 : Int)) (J5 true) ((An x1 He).bind fun x7 =>
    J5 x7))
def DC (p0 : LB) : Option (Bool) :=
   (EE ).bind fun x1 =>
  cond (!x1)
   (some false)
   ((Ci p0).bind fun x3 =>
    (Ar (fun v7 : Bool => (Ar (fun v11 : Bool => some v11) fun J10 => cond v7 (J10 true) ((Ar (fun v14 : Bool => J10 v14) fun J13 => cond (x3.2.2 == (0 : Int)) ((F2 x3.1).bind fun x15 =>
         J13 (x15 == (0 : Int))) (J13 false))))) fun J6 => cond (x3.2.2 != (0 : Int)) ((C0 x3.1 (⟨(0 : Int), (⟨([] : LB), ([] : LB)⟩ : Ah), ([] : List Aa), ([] : List Ad), ([] : LB)⟩ : Ad)).bind fun x8 =>
     J6 x8) (J6 false)))
def Dk (p0 : LB) (rec44 : LB × Int → Option ((LB))) : LB × Int → Option ((LB))
  | (a39, a41) =>
  cond (decide (a41 < (p0.length : Int)))
   (Ar (fun a61 : LB =>
    rec44 (a61, (IntKind.wrap .i64 (a41 + (1 : Int))))) fun J63 =>
    (idx p0 a41).bind fun x64 =>
   cond ((x64.toNat : Int) == (13 : Int))
    ((u8 (10 : Int)).bind fun b66 =>
     (app 1 a39 [b66]).bind fun _ =>
    J63 (a39 ++ [b66]))
    ((idx p0 a41).bind fun x68 =>
     (Ar (fun v72 : Bool => cond v72
       ((idx p0 a41).bind fun x75 =>
        (u8 (x75.toNat : Int)).bind fun b76 =>
        (app 1 a39 [b76]).bind fun _ =>
       J63 (a39 ++ [b76]))
       (J63 a39)) fun J71 => cond (((x68.toNat : Int) != (10 : Int)) || (a41 == (0 : Int))) (J71 true) ((idx p0 (IntKind.wrap .i64 (a41 - (1 : Int)))).bind fun x73 =>
      J71 ((x73.toNat : Int) != (13 : Int))))))
   (some a39)
def Cc (p0 : LB) : Option (LB) :=
  Ar (fun a36 : LB =>
   some a36) fun J38 =>
   (iter (Dk p0) Ay (([] : LB), (0 : Int))).bind fun o =>
  J38 o
def BQ (p0 : LB) : Option (LB) :=
  Ar (fun a15 : LB =>
    (Cc a15).bind fun x31 =>
   some x31) fun J16 =>
   (Ar (fun v19 : Bool => (Ar (fun v23 : Bool => (Ar (fun v27 : Bool => cond v27
         ((slc p0 (3 : Int) (p0.length : Int)).bind fun x30 =>
         J16 x30)
         (J16 p0)) fun J26 => cond v23 ((idx p0 (2 : Int)).bind fun x28 =>
        J26 ((x28.toNat : Int) == (191 : Int))) (J26 false))) fun J22 => cond v19 ((idx p0 (1 : Int)).bind fun x24 =>
      J22 ((x24.toNat : Int) == (187 : Int))) (J22 false))) fun J18 => cond (decide ((3 : Int) ≤ (p0.length : Int))) ((idx p0 (0 : Int)).bind fun x20 =>
    J18 ((x20.toNat : Int) == (239 : Int))) (J18 false))
end Go.Proofs.YtilhbalhkljanaaGreatDoor
