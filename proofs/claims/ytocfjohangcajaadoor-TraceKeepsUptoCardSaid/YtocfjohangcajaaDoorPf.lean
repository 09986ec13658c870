/- The plain functions. No condition. -/
import Derived.Test.YtocfjohangcajaaDoorEng30
import Derived.Test.YtocfjohangcajaaDoorLg10
set_option linter.unusedVariables false
set_option linter.unusedSimpArgs false
set_option maxRecDepth 20000
set_option maxHeartbeats 8000000
namespace Go.Proofs.YtocfjohangcajaaDoor
structure T_trace_Stroke where
  Spots : List (Nat × Nat)
  Closed : Bool
  deriving DecidableEq, Inhabited
def c_T_trace_Stroke (x : T_trace_Stroke) : List D := [.sl 1 (List.map c_cplx x.Spots) 0, .bool x.Closed]
structure T_trace_reader where
  s : List UInt8
  at_ : Int
  f : List T_trace_Stroke
  pen : Nat × Nat
  n : Int
  open_ : Bool
  deriving DecidableEq, Inhabited
def c_T_trace_reader (x : T_trace_reader) : List D := [.str x.s, .int .i64 x.at_, .sl 2 (List.map c_T_trace_Stroke x.f) 0, .cplx .f64 x.pen.1 x.pen.2, .int .i64 x.n, .bool x.open_]
structure T_lecternref10_Spot where
  X : Int
  Y : Int
  deriving DecidableEq, Inhabited
def c_T_lecternref10_Spot (x : T_lecternref10_Spot) : List D := [.int .i64 x.X, .int .i64 x.Y]
structure T_lecternref10_Stroke where
  Spots : List T_lecternref10_Spot
  Closed : Bool
  deriving DecidableEq, Inhabited
def c_T_lecternref10_Stroke (x : T_lecternref10_Stroke) : List D := [.sl 2 (List.map c_T_lecternref10_Spot x.Spots) 0, .bool x.Closed]
structure T_lecternlaw10_Line where
  Parts : List Int
  Closed : Bool
  deriving DecidableEq, Inhabited
def c_T_lecternlaw10_Line (x : T_lecternlaw10_Line) : List D := [.sl 1 (List.map c_i64 x.Parts) 0, .bool x.Closed]
def cR_T_trace_Stroke : T_trace_Stroke × Option Nat → List D
  | (x, some r) => [.sl 1 (List.map c_cplx x.Spots) r, .bool x.Closed]
  | (x, none) => [.snil, .bool x.Closed]
theorem cR_T_trace_Stroke_len : ∀ a, (cR_T_trace_Stroke a).length = 2
  | (_, some _) => rfl
  | (_, none) => rfl
theorem cR_T_trace_Stroke_w (r : Nat) (a : T_trace_Stroke) : WdC (cR_T_trace_Stroke (a, some r)) (cR_T_trace_Stroke (a, some 0)) := .cons (.zero _ _ _) (.cons (.refl _) (.nil))
def cR_T_lecternref10_Stroke : T_lecternref10_Stroke × Option Nat → List D
  | (x, some r) => [.sl 2 (List.map c_T_lecternref10_Spot x.Spots) r, .bool x.Closed]
  | (x, none) => [.snil, .bool x.Closed]
theorem cR_T_lecternref10_Stroke_len : ∀ a, (cR_T_lecternref10_Stroke a).length = 2
  | (_, some _) => rfl
  | (_, none) => rfl
theorem cR_T_lecternref10_Stroke_w (r : Nat) (a : T_lecternref10_Stroke) : WdC (cR_T_lecternref10_Stroke (a, some r)) (cR_T_lecternref10_Stroke (a, some 0)) := .cons (.zero _ _ _) (.cons (.refl _) (.nil))

def F_trace_reader_look_l0 (p0 : T_trace_reader) (rec13 : Int → Option (Int)) (a10 : Int) : Option (Int) :=
   (letJ (fun v17 : Bool => cond v17
     (rec13 (IntKind.wrap .i64 (a10 + (1 : Int))))
     (some a10)) fun J16 => cond (decide (a10 < (p0.s.length : Int))) ((idx p0.s a10).bind fun x18 =>
     (L_IndexByte ([32, 44, 9, 10, 13] : List UInt8) (x18.toNat : Int)).bind fun x19 =>
    J16 (decide ((0 : Int) ≤ x19))) (J16 false))
def F_trace_reader_look_l1 (p0 : T_trace_reader) (rec54 : Int → Option (Int)) (a51 : Int) : Option (Int) :=
   (letJ (fun v58 : Bool => (letJ (fun v62 : Bool => cond v62
       (rec54 (IntKind.wrap .i64 (a51 + (1 : Int))))
       (some a51)) fun J61 => cond v58 ((idx p0.s a51).bind fun x63 =>
      J61 (decide ((x63.toNat : Int) ≤ (57 : Int)))) (J61 false))) fun J57 => cond (decide (a51 < (p0.s.length : Int))) ((idx p0.s a51).bind fun x59 =>
    J57 (decide ((48 : Int) ≤ (x59.toNat : Int)))) (J57 false))
/-- (*lectern/trace.reader).look -/
def F_trace_reader_look (p0 : T_trace_reader) : Option (Int × Int × Int) :=
  letJ (fun a8 : Int =>
   cond (a8 == (p0.s.length : Int))
    (some ((0 : Int), a8, a8))
    ((idx p0.s a8).bind fun x22 =>
     (L_IndexByte ([77, 109, 76, 108, 72, 104, 86, 118, 90, 122] : List UInt8) (x22.toNat : Int)).bind fun x23 =>
    cond (decide ((0 : Int) ≤ x23))
     (some ((1 : Int), a8, (IntKind.wrap .i64 (a8 + (1 : Int)))))
     (letJ (fun a31 : Int =>
      letJ (fun a49 : Int =>
       cond ((a49 == a31) || (decide ((IntKind.wrap .i64 (a31 + (7 : Int))) < a49)))
        (some ((3 : Int), a8, a8))
        (some ((2 : Int), a8, a49))) fun J50 =>
       (iter (F_trace_reader_look_l1 p0) FUEL a31).bind fun o =>
      J50 o) fun J32 =>
      (idx p0.s a8).bind fun x33 =>
      (letJ (fun v36 : Bool => cond v36
        (J32 (IntKind.wrap .i64 (a8 + (1 : Int))))
        (J32 a8)) fun J35 => cond ((x33.toNat : Int) == (45 : Int)) (J35 true) ((idx p0.s a8).bind fun x37 =>
       J35 ((x37.toNat : Int) == (43 : Int))))))) fun J9 =>
   (iter (F_trace_reader_look_l0 p0) FUEL p0.at_).bind fun o =>
  J9 o
/-- (*lectern/trace.reader).number -/
def F_trace_reader_number (p0 : T_trace_reader) : Option ((Nat × Int × Bool) × T_trace_reader) :=
   (F_trace_reader_look p0).bind fun x1 =>
  cond (x1.1 != (2 : Int))
   (some (((0 : Nat), x1.2.1, false), p0))
   ((slc p0.s x1.2.1 x1.2.2).bind fun x3 =>
    (L_Atoi x3).bind fun x4 =>
   some (((i2f x4.1), x1.2.1, true), (⟨p0.s, x1.2.2, p0.f, p0.pen, p0.n, p0.open_⟩ : T_trace_reader)))
/-- (*lectern/trace.reader).spot -/
def F_trace_reader_spot (p0 : T_trace_reader) (p1 : Int) : Option (((Nat × Nat) × Int × Bool) × T_trace_reader) :=
   (F_trace_reader_number p0).bind fun x1 =>
  cond (!x1.1.2.2)
   (some ((((0, 0) : Nat × Nat), x1.1.2.1, false), x1.2))
   (cond (p1 == (72 : Int))
    (some ((((x1.1.1, x1.2.pen.2) : Nat × Nat), x1.1.2.1, true), x1.2))
    (cond (p1 == (86 : Int))
     (some ((((x1.2.pen.1, x1.1.1) : Nat × Nat), x1.1.2.1, true), x1.2))
     (cond (p1 == (118 : Int))
      ((cadd x1.2.pen (((0 : Nat), x1.1.1) : Nat × Nat)).bind fun x8 =>
      some ((x8, x1.1.2.1, true), x1.2))
      (cond (p1 == (104 : Int))
       ((cadd x1.2.pen ((x1.1.1, (0 : Nat)) : Nat × Nat)).bind fun x10 =>
       some ((x10, x1.1.2.1, true), x1.2))
       ((F_trace_reader_number x1.2).bind fun x11 =>
       cond (!x11.1.2.2)
        (some ((((0, 0) : Nat × Nat), (IntKind.wrap .i64 ((-1 : Int) - x11.1.2.1)), false), x11.2))
        ((cadd ((x1.1.1, (0 : Nat)) : Nat × Nat) (((0 : Nat), x11.1.1) : Nat × Nat)).bind fun x15 =>
        letJ (fun a19 : Nat × Nat =>
         some ((a19, x11.1.2.1, true), x11.2)) fun J20 =>
        cond ((p1 == (109 : Int)) || (p1 == (108 : Int)))
         ((cadd x15 x11.2.pen).bind fun x23 =>
         J20 x23)
         (J20 x15)))))))
/-- math.Trunc -/
def F_math_Trunc (p0 : Nat) : Option (Nat) :=
   (L_archTrunc p0).bind fun x1 =>
  some x1
/-- math.Abs -/
def F_math_Abs (p0 : Nat) : Option (Nat) :=
   (L_bits p0).bind fun x1 =>
   (L_frombits (iandNot .u64 x1 (9223372036854775808 : Int))).bind fun x2 =>
  some x2
/-- lectern/trace.part -/
def F_trace_part (p0 : Nat) : Option (Bool) :=
   (F_math_Trunc p0).bind fun x1 =>
   (letJ (fun v4 : Bool => some v4) fun J3 => cond (feq p0 x1) ((F_math_Abs p0).bind fun x5 =>
    J3 (fle x5 (4696837146684686336 : Nat))) (J3 false))
/-- lectern/trace.spot -/
def F_trace_spot (p0 : Nat × Nat) : Option (Bool) :=
   (F_trace_part p0.1).bind fun x1 =>
   (letJ (fun v4 : Bool => some v4) fun J3 => cond x1 ((F_trace_part p0.2).bind fun x5 =>
    J3 x5) (J3 false))
def F_trace_reader_spots_l0 (p1 : Int) (rec12 : (List UInt8) × Int × (List T_trace_Stroke) × (Nat × Nat) × Int × Bool × Bool → Option (((Int × Int) × T_trace_reader))) : (List UInt8) × Int × (List T_trace_Stroke) × (Nat × Nat) × Int × Bool × Bool → Option (((Int × Int) × T_trace_reader))
  | (a1, a2, a4, a6, a7, a8, a9) =>
   (F_trace_reader_spot (⟨a1, a2, a4, a6, a7, a8⟩ : T_trace_reader) p1).bind fun x14 =>
  cond ((!x14.1.2.2) && (a9 || (decide (x14.1.2.1 < (0 : Int)))))
   (some (((if (IntKind.wrap .i64 ((-1 : Int) - x14.1.2.1)) > x14.1.2.1 then (IntKind.wrap .i64 ((-1 : Int) - x14.1.2.1)) else x14.1.2.1), (37 : Int)), x14.2))
   (cond (!x14.1.2.2)
    (some (((0 : Int), (0 : Int)), x14.2))
    ((F_trace_spot x14.1.1).bind fun x22 =>
     (letJ (fun v25 : Bool => cond v25
       (some ((x14.1.2.1, (5 : Int)), x14.2))
       (letJ (fun v : (List T_trace_Stroke) × Bool => match v with
        | (a35, a37) =>
         (lst a35 (IntKind.wrap .i64 ((a35.length : Int) - (1 : Int)))).bind fun x46 =>
         (app 16 x46.Spots [x14.1.1]).bind fun _ =>
         (some (List.set a35 (Int.toNat (IntKind.wrap .i64 ((a35.length : Int) - (1 : Int)))) (⟨(x46.Spots ++ [x14.1.1]), x46.Closed⟩ : T_trace_Stroke))).bind fun a48 =>
        rec12 (x14.2.s, x14.2.at_, a48, x14.1.1, (IntKind.wrap .i64 (x14.2.n + (1 : Int))), a37, false)) fun J38 =>
       cond (a9 && ((p1 == (77 : Int)) || (p1 == (109 : Int))))
        ((app 32 x14.2.f [(⟨([] : List (Nat × Nat)), false⟩ : T_trace_Stroke)]).bind fun _ =>
         (some (x14.2.f ++ [(⟨([] : List (Nat × Nat)), false⟩ : T_trace_Stroke)])).bind fun a45 =>
        J38 (a45, true))
        (J38 (x14.2.f, x14.2.open_)))) fun J24 => cond (!x22) (J24 true) (J24 (x14.2.n == (500 : Int))))))
/-- (*lectern/trace.reader).spots -/
def F_trace_reader_spots (p0 : T_trace_reader) (p1 : Int) : Option ((Int × Int) × T_trace_reader) :=
   (iter (F_trace_reader_spots_l0 p1) FUEL (p0.s, p0.at_, p0.f, p0.pen, p0.n, p0.open_, true)).bind fun o =>
  some o
def F_trace_Read_l0 (p0 : List UInt8) (rec14 : (List UInt8) × Int × (List T_trace_Stroke) × (Nat × Nat) × Int × Bool → Option (((List T_trace_Stroke) × Int × Int))) : (List UInt8) × Int × (List T_trace_Stroke) × (Nat × Nat) × Int × Bool → Option (((List T_trace_Stroke) × Int × Int))
  | (a4, a5, a7, a9, a10, a11) =>
   (F_trace_reader_look (⟨a4, a5, a7, a9, a10, a11⟩ : T_trace_reader)).bind fun x16 =>
  cond (x16.1 == (0 : Int))
   (some (a7, (0 : Int), (0 : Int)))
   (cond (x16.1 != (1 : Int))
    (some (([] : List T_trace_Stroke), x16.2.1, (37 : Int)))
    ((idx p0 x16.2.1).bind fun x20 =>
     (letJ (fun v24 : Bool => cond v24
       (some (([] : List T_trace_Stroke), x16.2.1, (37 : Int)))
       (cond (((x20.toNat : Int) == (90 : Int)) || ((x20.toNat : Int) == (122 : Int)))
        ((lst a7 (IntKind.wrap .i64 ((a7.length : Int) - (1 : Int)))).bind fun x28 =>
         (idx x28.Spots (0 : Int)).bind fun x29 =>
         (some (List.set a7 (Int.toNat (IntKind.wrap .i64 ((a7.length : Int) - (1 : Int)))) (⟨x28.Spots, true⟩ : T_trace_Stroke))).bind fun a30 =>
        rec14 (a4, x16.2.2, a30, x29, a10, false))
        ((F_trace_reader_spots (⟨a4, x16.2.2, a7, a9, a10, a11⟩ : T_trace_reader) (x20.toNat : Int)).bind fun x31 =>
        cond (x31.1.2 != (0 : Int))
         (some (([] : List T_trace_Stroke), x31.1.1, x31.1.2))
         (rec14 (x31.2.s, x31.2.at_, x31.2.f, x31.2.pen, x31.2.n, x31.2.open_))))) fun J23 => cond (((x20.toNat : Int) != (77 : Int)) && ((x20.toNat : Int) != (109 : Int))) (J23 (!a11)) (J23 false))))
/-- lectern/trace.Read -/
def F_trace_Read (p0 : List UInt8) : Option ((List T_trace_Stroke) × Int × Int) :=
   (iter (F_trace_Read_l0 p0) FUEL (p0, (0 : Int), ([] : List T_trace_Stroke), ((0, 0) : Nat × Nat), (0 : Int), false)).bind fun o =>
  some o
def F_slices_IndexFunc_complex128_complex128_l0 (p0 : List (Nat × Nat)) (p1 : (Nat × Nat) → Option Bool) (rec10 : Int → Option (Unit ⊕ Int)) (a7 : Int) : Option (Unit ⊕ Int) :=
  cond (decide (a7 < (p0.length : Int)))
   ((idx p0 a7).bind fun x13 =>
    (p1 x13).bind fun x14 =>
   cond x14
    (some (.inr a7))
    (rec10 (IntKind.wrap .i64 (a7 + (1 : Int)))))
   (some (.inl ()))
/-- slices.IndexFunc[[]complex128,complex128] -/
def F_slices_IndexFunc_complex128_complex128 (p0 : List (Nat × Nat)) (p1 : (Nat × Nat) → Option Bool) : Option (Int) :=
  letJ (fun _ : Unit =>
   some (-1 : Int)) fun J6 =>
   (iter (F_slices_IndexFunc_complex128_complex128_l0 p0 p1) FUEL (0 : Int)).bind fun o =>
  match o with
  | .inl o1 => J6 o1
  | .inr o1 => some o1
/-- slices.ContainsFunc[[]complex128,complex128] -/
def F_slices_ContainsFunc_complex128_complex128 (p0 : List (Nat × Nat)) (p1 : (Nat × Nat) → Option Bool) : Option (Bool) :=
   (F_slices_IndexFunc_complex128_complex128 p0 p1).bind fun x1 =>
  some (decide ((0 : Int) ≤ x1))
/-- lectern/trace.right$1 -/
def F_trace_right_1 (p0 : Nat × Nat) : Option (Bool) :=
   (F_trace_spot p0).bind fun x1 =>
  some (!x1)
def F_trace_right_l0 (p0 : List T_trace_Stroke) (rec17 : Int × Int → Option (Int ⊕ Bool)) : Int × Int → Option (Int ⊕ Bool)
  | (a13, a14) =>
  cond (decide (a14 < (p0.length : Int)))
   ((idx p0 a14).bind fun x20 =>
    (letJ (fun v24 : Bool => cond v24
      (some (.inr false))
      (rec17 ((IntKind.wrap .i64 (a13 + (x20.Spots.length : Int))), (IntKind.wrap .i64 (a14 + (1 : Int)))))) fun J23 => cond ((x20.Spots.length : Int) == (0 : Int)) (J23 true) ((F_slices_ContainsFunc_complex128_complex128 x20.Spots F_trace_right_1).bind fun x25 =>
     J23 x25)))
   (some (.inl a13))
/-- lectern/trace.right -/
def F_trace_right (p0 : List T_trace_Stroke) : Option (Bool) :=
  letJ (fun a11 : Int =>
   some (decide (a11 ≤ (500 : Int)))) fun J12 =>
   (iter (F_trace_right_l0 p0) FUEL ((0 : Int), (0 : Int))).bind fun o =>
  match o with
  | .inl o1 => J12 o1
  | .inr o1 => some o1
/-- lectern/trace.cross -/
def F_trace_cross (p0 : Nat × Nat) (p1 : Nat × Nat) : Option (Nat) :=
   (cmul ((p0.1, (fneg p0.2)) : Nat × Nat) p1).bind fun x1 =>
  some x1.2
def F_trace_Area_l1 (x66 : T_trace_Stroke) (rec72 : Nat × Int → Option (Nat)) : Nat × Int → Option (Nat)
  | (a68, a69) =>
  cond (decide (a69 < (x66.Spots.length : Int)))
   (letJ (fun a80 : Nat =>
    rec72 (a80, (IntKind.wrap .i64 (a69 + (1 : Int))))) fun J81 =>
    (idx x66.Spots a69).bind fun x82 =>
   cond x66.Closed
    ((nzI (x66.Spots.length : Int)).bind fun _ =>
     (idx x66.Spots (Int.tmod (IntKind.wrap .i64 (a69 + (1 : Int))) (x66.Spots.length : Int))).bind fun x84 =>
     (F_trace_cross x82 x84).bind fun x85 =>
     (fadd a68 x85).bind fun x86 =>
    J81 x86)
    (J81 a68))
   (some a68)
def F_trace_Area_l0 (p0 : List T_trace_Stroke) (rec45 : Nat × Int → Option (Nat)) : Nat × Int → Option (Nat)
  | (a41, a42) =>
  cond (decide (a42 < (p0.length : Int)))
   (letJ (fun a64 : Nat =>
    rec45 (a64, (IntKind.wrap .i64 (a42 + (1 : Int))))) fun J65 =>
    (idx p0 a42).bind fun x66 =>
    (iter (F_trace_Area_l1 x66) FUEL (a41, (0 : Int))).bind fun o =>
   J65 o)
   (some a41)
/-- lectern/trace.Area -/
def F_trace_Area (p0 : List T_trace_Stroke) : Option (Nat × Int) :=
   (F_trace_right p0).bind fun x1 =>
  cond (!x1)
   (some ((0 : Nat), (1 : Int)))
   (letJ (fun a39 : Nat =>
    some (a39, (0 : Int))) fun J40 =>
    (iter (F_trace_Area_l0 p0) FUEL ((0 : Nat), (0 : Int))).bind fun o =>
   J40 o)
/-- lectern/lecternlaw10.spot -/
def F_lecternlaw10_spot (p0 : Int) (p1 : Int) : Option ((Nat × Nat)) :=
  some (((i2f p0), (i2f p1)) : Nat × Nat)
def F_trace_Around_l1 (p1 : Nat × Nat) (x166 : T_trace_Stroke) (rec172 : Int × Int → Option (Int ⊕ (Int × Bool × Int))) : Int × Int → Option (Int ⊕ (Int × Bool × Int))
  | (a168, a169) =>
  cond (decide (a169 < (x166.Spots.length : Int)))
   (letJ (fun a196 : Int =>
    rec172 (a196, (IntKind.wrap .i64 (a169 + (1 : Int))))) fun J197 =>
    (idx x166.Spots a169).bind fun x198 =>
   cond (!x166.Closed)
    (some (.inl a168))
    ((csub x198 p1).bind fun x200 =>
     (nzI (x166.Spots.length : Int)).bind fun _ =>
     (idx x166.Spots (Int.tmod (IntKind.wrap .i64 (a169 + (1 : Int))) (x166.Spots.length : Int))).bind fun x201 =>
     (csub x201 p1).bind fun x202 =>
     (F_trace_cross x200 x202).bind fun x203 =>
     (letJ (fun v206 : Bool => (letJ (fun v210 : Bool => cond v210
         (some (.inr ((0 : Int), true, (0 : Int))))
         (cond (((fle x200.2 (0 : Nat)) && (fgt x202.2 (0 : Nat))) && (fgt x203 (0 : Nat)))
          (J197 (IntKind.wrap .i64 (a168 + (1 : Int))))
          (cond (((fgt x200.2 (0 : Nat)) && (fle x202.2 (0 : Nat))) && (flt x203 (0 : Nat)))
           (J197 (IntKind.wrap .i64 (a168 - (1 : Int))))
           (J197 a168)))) fun J209 => cond v206 ((fmul x200.2 x202.2).bind fun x211 =>
        J209 (fle x211 (0 : Nat))) (J209 false))) fun J205 => cond (feq x203 (0 : Nat)) ((fmul x200.1 x202.1).bind fun x207 =>
      J205 (fle x207 (0 : Nat))) (J205 false))))
   (some (.inl a168))
def F_trace_Around_l0 (p0 : List T_trace_Stroke) (p1 : Nat × Nat) (rec113 : Int × Int → Option (Int ⊕ (Int × Bool × Int))) : Int × Int → Option (Int ⊕ (Int × Bool × Int))
  | (a109, a110) =>
  cond (decide (a110 < (p0.length : Int)))
   (letJ (fun a164 : Int =>
    rec113 (a164, (IntKind.wrap .i64 (a110 + (1 : Int))))) fun J165 =>
    (idx p0 a110).bind fun x166 =>
    (iter (F_trace_Around_l1 p1 x166) FUEL (a109, (0 : Int))).bind fun o =>
   match o with
   | .inl o1 => J165 o1
   | .inr o1 => some (.inr o1))
   (some (.inl a109))
/-- lectern/trace.Around -/
def F_trace_Around (p0 : List T_trace_Stroke) (p1 : Nat × Nat) : Option (Int × Bool × Int) :=
   (F_trace_right p0).bind fun x1 =>
   (letJ (fun v4 : Bool => cond v4
     (some ((0 : Int), false, (1 : Int)))
     (letJ (fun a107 : Int =>
      some (a107, false, (0 : Int))) fun J108 =>
      (iter (F_trace_Around_l0 p0 p1) FUEL ((0 : Int), (0 : Int))).bind fun o =>
     match o with
     | .inl o1 => J108 o1
     | .inr o1 => some o1)) fun J3 => cond (!x1) (J3 true) ((F_trace_spot p1).bind fun x5 =>
    J3 (!x5)))
def F_trace_Show_l1 (x201 : T_trace_Stroke) (rec237 : (List (List UInt8)) × Int → Option (((List (List UInt8))))) : (List (List UInt8)) × Int → Option (((List (List UInt8))))
  | (a233, a234) =>
  cond (decide (a234 < (x201.Spots.length : Int)))
   (letJ (fun a251 : List (List UInt8) =>
    rec237 (a251, (IntKind.wrap .i64 (a234 + (1 : Int))))) fun J252 =>
    (idx x201.Spots a234).bind fun x253 =>
    (f2i .i64 x253.1).bind fun x254 =>
    (L_Itoa x254).bind fun x255 =>
    (f2i .i64 x253.2).bind fun x256 =>
    (L_Itoa x256).bind fun x257 =>
    (app 16 a233 [([76] : List UInt8), x255, x257]).bind fun _ =>
    (some (a233 ++ [([76] : List UInt8), x255, x257])).bind fun a259 =>
   cond (a234 == (0 : Int))
    ((idx a259 (IntKind.wrap .i64 ((a259.length : Int) - (3 : Int)))).bind fun x261 =>
     (some (List.set a259 (Int.toNat (IntKind.wrap .i64 ((a259.length : Int) - (3 : Int)))) ([77] : List UInt8))).bind fun a262 =>
    J252 a262)
    (J252 a259))
   (some a233)
def F_trace_Show_l0 (p0 : List T_trace_Stroke) (rec136 : (List (List UInt8)) × Int → Option (((List (List UInt8))))) : (List (List UInt8)) × Int → Option (((List (List UInt8))))
  | (a132, a133) =>
  cond (decide (a133 < (p0.length : Int)))
   (letJ (fun a199 : List (List UInt8) =>
    rec136 (a199, (IntKind.wrap .i64 (a133 + (1 : Int))))) fun J200 =>
    (idx p0 a133).bind fun x201 =>
   letJ (fun a230 : List (List UInt8) =>
    cond x201.Closed
     ((app 16 a230 [([90] : List UInt8)]).bind fun _ =>
      (some (a230 ++ [([90] : List UInt8)])).bind fun a265 =>
     J200 a265)
     (J200 a230)) fun J231 =>
    (iter (F_trace_Show_l1 x201) FUEL (a132, (0 : Int))).bind fun o =>
   J231 o)
   (some a132)
/-- lectern/trace.Show -/
def F_trace_Show (p0 : List T_trace_Stroke) : Option ((List UInt8) × Int) :=
   (F_trace_right p0).bind fun x1 =>
  cond (!x1)
   (some (([] : List UInt8), (1 : Int)))
   (letJ (fun a129 : List (List UInt8) =>
     (L_Join a129 ([32] : List UInt8)).bind fun x267 =>
    some (x267, (0 : Int))) fun J130 =>
    (iter (F_trace_Show_l0 p0) FUEL (([] : List (List UInt8)), (0 : Int))).bind fun o =>
   J130 o)
/-- lectern/lecternlaw10.awake -/
def F_lecternlaw10_awake : Option (Bool) :=
   (F_trace_Read ([77, 32, 48, 32, 48, 32, 76, 32, 52, 32, 48, 32, 76, 32, 52, 32, 52, 32, 76, 32, 48, 32, 52, 32, 90] : List UInt8)).bind fun x1 =>
   (F_trace_Area x1.1).bind fun x2 =>
   (F_lecternlaw10_spot (1 : Int) (1 : Int)).bind fun x3 =>
   (F_trace_Around x1.1 x3).bind fun x4 =>
   (F_trace_Show x1.1).bind fun x5 =>
  some ((((((((x1.2.2 == (0 : Int)) && (x2.2 == (0 : Int))) && (x4.2.2 == (0 : Int))) && (x5.2 == (0 : Int))) && (feq x2.1 (4629700416936869888 : Nat))) && (x4.1 == (1 : Int))) && (!x4.2.1)) && (x5.1 == ([77, 32, 48, 32, 48, 32, 76, 32, 52, 32, 48, 32, 76, 32, 52, 32, 52, 32, 76, 32, 48, 32, 52, 32, 90] : List UInt8)))
def F_lecternref10_Right_l0 (p0 : List T_lecternref10_Stroke) (rec13 : Int × Int → Option (Int ⊕ Bool)) : Int × Int → Option (Int ⊕ Bool)
  | (a9, a10) =>
  cond (decide (a10 < (p0.length : Int)))
   ((idx p0 a10).bind fun x16 =>
   cond ((x16.Spots.length : Int) == (0 : Int))
    (some (.inr false))
    (rec13 ((IntKind.wrap .i64 (a9 + (x16.Spots.length : Int))), (IntKind.wrap .i64 (a10 + (1 : Int))))))
   (some (.inl a9))
/-- lectern/lecternref10.Right -/
def F_lecternref10_Right (p0 : List T_lecternref10_Stroke) : Option (Bool) :=
  letJ (fun a7 : Int =>
   some (decide (a7 ≤ (500 : Int)))) fun J8 =>
   (iter (F_lecternref10_Right_l0 p0) FUEL ((0 : Int), (0 : Int))).bind fun o =>
  match o with
  | .inl o1 => J8 o1
  | .inr o1 => some o1
def F_lecternlaw10_figure_l1 (x185 : T_lecternlaw10_Line) (rec226 : Bool × (List (Nat × Nat)) × Bool × (List T_lecternref10_Spot) × Bool × Int → Option ((Bool × (List (Nat × Nat)) × Bool × (List T_lecternref10_Spot) × Bool))) : Bool × (List (Nat × Nat)) × Bool × (List T_lecternref10_Spot) × Bool × Int → Option ((Bool × (List (Nat × Nat)) × Bool × (List T_lecternref10_Spot) × Bool))
  | (a216, a217, a219, a220, a222, a223) =>
  cond (decide ((IntKind.wrap .i64 (a223 + (1 : Int))) < (x185.Parts.length : Int)))
   ((idx x185.Parts a223).bind fun x229 =>
    (idx x185.Parts (IntKind.wrap .i64 (a223 + (1 : Int)))).bind fun x230 =>
    (app 16 a217 [(((i2f x229), (i2f x230)) : Nat × Nat)]).bind fun _ =>
    (app 16 a220 [(⟨x229, x230⟩ : T_lecternref10_Spot)]).bind fun _ =>
   rec226 (((((a216 && (decide ((-1000000 : Int) ≤ x229))) && (decide (x229 ≤ (1000000 : Int)))) && (decide ((-1000000 : Int) ≤ x230))) && (decide (x230 ≤ (1000000 : Int)))), (a217 ++ [(((i2f x229), (i2f x230)) : Nat × Nat)]), a219, (a220 ++ [(⟨x229, x230⟩ : T_lecternref10_Spot)]), a222, (IntKind.wrap .i64 (a223 + (2 : Int)))))
   (some (a216, a217, a219, a220, a222))
def F_lecternlaw10_figure_l0 (p0 : List T_lecternlaw10_Line) (rec127 : (List T_trace_Stroke) × (List T_lecternref10_Stroke) × Bool × Int → Option (((List T_trace_Stroke) × (List T_lecternref10_Stroke) × Bool))) : (List T_trace_Stroke) × (List T_lecternref10_Stroke) × Bool × Int → Option (((List T_trace_Stroke) × (List T_lecternref10_Stroke) × Bool))
  | (a119, a121, a123, a124) =>
  cond (decide (a124 < (p0.length : Int)))
   (letJ (fun v : (List T_trace_Stroke) × (List T_lecternref10_Stroke) × Bool => match v with
    | (a179, a181, a183) =>
    rec127 (a179, a181, a183, (IntKind.wrap .i64 (a124 + (1 : Int))))) fun J184 =>
    (idx p0 a124).bind fun x185 =>
   letJ (fun v : Bool × (List (Nat × Nat)) × Bool × (List T_lecternref10_Spot) × Bool => match v with
    | (a208, a209, a211, a212, a214) =>
     (app 32 a119 [(⟨a209, a211⟩ : T_trace_Stroke)]).bind fun _ =>
     (app 32 a121 [(⟨a212, a214⟩ : T_lecternref10_Stroke)]).bind fun _ =>
    J184 ((a119 ++ [(⟨a209, a211⟩ : T_trace_Stroke)]), (a121 ++ [(⟨a212, a214⟩ : T_lecternref10_Stroke)]), a208)) fun J215 =>
    (iter (F_lecternlaw10_figure_l1 x185) FUEL (a123, ([] : List (Nat × Nat)), x185.Closed, ([] : List T_lecternref10_Spot), x185.Closed, (0 : Int))).bind fun o =>
   J215 o)
   (some (a119, a121, a123))
/-- lectern/lecternlaw10.figure -/
def F_lecternlaw10_figure (p0 : List T_lecternlaw10_Line) : Option ((List T_trace_Stroke) × (List T_lecternref10_Stroke) × Bool) :=
  letJ (fun v : (List T_trace_Stroke) × (List T_lecternref10_Stroke) × Bool => match v with
   | (a113, a115, a117) =>
    (letJ (fun v241 : Bool => some (a113, a115, v241)) fun J240 => cond a117 ((F_lecternref10_Right a115).bind fun x242 =>
     J240 x242) (J240 false))) fun J118 =>
   (iter (F_lecternlaw10_figure_l0 p0) FUEL (([] : List T_trace_Stroke), ([] : List T_lecternref10_Stroke), true, (0 : Int))).bind fun o =>
  J118 o
def F_trace_Turn_l1 (p1 : Nat × Nat) (p2 : Nat × Nat) (x122 : T_trace_Stroke) (rec147 : (List (Nat × Nat)) × Bool × Int → Option (((List (Nat × Nat)) × Bool) ⊕ ((List T_trace_Stroke) × Int))) : (List (Nat × Nat)) × Bool × Int → Option (((List (Nat × Nat)) × Bool) ⊕ ((List T_trace_Stroke) × Int))
  | (a141, a143, a144) =>
  cond (decide (a144 < (x122.Spots.length : Int)))
   ((idx x122.Spots a144).bind fun x150 =>
    (cmul x150 p1).bind fun x151 =>
    (cadd x151 p2).bind fun x152 =>
    (F_trace_spot x152).bind fun x153 =>
   cond (!x153)
    (some (.inr (([] : List T_trace_Stroke), (5 : Int))))
    ((app 16 a141 [x152]).bind fun _ =>
    rec147 ((a141 ++ [x152]), a143, (IntKind.wrap .i64 (a144 + (1 : Int))))))
   (some (.inl (a141, a143)))
def F_trace_Turn_l0 (p0 : List T_trace_Stroke) (p1 : Nat × Nat) (p2 : Nat × Nat) (rec86 : (List T_trace_Stroke) × Int → Option (((List T_trace_Stroke)) ⊕ ((List T_trace_Stroke) × Int))) : (List T_trace_Stroke) × Int → Option (((List T_trace_Stroke)) ⊕ ((List T_trace_Stroke) × Int))
  | (a81, a83) =>
  cond (decide (a83 < (p0.length : Int)))
   (letJ (fun a119 : List T_trace_Stroke =>
    rec86 (a119, (IntKind.wrap .i64 (a83 + (1 : Int))))) fun J121 =>
    (idx p0 a83).bind fun x122 =>
   letJ (fun v : (List (Nat × Nat)) × Bool => match v with
    | (a137, a139) =>
     (app 32 a81 [(⟨a137, a139⟩ : T_trace_Stroke)]).bind fun _ =>
    J121 (a81 ++ [(⟨a137, a139⟩ : T_trace_Stroke)])) fun J140 =>
    (iter (F_trace_Turn_l1 p1 p2 x122) FUEL (([] : List (Nat × Nat)), x122.Closed, (0 : Int))).bind fun o =>
   match o with
   | .inl o1 => J140 o1
   | .inr o1 => some (.inr o1))
   (some (.inl a81))
/-- lectern/trace.Turn -/
def F_trace_Turn (p0 : List T_trace_Stroke) (p1 : Nat × Nat) (p2 : Nat × Nat) : Option ((List T_trace_Stroke) × Int) :=
   (F_trace_right p0).bind fun x1 =>
   (letJ (fun v4 : Bool => (letJ (fun v8 : Bool => cond v8
       (some (([] : List T_trace_Stroke), (1 : Int)))
       (letJ (fun a78 : List T_trace_Stroke =>
        some (a78, (0 : Int))) fun J80 =>
        (iter (F_trace_Turn_l0 p0 p1 p2) FUEL (([] : List T_trace_Stroke), (0 : Int))).bind fun o =>
       match o with
       | .inl o1 => J80 o1
       | .inr o1 => some o1)) fun J7 => cond v4 (J7 true) ((F_trace_spot p2).bind fun x9 =>
      J7 (!x9)))) fun J3 => cond (!x1) (J3 true) ((F_trace_spot p1).bind fun x5 =>
    J3 (!x5)))
def F_trace_Box_l1 (x59 : T_trace_Stroke) (rec66 : (Nat × Nat) × (Nat × Nat) × Int → Option (((Nat × Nat) × (Nat × Nat)))) : (Nat × Nat) × (Nat × Nat) × Int → Option (((Nat × Nat) × (Nat × Nat)))
  | (a61, a62, a63) =>
  cond (decide (a63 < (x59.Spots.length : Int)))
   ((idx x59.Spots a63).bind fun x69 =>
    (fmin a61.1 x69.1).bind fun x70 =>
    (fmin a61.2 x69.2).bind fun x71 =>
    (fmax a62.1 x69.1).bind fun x72 =>
    (fmax a62.2 x69.2).bind fun x73 =>
   rec66 (((x70, x71) : Nat × Nat), ((x72, x73) : Nat × Nat), (IntKind.wrap .i64 (a63 + (1 : Int)))))
   (some (a61, a62))
def F_trace_Box_l0 (p0 : List T_trace_Stroke) (rec42 : (Nat × Nat) × (Nat × Nat) × Int → Option (((Nat × Nat) × (Nat × Nat)))) : (Nat × Nat) × (Nat × Nat) × Int → Option (((Nat × Nat) × (Nat × Nat)))
  | (a37, a38, a39) =>
  cond (decide (a39 < (p0.length : Int)))
   (letJ (fun v : (Nat × Nat) × (Nat × Nat) => match v with
    | (a56, a57) =>
    rec42 (a56, a57, (IntKind.wrap .i64 (a39 + (1 : Int))))) fun J58 =>
    (idx p0 a39).bind fun x59 =>
    (iter (F_trace_Box_l1 x59) FUEL (a37, a38, (0 : Int))).bind fun o =>
   J58 o)
   (some (a37, a38))
/-- lectern/trace.Box -/
def F_trace_Box (p0 : List T_trace_Stroke) : Option ((Nat × Nat) × (Nat × Nat) × Int) :=
   (F_trace_right p0).bind fun x1 =>
  cond (!x1)
   (some (((0, 0) : Nat × Nat), ((0, 0) : Nat × Nat), (1 : Int)))
   (cond ((p0.length : Int) == (0 : Int))
    (some (((0, 0) : Nat × Nat), ((0, 0) : Nat × Nat), (7 : Int)))
    ((idx p0 (0 : Int)).bind fun x4 =>
     (idx x4.Spots (0 : Int)).bind fun x5 =>
    letJ (fun v : (Nat × Nat) × (Nat × Nat) => match v with
     | (a34, a35) =>
     some (a34, a35, (0 : Int))) fun J36 =>
     (iter (F_trace_Box_l0 p0) FUEL (x5, x5, (0 : Int))).bind fun o =>
    J36 o))
/-- lectern/lecternref10.From -/
def F_lecternref10_From (p0 : Nat × Nat) : Option (T_lecternref10_Spot × Bool) :=
  cond (!((((fge p0.1 (13920209183539462144 : Nat)) && (fle p0.1 (4696837146684686336 : Nat))) && (fge p0.2 (13920209183539462144 : Nat))) && (fle p0.2 (4696837146684686336 : Nat))))
   (some ((⟨(0 : Int), (0 : Int)⟩ : T_lecternref10_Spot), false))
   ((f2i .i64 p0.1).bind fun x6 =>
    (f2i .i64 p0.2).bind fun x7 =>
   letJ (fun v : Int × Int × Bool => match v with
    | (a11, a12, a13) =>
    some ((⟨a11, a12⟩ : T_lecternref10_Spot), a13)) fun J14 =>
   cond (feq (i2f (⟨x6, x7⟩ : T_lecternref10_Spot).X) p0.1)
    (J14 ((⟨x6, x7⟩ : T_lecternref10_Spot).X, (⟨x6, x7⟩ : T_lecternref10_Spot).Y, (feq (i2f (⟨x6, x7⟩ : T_lecternref10_Spot).Y) p0.2)))
    (J14 ((⟨x6, x7⟩ : T_lecternref10_Spot).X, (⟨x6, x7⟩ : T_lecternref10_Spot).Y, false)))
def F_lecternlaw10_same_l1 (p1 : List T_lecternref10_Stroke) (a65 : Int) (x117 : T_trace_Stroke) (rec121 : Int → Option (Unit ⊕ Bool)) (a118 : Int) : Option (Unit ⊕ Bool) :=
  cond (decide (a118 < (x117.Spots.length : Int)))
   ((idx x117.Spots a118).bind fun x124 =>
    (F_lecternref10_From x124).bind fun x125 =>
   letJ (fun a131 : Bool =>
    cond a131
     (some (.inr false))
     (rec121 (IntKind.wrap .i64 (a118 + (1 : Int))))) fun J132 =>
   cond (!x125.2)
    (J132 true)
    ((idx p1 a65).bind fun x135 =>
     (idx x135.Spots a118).bind fun x136 =>
    J132 (!((x125.1.X == x136.X) && ((x125.1.Y == x136.Y) && true)))))
   (some (.inl ()))
def F_lecternlaw10_same_l0 (p0 : List T_trace_Stroke) (p1 : List T_lecternref10_Stroke) (rec68 : Int → Option (Unit ⊕ Bool)) (a65 : Int) : Option (Unit ⊕ Bool) :=
  cond (decide (a65 < (p0.length : Int)))
   (letJ (fun _ : Unit =>
    rec68 (IntKind.wrap .i64 (a65 + (1 : Int)))) fun J101 =>
   letJ (fun a108 : Bool =>
    cond a108
     (some (.inr false))
     ((idx p0 a65).bind fun x117 =>
      (iter (F_lecternlaw10_same_l1 p1 a65 x117) FUEL (0 : Int)).bind fun o =>
     match o with
     | .inl o1 => J101 o1
     | .inr o1 => some (.inr o1))) fun J109 =>
    (idx p0 a65).bind fun x110 =>
    (idx p1 a65).bind fun x111 =>
   cond (!(x110.Closed == x111.Closed))
    (J109 true)
    ((idx p0 a65).bind fun x114 =>
     (idx p1 a65).bind fun x115 =>
    J109 ((x114.Spots.length : Int) != (x115.Spots.length : Int))))
   (some (.inl ()))
/-- lectern/lecternlaw10.same -/
def F_lecternlaw10_same (p0 : List T_trace_Stroke) (p1 : List T_lecternref10_Stroke) : Option (Bool) :=
  cond ((p0.length : Int) != (p1.length : Int))
   (some false)
   (letJ (fun _ : Unit =>
    some true) fun J64 =>
    (iter (F_lecternlaw10_same_l0 p0 p1) FUEL (0 : Int)).bind fun o =>
   match o with
   | .inl o1 => J64 o1
   | .inr o1 => some o1)
end Go.Proofs.YtocfjohangcajaaDoor
