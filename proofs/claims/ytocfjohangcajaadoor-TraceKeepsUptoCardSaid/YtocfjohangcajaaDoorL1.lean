/- Joined by program out of Fw La Lar Lbx Lfg Lcs. No condition. -/
import Derived.Test.YtocfjohangcajaaDoorPf
import Derived.Test.YtocfjohangcajaaDoorFl
import Derived.Test.YtocfjohangcajaaDoorPl1
import Derived.Test.YtocfjohangcajaaDoorWk
import Derived.Test.YtocfjohangcajaaDoorEng25
import Derived.Lib.ItoaLen
import Derived.Lib.Join
set_option linter.unusedSimpArgs false
set_option linter.unusedVariables false
namespace Go.Proofs.YtocfjohangcajaaDoor
open Fl
theorem fadd_I {x y : Nat} {a b : Int} (hx : isI x a) (hy : isI y b) (hz : (a + b).natAbs ≤ 9007199254740992) : ∃ r, fadd x y = some r ∧ isI r (a + b) := add_I hx hy hz
theorem fsub_I {x y : Nat} {a b : Int} (hx : isI x a) (hy : isI y b) (hz : (a - b).natAbs ≤ 9007199254740992) : ∃ r, fsub x y = some r ∧ isI r (a - b) := sub_I hx hy hz
theorem fmul_I {x y : Nat} {a b : Int} (hx : isI x a) (hy : isI y b) (hz : (a * b).natAbs ≤ 9007199254740992) : ∃ r, fmul x y = some r ∧ isI r (a * b) := mul_I hx hy hz
theorem i2f_I (n : Int) (hz : n.natAbs ≤ 9007199254740992) : isI (i2f n) n := int_I n hz
theorem ord_I {x y : Nat} {a b : Int} (hx : isI x a) (hy : isI y b) : FloatKind.f64.format.order x y = some (compare a b) := order_I hx hy
theorem cmp_cases (a b : Int) : (a < b ∧ compare a b = .lt) ∨ (a = b ∧ compare a b = .eq) ∨ (b < a ∧ compare a b = .gt) := by
  simp only [compare, compareOfLessAndEq]
  by_cases h : a < b
  · left; exact ⟨h, if_pos h⟩
  · by_cases h2 : a = b
    · right; left; exact ⟨h2, by rw [if_neg h, if_pos h2]⟩
    · right; right; exact ⟨by omega, by rw [if_neg h, if_neg h2]⟩
section
variable {x y : Nat} {a b : Int} (hx : isI x a) (hy : isI y b)
include hx hy
theorem feq_I : feq x y = decide (a = b) := by
  unfold feq; rw [ord_I hx hy]
  rcases cmp_cases a b with ⟨h, e⟩ | ⟨h, e⟩ | ⟨h, e⟩ <;> rw [e]
  · rw [decide_eq_false (by omega)]; rfl
  · rw [decide_eq_true h]; rfl
  · rw [decide_eq_false (by omega)]; rfl
theorem flt_I : flt x y = decide (a < b) := by
  unfold flt; rw [ord_I hx hy]
  rcases cmp_cases a b with ⟨h, e⟩ | ⟨h, e⟩ | ⟨h, e⟩ <;> rw [e]
  · rw [decide_eq_true h]; rfl
  · rw [decide_eq_false (by omega)]; rfl
  · rw [decide_eq_false (by omega)]; rfl
theorem fle_I : fle x y = decide (a ≤ b) := by
  unfold fle; rw [ord_I hx hy]
  rcases cmp_cases a b with ⟨h, e⟩ | ⟨h, e⟩ | ⟨h, e⟩ <;> rw [e]
  · rw [decide_eq_true (by omega)]; rfl
  · rw [decide_eq_true (by omega)]; rfl
  · rw [decide_eq_false (by omega)]; rfl
theorem fgt_I : fgt x y = decide (b < a) := by
  unfold fgt; rw [ord_I hx hy]
  rcases cmp_cases a b with ⟨h, e⟩ | ⟨h, e⟩ | ⟨h, e⟩ <;> rw [e]
  · rw [decide_eq_false (by omega)]; rfl
  · rw [decide_eq_false (by omega)]; rfl
  · rw [decide_eq_true h]; rfl
end
/-! words and their signs -/
open Ieee in
def rdW (neg : Bool) (rung : Nat) : Datum :=
  if rung < double.binade then .number neg rung double.leastPlace
  else if rung < double.infRung then .number neg (double.binade + rung % double.binade) (double.leastPlace + (rung / double.binade - 1 : Nat))
  else if rung = double.infRung then .infinity neg
  else .nan neg (rung - double.infRung)
open Ieee in
theorem read_eq (x : Nat) : double.read x = rdW (x / 2 ^ 63 % 2 == 1) (x % 2 ^ 63) := rfl
open Ieee in
theorem rdW_number {neg s : Bool} {rung m : Nat} {p : Int} (h : rdW neg rung = .number s m p) : s = neg ∧ ∀ n2, rdW n2 rung = .number n2 m p := by
  unfold rdW at h ⊢
  split at h
  · rename_i h1
    injection h with e1 e2 e3
    exact ⟨e1.symm, fun n2 => by rw [if_pos h1, e2, e3]⟩
  · rename_i h1
    split at h
    · rename_i h2
      injection h with e1 e2 e3
      exact ⟨e1.symm, fun n2 => by rw [if_neg h1, if_pos h2, e2, e3]⟩
    · split at h <;> simp at h
theorem fneg_I {x : Nat} {a : Int} (hx : isI x a) : isI (fneg x) (-a) := by
  obtain ⟨s, m, p, e, h⟩ := hx
  rw [read_eq] at e
  obtain ⟨e1, e2⟩ := rdW_number e
  have hm : (x ^^^ 2 ^ 63) % 2 ^ 63 = x % 2 ^ 63 := by
    rw [Nat.xor_mod_two_pow, Nat.mod_self, Nat.xor_zero]
  refine ⟨_, m, p, by show Ieee.double.read (x ^^^ 2 ^ 63) = _; rw [read_eq, hm, e2], ?_⟩
  have hd : ((x ^^^ 2 ^ 63) / 2 ^ 63 % 2 == 1) = !(x / 2 ^ 63 % 2 == 1) := by
    rw [Nat.xor_div_two_pow, Nat.div_self (by decide)]
    have hx2 : (x / 2 ^ 63 ^^^ 1) % 2 = (x / 2 ^ 63 % 2) ^^^ 1 := by
      have := Nat.xor_mod_two_pow (a := x / 2 ^ 63) (b := 1) (n := 1)
      simpa using this
    rw [hx2]
    rcases Nat.mod_two_eq_zero_or_one (x / 2 ^ 63) with h0 | h0 <;> rw [h0] <;> rfl
  rw [hd, ← e1]
  have hs : sg (!s) m = -sg s m := by cases s <;> simp [sg]
  rw [hs, Int.neg_mul, h, Int.neg_mul]
theorem low_I {x : Nat} {a : Int} (hx : isI x a) : isI (x % 2 ^ 63) (a.natAbs : Int) := by
  obtain ⟨s, m, p, e, h⟩ := hx
  rw [read_eq] at e
  obtain ⟨e1, e2⟩ := rdW_number e
  refine ⟨false, m, p, ?_, ?_⟩
  · have h0 : ((x % 2 ^ 63) / 2 ^ 63 % 2 == 1) = false := by rw [Nat.div_eq_of_lt (Nat.mod_lt _ (by decide))]; rfl
    rw [read_eq, h0, Nat.mod_mod, e2]
  · have := congrArg Int.natAbs h
    rw [Int.natAbs_mul, Int.natAbs_mul, sg_natAbs, Int.natAbs_pow, Int.natAbs_pow] at this
    have h2 : (Int.natAbs 2) = 2 := rfl
    rw [h2] at this
    show (m : Int) * 2 ^ p.toNat = _
    have h3 : ((m * 2 ^ p.toNat : Nat) : Int) = ((a.natAbs * 2 ^ (-p).toNat : Nat) : Int) := by rw [this]
    simpa using h3
theorem Abs_I {x : Nat} {a : Int} (hx : isI x a) : ∃ r, F_math_Abs x = some r ∧ isI r (a.natAbs : Int) := by
  refine ⟨x % 2 ^ 63, ?_, low_I hx⟩
  unfold F_math_Abs
  simp only [L_bits, L_frombits, Option.bind_some]
  congr 1
  show (IntKind.wrap .u64 ((BitVec.ofInt 64 (x : Int) &&& ~~~(BitVec.ofInt 64 9223372036854775808)).toNat : Int)).toNat = _
  have e1 : (~~~(BitVec.ofInt 64 9223372036854775808)).toNat = 2 ^ 63 - 1 := by decide
  have e2 : (BitVec.ofInt 64 (x : Int)).toNat = x % 2 ^ 64 := by simp [BitVec.toNat_ofInt]
  have e3 : (BitVec.ofInt 64 (x : Int) &&& ~~~(BitVec.ofInt 64 9223372036854775808)).toNat = x % 2 ^ 63 := by
    rw [BitVec.toNat_and, e1, e2, Nat.and_two_pow_sub_one_eq_mod, Nat.mod_mod_of_dvd _ (Nat.pow_dvd_pow 2 (by decide))]
  rw [e3]
  have hlt : x % 2 ^ 63 < 2 ^ 63 := Nat.mod_lt _ (by decide)
  have hw : IntKind.wrap .u64 ((x % 2 ^ 63 : Nat) : Int) = ((x % 2 ^ 63 : Nat) : Int) := by
    have e : ∀ z : Int, IntKind.wrap .u64 z = z % 18446744073709551616 := fun z => by simp [IntKind.wrap, IntKind.bits, IntKind.signed]
    rw [e]; omega
  rw [hw, Int.toNat_natCast]
theorem Trunc_I {x : Nat} {a : Int} (hx : isI x a) (ha : a.natAbs ≤ 9007199254740992) : ∃ r, F_math_Trunc x = some r ∧ isI r a := by
  have ht := toInt_I hx
  obtain ⟨s, m, p, e, h⟩ := hx
  have hd : FloatKind.f64.decode x = .number s m p := e
  rw [e] at ht
  simp only [Ieee.Datum.toInt, Ieee.Datum.integral] at ht
  injection ht with ht
  unfold F_math_Trunc L_archTrunc
  rw [hd]
  simp only [Ieee.Datum.integral, Option.bind_some]
  refine ⟨_, rfl, Is.write ⟨_, _, _, rfl, ?_⟩ ha⟩
  rw [signed_eq] at ht
  simpa using ht
theorem million_I : isI 4696837146684686336 1000000 := ⟨false, 8589934592000000, -33, by decide, by decide⟩
theorem zero_I : isI 0 0 := ⟨false, 0, -1074, by decide, by rw [show sg false 0 = 0 from rfl, Int.zero_mul, Int.zero_mul]⟩
def inB (a : Int) : Bool := decide (-1000000 ≤ a) && decide (a ≤ 1000000)
theorem part_I {x : Nat} {a : Int} (hx : isI x a) (ha : a.natAbs ≤ 9007199254740992) : F_trace_part x = some (inB a) := by
  obtain ⟨r, h1, h2⟩ := Trunc_I hx ha
  obtain ⟨q, h3, h4⟩ := Abs_I hx
  unfold F_trace_part
  rw [h1, Option.bind_some]
  simp only [letJ, feq_I hx h2, decide_true, cond_true, h3, Option.bind_some, fle_I h4 million_I]
  congr 1
  unfold inB
  rw [← Bool.decide_and]
  congr 1
  simp only [eq_iff_iff]
  omega
/-- A spot, by whole numbers. -/
def Sp (z : Nat × Nat) (p : Int × Int) : Prop := isI z.1 p.1 ∧ isI z.2 p.2
theorem spot_I {z : Nat × Nat} {p : Int × Int} (h : Sp z p) (h1 : p.1.natAbs ≤ 9007199254740992) (h2 : p.2.natAbs ≤ 9007199254740992) : F_trace_spot z = some (inB p.1 && inB p.2) := by
  unfold F_trace_spot
  rw [part_I h.1 h1, Option.bind_some]
  simp only [letJ, part_I h.2 h2, Option.bind_some]
  cases inB p.1 <;> rfl
theorem csub_I {z w : Nat × Nat} {p q : Int × Int} (h : Sp z p) (g : Sp w q) (h1 : (p.1 - q.1).natAbs ≤ 9007199254740992) (h2 : (p.2 - q.2).natAbs ≤ 9007199254740992) : ∃ r, csub z w = some r ∧ Sp r (p.1 - q.1, p.2 - q.2) := by
  obtain ⟨r, e1, e2⟩ := fsub_I h.1 g.1 h1
  obtain ⟨s, e3, e4⟩ := fsub_I h.2 g.2 h2
  exact ⟨(r, s), by simp [csub, e1, e3], e2, e4⟩
def crs (u v : Int × Int) : Int := u.1 * v.2 - u.2 * v.1
theorem abs_mul_le {a b : Int} {m n : Nat} (h1 : a.natAbs ≤ m) (h2 : b.natAbs ≤ n) : (a * b).natAbs ≤ m * n := by rw [Int.natAbs_mul]; exact Nat.mul_le_mul h1 h2
theorem cross_I {z w : Nat × Nat} {u v : Int × Int} (h : Sp z u) (g : Sp w v) (h1 : u.1.natAbs ≤ 10000000) (h2 : u.2.natAbs ≤ 10000000) (h3 : v.1.natAbs ≤ 10000000) (h4 : v.2.natAbs ≤ 10000000) :
    ∃ r, F_trace_cross z w = some r ∧ isI r (crs u v) := by
  have hn := fneg_I h.2
  have b1 := abs_mul_le h1 h3
  have b2 := abs_mul_le h2 h4
  have b3 := abs_mul_le h1 h4
  have b4 := abs_mul_le h2 h3
  have b2' : (-u.2 * v.2).natAbs ≤ 10000000 * 10000000 := by rw [Int.neg_mul, Int.natAbs_neg]; exact b2
  have b4' : (-u.2 * v.1).natAbs ≤ 10000000 * 10000000 := by rw [Int.neg_mul, Int.natAbs_neg]; exact b4
  obtain ⟨r1, e1, i1⟩ := fmul_I h.1 g.1 (by omega)
  obtain ⟨r2, e2, i2⟩ := fmul_I hn g.2 (by omega)
  obtain ⟨r3, e3, i3⟩ := fmul_I h.1 g.2 (by omega)
  obtain ⟨r4, e4, i4⟩ := fmul_I hn g.1 (by omega)
  obtain ⟨r5, e5, i5⟩ := fsub_I i1 i2 (by omega)
  obtain ⟨r6, e6, i6⟩ := fadd_I i3 i4 (by omega)
  refine ⟨r6, ?_, ?_⟩
  · unfold F_trace_cross cmul
    simp only [e1, e2, e3, e4, e5, e6, Option.bind_some, Option.map_some]
  · have : crs u v = u.1 * v.2 + -u.2 * v.1 := by unfold crs; rw [Int.neg_mul]; omega
    rw [this]; exact i6
end Go.Proofs.YtocfjohangcajaaDoor

namespace Go.Proofs.YtocfjohangcajaaDoor
theorem awake_t : F_lecternlaw10_awake = some true := by kernel_rfl
end Go.Proofs.YtocfjohangcajaaDoor

namespace Go.Proofs.YtocfjohangcajaaDoor
open Fl
/-- A spot within the limits. -/
def InB (p : Int × Int) : Prop := -1000000 ≤ p.1 ∧ p.1 ≤ 1000000 ∧ -1000000 ≤ p.2 ∧ p.2 ≤ 1000000
theorem spot_in {z : Nat × Nat} {p : Int × Int} (h : Sp z p) (hb : InB p) : F_trace_spot z = some true := by
  obtain ⟨b1, b2, b3, b4⟩ := hb
  rw [spot_I h (by omega) (by omega)]
  unfold inB
  rw [decide_eq_true b1, decide_eq_true b2, decide_eq_true b3, decide_eq_true b4]; rfl
/-- Spots and their whole numbers. -/
structure SpL (zs : List (Nat × Nat)) (ps : List (Int × Int)) : Prop where
  len : zs.length = ps.length
  sp : ∀ (i : Nat) (h1 : i < zs.length) (h2 : i < ps.length), Sp zs[i] ps[i]
  inb : ∀ p ∈ ps, InB p
theorem SpL.good {zs : List (Nat × Nat)} {ps : List (Int × Int)} (H : SpL zs ps) (i : Nat) (h : i < zs.length) : F_trace_spot zs[i] = some true :=
  spot_in (H.sp i h (by rw [← H.len]; exact h)) (H.inb _ (List.getElem_mem _))
theorem contains_no {zs : List (Nat × Nat)} {ps : List (Int × Int)} (H : SpL zs ps) (hl : zs.length ≤ 1000000) : F_slices_ContainsFunc_complex128_complex128 zs F_trace_right_1 = some false := by
  unfold F_slices_ContainsFunc_complex128_complex128 F_slices_IndexFunc_complex128_complex128
  obtain ⟨o, h1, h2⟩ := iter_spec (b := F_slices_IndexFunc_complex128_complex128_l0 zs F_trace_right_1) (fun i x => x = (i : Int)) (fun o => o = .inl ()) zs.length (x0 := (0 : Int)) rfl
    (fun i x rec hi hx => .inl ⟨((i + 1 : Nat) : Int), by
      subst hx
      unfold F_slices_IndexFunc_complex128_complex128_l0
      rw [decide_eq_true (by omega), cond_true, idx_some hi, Option.bind_some]
      simp only [F_trace_right_1, H.good i hi, Option.bind_some, Bool.not_true, cond_false]
      rw [w64 (by omega) (by omega)]; rfl, rfl⟩)
    (fun x rec hx => ⟨.inl (), by
      subst hx
      unfold F_slices_IndexFunc_complex128_complex128_l0
      rw [decide_eq_false (by omega), cond_false], rfl⟩) (n := FUEL) (by unfold FUEL; omega)
  simp only [letJ, h1, h2, Option.bind_some]; rfl
def lens (f : List T_trace_Stroke) : Nat := (f.map fun t => t.Spots.length).sum
theorem lens_take (f : List T_trace_Stroke) (i : Nat) (h : i < f.length) : lens (f.take (i + 1)) = lens (f.take i) + f[i].Spots.length := by
  unfold lens
  rw [List.take_add_one, List.getElem?_eq_getElem h, Option.toList_some, List.map_append, List.sum_append]; simp
theorem lens_le (f : List T_trace_Stroke) (i : Nat) : lens (f.take i) ≤ lens f := by
  conv => rhs; rw [← List.take_append_drop i f]
  unfold lens
  rw [List.map_append, List.sum_append]; omega
/-- A right figure of whole numbers. -/
structure Fig (f : List T_trace_Stroke) : Prop where
  st : ∀ (i : Nat) (h : i < f.length), f[i].Spots ≠ [] ∧ ∃ ps, SpL f[i].Spots ps
  tot : lens f ≤ 500
  len : f.length ≤ 500
theorem Fig.small {f : List T_trace_Stroke} (H : Fig f) (i : Nat) (h : i < f.length) : f[i].Spots.length ≤ 500 := by
  have h1 := lens_take f i h
  have h2 := lens_le f (i + 1)
  have := H.tot; omega
theorem right_ok {f : List T_trace_Stroke} (H : Fig f) : F_trace_right f = some true := by
  have hlen := H.len
  have htot := H.tot
  unfold F_trace_right
  obtain ⟨o, h1, h2⟩ := iter_spec (b := F_trace_right_l0 f) (fun i x => x = ((lens (f.take i) : Int), (i : Int))) (fun o => o = .inl (lens f : Int)) f.length (x0 := ((0 : Int), (0 : Int))) (by simp [lens])
    (fun i x rec hi hx => .inl ⟨((lens (f.take (i + 1)) : Int), ((i + 1 : Nat) : Int)), by
      subst hx
      obtain ⟨hne, ps, hsp⟩ := H.st i hi
      have hs := H.small i hi
      have hz : (f[i].Spots.length : Int) ≠ 0 := by
        have : f[i].Spots.length ≠ 0 := fun h => hne (List.eq_nil_of_length_eq_zero h)
        omega
      have hb : ((f[i].Spots.length : Int) == 0) = false := by simpa using hz
      have hle := lens_le f i
      unfold F_trace_right_l0
      simp only [letJ]
      rw [decide_eq_true (by omega), cond_true, idx_some hi, Option.bind_some]
      rw [hb, cond_false, contains_no hsp (by omega), Option.bind_some, cond_false, w64 (x := (lens (f.take i) : Int) + _) (by omega) (by omega), w64 (x := (i : Int) + 1) (by omega) (by omega), lens_take f i hi]
      simp, rfl⟩)
    (fun x rec hx => ⟨.inl (lens f : Int), by
      subst hx
      unfold F_trace_right_l0
      simp only [letJ]
      rw [decide_eq_false (by omega), cond_false, List.take_length], rfl⟩) (n := FUEL) (by unfold FUEL; omega)
  simp only [letJ, h1, h2, Option.bind_some]
  rw [decide_eq_true (by omega)]
/-! ## Around -/
/-- What an edge does: none: the spot is on it; else how often it is gone round by it. -/
def edg (p a b : Int × Int) : Option Int :=
  if crs (a.1 - p.1, a.2 - p.2) (b.1 - p.1, b.2 - p.2) = 0 ∧ (a.1 - p.1) * (b.1 - p.1) ≤ 0 ∧ (a.2 - p.2) * (b.2 - p.2) ≤ 0 then none
  else if a.2 - p.2 ≤ 0 ∧ 0 < b.2 - p.2 ∧ 0 < crs (a.1 - p.1, a.2 - p.2) (b.1 - p.1, b.2 - p.2) then some 1
  else if 0 < a.2 - p.2 ∧ b.2 - p.2 ≤ 0 ∧ crs (a.1 - p.1, a.2 - p.2) (b.1 - p.1, b.2 - p.2) < 0 then some (-1)
  else some 0
theorem edg_b {p a b : Int × Int} {d : Int} (h : edg p a b = some d) : -1 ≤ d ∧ d ≤ 1 := by
  unfold edg at h
  split at h
  · simp at h
  · split at h
    · injection h with h; omega
    · split at h <;> (injection h with h; omega)
/-- The first i edges. -/
def arF (p : Int × Int) (ps : List (Int × Int)) (n : Int) : Nat → Option Int
  | 0 => some n
  | i + 1 => (arF p ps n i).bind fun m => (edg p (ps.getD i (0, 0)) (ps.getD ((i + 1) % ps.length) (0, 0))).map (m + ·)
theorem arF_b (p : Int × Int) (ps : List (Int × Int)) (n : Int) : ∀ (i : Nat) (m : Int), arF p ps n i = some m → n - i ≤ m ∧ m ≤ n + i
  | 0, m, h => by simp only [arF] at h; injection h with h; omega
  | i + 1, m, h => by
    simp only [arF] at h
    cases ha : arF p ps n i with
    | none => rw [ha] at h; simp at h
    | some k =>
      have := arF_b p ps n i k ha
      rw [ha] at h
      simp only [Option.bind_some] at h
      cases he : edg p (ps.getD i (0, 0)) (ps.getD ((i + 1) % ps.length) (0, 0)) with
      | none => rw [he] at h; simp at h
      | some d =>
        have := edg_b he
        rw [he] at h
        simp at h
        omega
theorem tmod_nat (a b : Nat) : ((a : Int).tmod (b : Int)) = ((a % b : Nat) : Int) := by
  rw [Int.tmod_eq_emod_of_nonneg (by omega)]; simp
theorem nzI_some {n : Nat} (h : n ≠ 0) : nzI (n : Int) = some (n : Int) := by unfold nzI; rw [if_neg (by omega)]
theorem around_l1 {z : Nat × Nat} {p : Int × Int} (hz : Sp z p) (hp : InB p) (t : T_trace_Stroke) {ps : List (Int × Int)} (H : SpL t.Spots ps) (hne : ps ≠ []) (hl : ps.length ≤ 500) (hc : t.Closed = true) (n : Int) (hn : -1000000 ≤ n ∧ n ≤ 1000000) :
    iter (F_trace_Around_l1 z t) FUEL (n, (0 : Int)) = some (match arF p ps n ps.length with | some m => .inl m | none => .inr ((0 : Int), true, (0 : Int))) := by
  have hL : t.Spots.length = ps.length := H.len
  have hl0 : ps.length ≠ 0 := fun h => hne (List.eq_nil_of_length_eq_zero h)
  have mono : ∀ j i : Nat, arF p ps n i = none → arF p ps n (i + j) = none := by
    intro j
    induction j with
    | zero => intro i h; exact h
    | succ j ih => intro i h; rw [← Nat.add_assoc, arF, ih i h]; rfl
  obtain ⟨o, h1, h2⟩ := iter_spec (b := F_trace_Around_l1 z t) (fun i x => ∃ m, arF p ps n i = some m ∧ x = (m, (i : Int)))
    (fun o => o = match arF p ps n ps.length with | some m => .inl m | none => .inr ((0 : Int), true, (0 : Int))) ps.length (x0 := (n, (0 : Int))) ⟨n, rfl, rfl⟩
    (fun i x rec hi ⟨m, hm, hx⟩ => by
      subst hx
      have hi' : i < t.Spots.length := by omega
      have hj : (i + 1) % ps.length < ps.length := Nat.mod_lt _ (by omega)
      have hj' : (i + 1) % ps.length < t.Spots.length := by omega
      obtain ⟨p1, p2, p3, p4⟩ := hp
      obtain ⟨a1, a2, a3, a4⟩ := H.inb ps[i] (List.getElem_mem _)
      obtain ⟨b1, b2, b3, b4⟩ := H.inb ps[(i + 1) % ps.length] (List.getElem_mem _)
      have hmb := arF_b p ps n i m hm
      have ga : ps.getD i (0, 0) = ps[i] := by simp [List.getD, hi]
      have gb : ps.getD ((i + 1) % ps.length) (0, 0) = ps[(i + 1) % ps.length] := by simp [List.getD, hj]
      have hstep : arF p ps n (i + 1) = (edg p ps[i] ps[(i + 1) % ps.length]).map (m + ·) := by rw [arF, hm, ga, gb]; rfl
      have sa := H.sp i hi' hi
      have sb := H.sp _ hj' hj
      generalize ps[i] = A at *
      generalize ps[(i + 1) % ps.length] = B at *
      obtain ⟨ru, e1, su⟩ := csub_I sa hz (by omega) (by omega)
      obtain ⟨rv, e2, sv⟩ := csub_I sb hz (by omega) (by omega)
      obtain ⟨rc, e3, sc⟩ := cross_I su sv (by simp only; omega) (by simp only; omega) (by simp only; omega) (by simp only; omega)
      have m1 := abs_mul_le (a := A.1 - p.1) (b := B.1 - p.1) (m := 2000000) (n := 2000000) (by omega) (by omega)
      have m2 := abs_mul_le (a := A.2 - p.2) (b := B.2 - p.2) (m := 2000000) (n := 2000000) (by omega) (by omega)
      obtain ⟨r7, e7, s7⟩ := fmul_I su.1 sv.1 (by simp only; omega)
      obtain ⟨r8, e8, s8⟩ := fmul_I su.2 sv.2 (by simp only; omega)
      have hb : F_trace_Around_l1 z t rec (m, (i : Int)) = match edg p A B with | none => some (.inr ((0 : Int), true, (0 : Int))) | some d => rec (m + d, ((i + 1 : Nat) : Int)) := by
        unfold F_trace_Around_l1
        simp only [letJ]
        rw [decide_eq_true (by omega), cond_true, idx_some hi', Option.bind_some, hc, Bool.not_true, cond_false, e1, Option.bind_some, hL, nzI_some hl0, Option.bind_some, w64 (x := (i : Int) + 1) (by omega) (by omega)]
        rw [show ((i : Int) + 1) = ((i + 1 : Nat) : Int) by omega, tmod_nat, idx_some hj', Option.bind_some, e2, Option.bind_some, e3, Option.bind_some]
        simp only [e7, e8, Option.bind_some, feq_I sc zero_I, fle_I s7 zero_I, fle_I s8 zero_I, fle_I su.2 zero_I, fgt_I sv.2 zero_I, fgt_I sc zero_I, fgt_I su.2 zero_I, fle_I sv.2 zero_I, flt_I sc zero_I]
        rw [w64 (x := m + 1) (by omega) (by omega), w64 (x := m - 1) (by omega) (by omega)]
        unfold edg
        generalize crs (A.1 - p.1, A.2 - p.2) (B.1 - p.1, B.2 - p.2) = C
        generalize (A.1 - p.1) * (B.1 - p.1) = M1
        generalize (A.2 - p.2) * (B.2 - p.2) = M2
        generalize A.2 - p.2 = Y1
        generalize B.2 - p.2 = Y2
        by_cases c1 : C = 0
        · have n1 : ¬ 0 < C := by omega
          have n2 : ¬ C < 0 := by omega
          by_cases c2 : M1 ≤ 0
          · by_cases c3 : M2 ≤ 0
            · simp [c1, c2, c3]
            · simp [c1, c2, c3]
          · simp [c1, c2]
        · by_cases c4 : Y1 ≤ 0
          · have c4' : ¬ 0 < Y1 := by omega
            by_cases c5 : 0 < Y2
            · by_cases c6 : 0 < C
              · simp [c1, c4, c5, c6]
              · simp [c1, c4, c4', c5, c6]
            · simp [c1, c4, c4', c5]
          · have c4' : 0 < Y1 := by omega
            by_cases c5 : Y2 ≤ 0
            · by_cases c6 : C < 0
              · simp [c1, c4, c4', c5, c6]; rfl
              · simp [c1, c4, c4', c5, c6]
            · simp [c1, c4, c4', c5]
      cases he : edg p A B with
      | none =>
        right
        rw [he] at hb hstep
        refine ⟨_, hb, ?_⟩
        have hno : arF p ps n (i + 1) = none := hstep
        have := mono (ps.length - (i + 1)) (i + 1) hno
        rw [show i + 1 + (ps.length - (i + 1)) = ps.length by omega] at this
        rw [this]
      | some d =>
        left
        rw [he] at hb hstep
        exact ⟨_, hb, m + d, hstep, rfl⟩)
    (fun x rec ⟨m, hm, hx⟩ => ⟨.inl m, by
      subst hx
      unfold F_trace_Around_l1
      simp only [letJ]
      rw [decide_eq_false (by omega), cond_false], by rw [hm]⟩) (n := FUEL) (by unfold FUEL; omega)
  rw [h1, h2]
/-- A stroke that is not closed. -/
theorem around_l1_open {z : Nat × Nat} (t : T_trace_Stroke) (hne : t.Spots ≠ []) (hc : t.Closed = false) (n : Int) : iter (F_trace_Around_l1 z t) FUEL (n, (0 : Int)) = some (.inl n) := by
  have hl0 : 0 < t.Spots.length := List.length_pos_iff.2 hne
  have hF : FUEL = (FUEL - 1) + 1 := by unfold FUEL; rfl
  rw [hF]
  show F_trace_Around_l1 z t (iter (F_trace_Around_l1 z t) (FUEL - 1)) (n, (0 : Int)) = _
  unfold F_trace_Around_l1
  simp only [letJ]
  rw [decide_eq_true (by omega), cond_true, show (0 : Int) = ((0 : Nat) : Int) from rfl, idx_some hl0, Option.bind_some, hc]; rfl
end Go.Proofs.YtocfjohangcajaaDoor

namespace Go.Proofs.YtocfjohangcajaaDoor
open Fl
/-! ## Figures and their whole numbers -/
abbrev FgW := List (List (Int × Int) × Bool)
structure FigW (f : List T_trace_Stroke) (L : FgW) : Prop where
  len : f.length = L.length
  st : ∀ (i : Nat) (h1 : i < f.length) (h2 : i < L.length), f[i].Spots ≠ [] ∧ SpL f[i].Spots L[i].1 ∧ f[i].Closed = L[i].2
  tot : lens f ≤ 500
  cnt : f.length ≤ 500
theorem FigW.fig {f : List T_trace_Stroke} {L : FgW} (H : FigW f L) : Fig f where
  st := fun i h => ⟨(H.st i h (by rw [← H.len]; exact h)).1, _, (H.st i h (by rw [← H.len]; exact h)).2.1⟩
  tot := H.tot
  len := H.cnt
theorem FigW.ne {f : List T_trace_Stroke} {L : FgW} (H : FigW f L) (i : Nat) (h1 : i < f.length) (h2 : i < L.length) : L[i].1 ≠ [] := by
  obtain ⟨h, h3, _⟩ := H.st i h1 h2
  intro h4
  have := h3.len
  rw [h4] at this
  exact h (List.eq_nil_of_length_eq_zero this)
theorem FigW.small {f : List T_trace_Stroke} {L : FgW} (H : FigW f L) (i : Nat) (h1 : i < f.length) (h2 : i < L.length) : L[i].1.length ≤ 500 := by
  rw [← (H.st i h1 h2).2.1.len]
  exact H.fig.small i h1
/-! ## Around -/
def arS (p : Int × Int) (n : Int) (x : List (Int × Int) × Bool) : Option Int := if x.2 then arF p x.1 n x.1.length else some n
def arT (p : Int × Int) (L : FgW) : Nat → Option Int
  | 0 => some 0
  | i + 1 => (arT p L i).bind fun n => arS p n (L.getD i ([], false))
theorem arT_b (p : Int × Int) (f : List T_trace_Stroke) (L : FgW) (H : FigW f L) : ∀ (i : Nat) (m : Int), i ≤ f.length → arT p L i = some m → -(lens (f.take i) : Int) ≤ m ∧ m ≤ (lens (f.take i) : Int)
  | 0, m, _, h => by simp only [arT] at h; injection h with h; subst h; simp [lens]
  | i + 1, m, hi, h => by
    simp only [arT] at h
    have h2 : i < L.length := by rw [← H.len]; omega
    cases ha : arT p L i with
    | none => rw [ha] at h; simp at h
    | some k =>
      have := arT_b p f L H i k (by omega) ha
      have ht := lens_take f i (by omega)
      have hs := (H.st i (by omega) h2).2.1.len
      rw [ha, Option.bind_some, show L.getD i ([], false) = L[i] by simp [List.getD, h2]] at h
      unfold arS at h
      split at h
      · have := arF_b p _ k _ m h
        omega
      · injection h with h; omega
/-- Around, at a right figure and a right spot. -/
theorem around_W {f : List T_trace_Stroke} {L : FgW} (H : FigW f L) {z : Nat × Nat} {p : Int × Int} (hz : Sp z p) (hp : InB p) :
    F_trace_Around f z = some (match arT p L L.length with | some m => (m, false, 0) | none => (0, true, 0)) := by
  have hlen := H.len
  have hcnt := H.cnt
  have htot := H.tot
  have mono : ∀ j i : Nat, arT p L i = none → arT p L (i + j) = none := by
    intro j
    induction j with
    | zero => intro i h; exact h
    | succ j ih => intro i h; rw [← Nat.add_assoc, arT, ih i h]; rfl
  obtain ⟨o, h1, h2⟩ := iter_spec (b := F_trace_Around_l0 f z) (fun i x => ∃ m, arT p L i = some m ∧ x = (m, (i : Int)))
    (fun o => o = match arT p L L.length with | some m => .inl m | none => .inr ((0 : Int), true, (0 : Int))) f.length (x0 := ((0 : Int), (0 : Int))) ⟨0, rfl, rfl⟩
    (fun i x rec hi ⟨m, hm, hx⟩ => by
      subst hx
      have hi' : i < L.length := by omega
      obtain ⟨hne, hsp, hcl⟩ := H.st i hi hi'
      have hmb := arT_b p f L H i m (by omega) hm
      have hle := lens_le f i
      have hstep : arT p L (i + 1) = arS p m L[i] := by rw [arT, hm, Option.bind_some, show L.getD i ([], false) = L[i] by simp [List.getD, hi']]
      have hb : F_trace_Around_l0 f z rec (m, (i : Int)) = match arS p m L[i] with | none => some (.inr ((0 : Int), true, (0 : Int))) | some d => rec (d, ((i + 1 : Nat) : Int)) := by
        unfold F_trace_Around_l0
        simp only [letJ]
        rw [decide_eq_true (by omega), cond_true, idx_some hi, Option.bind_some, w64 (x := (i : Int) + 1) (by omega) (by omega)]
        unfold arS
        cases hc : L[i].2 with
        | true =>
          rw [if_pos rfl, around_l1 hz hp f[i] hsp (H.ne i hi hi') (H.small i hi hi') (by rw [hcl, hc]) m (by omega), Option.bind_some]
          cases arF p L[i].1 m L[i].1.length <;> simp
        | false =>
          rw [if_neg (by simp), around_l1_open f[i] hne (by rw [hcl, hc]) m, Option.bind_some]
          simp
      cases he : arS p m L[i] with
      | none =>
        right
        rw [he] at hb hstep
        refine ⟨_, hb, ?_⟩
        have := mono (L.length - (i + 1)) (i + 1) hstep
        rw [show i + 1 + (L.length - (i + 1)) = L.length by omega] at this
        rw [this]
      | some d =>
        left
        rw [he] at hb hstep
        exact ⟨_, hb, d, hstep, rfl⟩)
    (fun x rec ⟨m, hm, hx⟩ => ⟨.inl m, by
      subst hx
      unfold F_trace_Around_l0
      simp only [letJ]
      rw [decide_eq_false (by omega), cond_false], by rw [← hlen, hm]⟩) (n := FUEL) (by unfold FUEL; omega)
  unfold F_trace_Around
  rw [right_ok H.fig, Option.bind_some]
  simp only [letJ, Bool.not_true, cond_false, spot_in hz hp, Option.bind_some, h1, h2]
  cases arT p L L.length <;> rfl
/-! ## Area -/
def aF (ps : List (Int × Int)) (s : Int) : Nat → Int
  | 0 => s
  | i + 1 => aF ps s i + crs (ps.getD i (0, 0)) (ps.getD ((i + 1) % ps.length) (0, 0))
theorem crs_b {a b : Int × Int} (ha : InB a) (hb : InB b) : (crs a b).natAbs ≤ 2000000000000 := by
  obtain ⟨a1, a2, a3, a4⟩ := ha
  obtain ⟨b1, b2, b3, b4⟩ := hb
  have m1 := abs_mul_le (a := a.1) (b := b.2) (m := 1000000) (n := 1000000) (by omega) (by omega)
  have m2 := abs_mul_le (a := a.2) (b := b.1) (m := 1000000) (n := 1000000) (by omega) (by omega)
  unfold crs
  omega
theorem aF_b {ps : List (Int × Int)} (H : ∀ p ∈ ps, InB p) (hne : ps ≠ []) (s : Int) : ∀ i : Nat, i ≤ ps.length → (aF ps s i - s).natAbs ≤ i * 2000000000000
  | 0, _ => by simp [aF]
  | i + 1, h => by
    have ih := aF_b H hne s i (by omega)
    have hl0 : ps.length ≠ 0 := fun h => hne (List.eq_nil_of_length_eq_zero h)
    have hi : i < ps.length := by omega
    have hj : (i + 1) % ps.length < ps.length := Nat.mod_lt _ (by omega)
    have ga : ps.getD i (0, 0) = ps[i] := by simp [List.getD, hi]
    have gb : ps.getD ((i + 1) % ps.length) (0, 0) = ps[(i + 1) % ps.length] := by simp [List.getD, hj]
    have := crs_b (H ps[i] (List.getElem_mem _)) (H ps[(i + 1) % ps.length] (List.getElem_mem _))
    rw [aF, ga, gb]
    omega
theorem area_l1 (t : T_trace_Stroke) {ps : List (Int × Int)} (H : SpL t.Spots ps) (hne : ps ≠ []) (hl : ps.length ≤ 500) (hc : t.Closed = true) {a : Nat} {s : Int} (ha : isI a s) (hs : s.natAbs ≤ 1000000000000000) :
    ∃ r, iter (F_trace_Area_l1 t) FUEL (a, (0 : Int)) = some r ∧ isI r (aF ps s ps.length) := by
  have hL : t.Spots.length = ps.length := H.len
  have hl0 : ps.length ≠ 0 := fun h => hne (List.eq_nil_of_length_eq_zero h)
  obtain ⟨o, h1, h2⟩ := iter_spec (b := F_trace_Area_l1 t) (fun i x => ∃ r, isI r (aF ps s i) ∧ x = (r, (i : Int)))
    (fun o => isI o (aF ps s ps.length)) ps.length (x0 := (a, (0 : Int))) ⟨a, ha, rfl⟩
    (fun i x rec hi ⟨r, hr, hx⟩ => by
      subst hx
      have hi' : i < t.Spots.length := by omega
      have hj : (i + 1) % ps.length < ps.length := Nat.mod_lt _ (by omega)
      have hj' : (i + 1) % ps.length < t.Spots.length := by omega
      have ia := H.inb ps[i] (List.getElem_mem _)
      have ib := H.inb ps[(i + 1) % ps.length] (List.getElem_mem _)
      obtain ⟨a1, a2, a3, a4⟩ := ia
      obtain ⟨b1, b2, b3, b4⟩ := ib
      have hb1 := aF_b H.inb hne s i (by omega)
      have hb2 := aF_b H.inb hne s (i + 1) (by omega)
      have ga : ps.getD i (0, 0) = ps[i] := by simp [List.getD, hi]
      have gb : ps.getD ((i + 1) % ps.length) (0, 0) = ps[(i + 1) % ps.length] := by simp [List.getD, hj]
      have hstep : aF ps s (i + 1) = aF ps s i + crs ps[i] ps[(i + 1) % ps.length] := by rw [aF, ga, gb]
      have sa := H.sp i hi' hi
      have sb := H.sp _ hj' hj
      obtain ⟨rc, e3, sc⟩ := cross_I sa sb (by omega) (by omega) (by omega) (by omega)
      obtain ⟨r9, e9, s9⟩ := fadd_I hr sc (by rw [← hstep]; omega)
      left
      refine ⟨(r9, ((i + 1 : Nat) : Int)), ?_, r9, by rw [hstep]; exact s9, rfl⟩
      unfold F_trace_Area_l1
      simp only [letJ]
      rw [decide_eq_true (by omega), cond_true, idx_some hi', Option.bind_some, hc, cond_true, hL, nzI_some hl0, Option.bind_some, w64 (x := (i : Int) + 1) (by omega) (by omega)]
      rw [show ((i : Int) + 1) = ((i + 1 : Nat) : Int) by omega, tmod_nat, idx_some hj', Option.bind_some, e3, Option.bind_some, e9, Option.bind_some])
    (fun x rec ⟨r, hr, hx⟩ => ⟨r, by
      subst hx
      unfold F_trace_Area_l1
      simp only [letJ]
      rw [decide_eq_false (by omega), cond_false], hr⟩) (n := FUEL) (by unfold FUEL; omega)
  exact ⟨o, h1, h2⟩
theorem area_l1_open (t : T_trace_Stroke) (hl : t.Spots.length ≤ 500) (hc : t.Closed = false) (a : Nat) : iter (F_trace_Area_l1 t) FUEL (a, (0 : Int)) = some a := by
  obtain ⟨o, h1, h2⟩ := iter_spec (b := F_trace_Area_l1 t) (fun i x => x = (a, (i : Int))) (fun o => o = a) t.Spots.length (x0 := (a, (0 : Int))) rfl
    (fun i x rec hi hx => .inl ⟨(a, ((i + 1 : Nat) : Int)), by
      subst hx
      unfold F_trace_Area_l1
      simp only [letJ]
      rw [decide_eq_true (by omega), cond_true, idx_some hi, Option.bind_some, hc, cond_false, w64 (x := (i : Int) + 1) (by omega) (by omega)]; rfl, rfl⟩)
    (fun x rec hx => ⟨a, by
      subst hx
      unfold F_trace_Area_l1
      simp only [letJ]
      rw [decide_eq_false (by omega), cond_false], rfl⟩) (n := FUEL) (by unfold FUEL; omega)
  rw [h1, h2]
def aS (s : Int) (x : List (Int × Int) × Bool) : Int := if x.2 then aF x.1 s x.1.length else s
def aT (L : FgW) : Nat → Int
  | 0 => 0
  | i + 1 => aS (aT L i) (L.getD i ([], false))
theorem aT_b (f : List T_trace_Stroke) (L : FgW) (H : FigW f L) : ∀ (i : Nat), i ≤ f.length → (aT L i).natAbs ≤ lens (f.take i) * 2000000000000
  | 0, _ => by simp [aT]
  | i + 1, hi => by
    have h2 : i < L.length := by rw [← H.len]; omega
    have ih := aT_b f L H i (by omega)
    have ht := lens_take f i (by omega)
    obtain ⟨hne, hsp, hcl⟩ := H.st i (by omega) h2
    have hs := hsp.len
    rw [aT, show L.getD i ([], false) = L[i] by simp [List.getD, h2], ht]
    unfold aS
    split
    · have := aF_b hsp.inb (H.ne i (by omega) h2) (aT L i) _ (Nat.le_refl _)
      rw [hs]
      omega
    · exact Nat.le_trans ih (Nat.mul_le_mul_right _ (Nat.le_add_right _ _))
/-- Area, at a right figure. -/
theorem area_W {f : List T_trace_Stroke} {L : FgW} (H : FigW f L) : ∃ r, F_trace_Area f = some (r, 0) ∧ isI r (aT L L.length) := by
  have hlen := H.len
  have hcnt := H.cnt
  have htot := H.tot
  obtain ⟨o, h1, h2⟩ := iter_spec (b := F_trace_Area_l0 f) (fun i x => ∃ r, isI r (aT L i) ∧ x = (r, (i : Int)))
    (fun o => isI o (aT L L.length)) f.length (x0 := ((0 : Nat), (0 : Int))) ⟨0, zero_I, rfl⟩
    (fun i x rec hi ⟨r, hr, hx⟩ => by
      subst hx
      have hi' : i < L.length := by omega
      obtain ⟨hne, hsp, hcl⟩ := H.st i hi hi'
      have hb := aT_b f L H i (by omega)
      have hle := lens_le f i
      have hstep : aT L (i + 1) = aS (aT L i) L[i] := by rw [aT, show L.getD i ([], false) = L[i] by simp [List.getD, hi']]
      left
      have hsm := H.small i hi hi'
      have key : ∃ r2, iter (F_trace_Area_l1 f[i]) FUEL (r, (0 : Int)) = some r2 ∧ isI r2 (aT L (i + 1)) := by
        rw [hstep]
        unfold aS
        cases hc : L[i].2 with
        | true =>
          rw [if_pos rfl]
          exact area_l1 f[i] hsp (H.ne i hi hi') hsm (by rw [hcl, hc]) hr (by omega)
        | false =>
          rw [if_neg (by simp)]
          exact ⟨r, area_l1_open f[i] (by rw [hsp.len]; exact hsm) (by rw [hcl, hc]) r, hr⟩
      obtain ⟨r2, e2, s2⟩ := key
      refine ⟨(r2, ((i + 1 : Nat) : Int)), ?_, r2, s2, rfl⟩
      unfold F_trace_Area_l0
      simp only [letJ]
      rw [decide_eq_true (by omega), cond_true, idx_some hi, Option.bind_some, w64 (x := (i : Int) + 1) (by omega) (by omega), e2, Option.bind_some]; rfl)
    (fun x rec ⟨r, hr, hx⟩ => ⟨r, by
      subst hx
      unfold F_trace_Area_l0
      simp only [letJ]
      rw [decide_eq_false (by omega), cond_false], by rw [← hlen]; exact hr⟩) (n := FUEL) (by unfold FUEL; omega)
  refine ⟨o, ?_, h2⟩
  unfold F_trace_Area
  rw [right_ok H.fig, Option.bind_some]
  simp only [letJ, Bool.not_true, cond_false, h1, Option.bind_some]
/-! ## Signs of products -/
theorem mul_sgn_le {a c : Int} (h : a < c) : a * c ≤ 0 ↔ a ≤ 0 ∧ 0 ≤ c := by
  constructor
  · intro hm
    constructor
    · apply Classical.byContradiction; intro ha
      have := Int.mul_pos (a := a) (b := c) (by omega) (by omega)
      omega
    · apply Classical.byContradiction; intro hc
      have := Int.mul_pos_of_neg_of_neg (a := a) (b := c) (by omega) (by omega)
      omega
  · intro ⟨h1, h2⟩
    exact Int.mul_nonpos_of_nonpos_of_nonneg h1 h2
theorem mul_pos_iff {c d : Int} (h : 0 < d) : 0 < c * d ↔ 0 < c := by
  constructor
  · intro hm
    apply Classical.byContradiction; intro hc
    have := Int.mul_nonpos_of_nonpos_of_nonneg (a := c) (b := d) (by omega) (by omega)
    omega
  · intro hc
    exact Int.mul_pos hc h
theorem mul_zero_iff {c d : Int} (h : 0 < d) : c * d = 0 ↔ c = 0 := by
  rw [Int.mul_eq_zero]
  constructor
  · rintro (h1 | h1) <;> omega
  · intro h1; exact .inl h1
theorem sq_nonneg (c : Int) : 0 ≤ c * c := by
  rcases Int.le_total 0 c with h | h
  · exact Int.mul_nonneg h h
  · exact Int.mul_nonneg_of_nonpos_of_nonpos h h
theorem sq_le (c : Int) : c * c ≤ 0 ↔ c = 0 := by
  have := sq_nonneg c
  constructor
  · intro h
    have : c * c = 0 := by omega
    rcases Int.mul_eq_zero.1 this with h | h <;> exact h
  · intro h; subst h; decide
/-! ## A box's edges -/
/-- Upward. -/
theorem edg_up {c y t u v : Int} (h : y < t) : edg (u, v) (c, y) (c, t) = if u = c ∧ y ≤ v ∧ v ≤ t then none else if y ≤ v ∧ v < t ∧ u < c then some 1 else some 0 := by
  have hc : crs (c - u, y - v) (c - u, t - v) = (c - u) * (t - y) := by unfold crs; grind
  unfold edg
  simp only [hc, mul_zero_iff (show 0 < t - y by omega), mul_pos_iff (show 0 < t - y by omega), sq_le, mul_sgn_le (show y - v < t - v by omega)]
  by_cases h1 : u = c ∧ y ≤ v ∧ v ≤ t
  · rw [if_pos h1, if_pos (by omega)]
  · rw [if_neg h1, if_neg (by omega)]
    by_cases h2 : y ≤ v ∧ v < t ∧ u < c
    · rw [if_pos h2, if_pos (by omega)]
    · rw [if_neg h2, if_neg (by omega), if_neg (by omega)]
/-- Downward. -/
theorem edg_down {c y t u v : Int} (h : y < t) : edg (u, v) (c, t) (c, y) = if u = c ∧ y ≤ v ∧ v ≤ t then none else if y ≤ v ∧ v < t ∧ u < c then some (-1) else some 0 := by
  have hc : crs (c - u, t - v) (c - u, y - v) = -((c - u) * (t - y)) := by unfold crs; grind
  have hz : (-((c - u) * (t - y)) = 0) = (c - u = 0) := by
    have := mul_zero_iff (c := c - u) (show 0 < t - y by omega)
    apply propext; constructor
    · intro h; exact this.1 (by omega)
    · intro h; have := this.2 h; omega
  have hp : (-((c - u) * (t - y)) < 0) = (0 < c - u) := by
    have := mul_pos_iff (c := c - u) (show 0 < t - y by omega)
    apply propext; constructor
    · intro h; exact this.1 (by omega)
    · intro h; have := this.2 h; omega
  have hm : (t - v) * (y - v) ≤ 0 ↔ y - v ≤ 0 ∧ 0 ≤ t - v := by rw [Int.mul_comm]; exact mul_sgn_le (by omega)
  unfold edg
  simp only [hc, hz, hp, sq_le, hm]
  by_cases h1 : u = c ∧ y ≤ v ∧ v ≤ t
  · rw [if_pos h1, if_pos (by omega)]
  · rw [if_neg h1, if_neg (by omega), if_neg (by omega)]
    by_cases h2 : y ≤ v ∧ v < t ∧ u < c
    · rw [if_pos h2, if_pos (by omega)]
    · rw [if_neg h2, if_neg (by omega)]
/-- Rightward. -/
theorem edg_right {x r c u v : Int} (h : x < r) : edg (u, v) (x, c) (r, c) = if v = c ∧ x ≤ u ∧ u ≤ r then none else some 0 := by
  have hc : crs (x - u, c - v) (r - u, c - v) = -((c - v) * (r - x)) := by unfold crs; grind
  have hz : (-((c - v) * (r - x)) = 0) = (c - v = 0) := by
    have := mul_zero_iff (c := c - v) (show 0 < r - x by omega)
    apply propext; constructor
    · intro h; exact this.1 (by omega)
    · intro h; have := this.2 h; omega
  unfold edg
  simp only [hc, hz, sq_le, mul_sgn_le (show x - u < r - u by omega)]
  by_cases h1 : v = c ∧ x ≤ u ∧ u ≤ r
  · rw [if_pos h1, if_pos (by omega)]
  · rw [if_neg h1, if_neg (by omega), if_neg (by omega), if_neg (by omega)]
/-- Leftward. -/
theorem edg_left {x r c u v : Int} (h : x < r) : edg (u, v) (r, c) (x, c) = if v = c ∧ x ≤ u ∧ u ≤ r then none else some 0 := by
  have hc : crs (r - u, c - v) (x - u, c - v) = (c - v) * (r - x) := by unfold crs; grind
  have hm : (r - u) * (x - u) ≤ 0 ↔ x - u ≤ 0 ∧ 0 ≤ r - u := by rw [Int.mul_comm]; exact mul_sgn_le (by omega)
  unfold edg
  simp only [hc, mul_zero_iff (show 0 < r - x by omega), sq_le, hm]
  by_cases h1 : v = c ∧ x ≤ u ∧ u ≤ r
  · rw [if_pos h1, if_pos (by omega)]
  · rw [if_neg h1, if_neg (by omega), if_neg (by omega), if_neg (by omega)]
/-! ## Boxes -/
theorem arF4 (p a b c d : Int × Int) (n : Int) : arF p [a, b, c, d] n 4 = ((((some n).bind fun m => (edg p a b).map (m + ·)).bind fun m => (edg p b c).map (m + ·)).bind fun m => (edg p c d).map (m + ·)).bind (fun m => (edg p d a).map (m + ·)) := by
  simp only [arF, List.length_cons, List.length_nil, Nat.reduceAdd, Nat.reduceMod, List.getD_cons_zero, List.getD_cons_succ]
theorem arF8 (p a b c d : Int × Int) (n : Int) : arF p [a, b, c, d, a, b, c, d] n 8 = (((((((((some n).bind fun m => (edg p a b).map (m + ·)).bind fun m => (edg p b c).map (m + ·)).bind fun m => (edg p c d).map (m + ·)).bind (fun m => (edg p d a).map (m + ·))).bind
    fun m => (edg p a b).map (m + ·)).bind fun m => (edg p b c).map (m + ·)).bind fun m => (edg p c d).map (m + ·)).bind (fun m => (edg p d a).map (m + ·))) := by
  simp only [arF, List.length_cons, List.length_nil, Nat.reduceAdd, Nat.reduceMod, List.getD_cons_zero, List.getD_cons_succ]
theorem arT_one (p : Int × Int) (l : List (Int × Int)) : arT p [(l, true)] 1 = arF p l 0 l.length := rfl
theorem arT_two (p : Int × Int) (l q : List (Int × Int)) : arT p [(l, true), (q, false)] 2 = arF p l 0 l.length := by
  show (arF p l 0 l.length).bind some = _
  cases arF p l 0 l.length <;> rfl
theorem aF8 (a b c d : Int × Int) : aF [a, b, c, d, a, b, c, d] 0 8 = 0 + crs a b + crs b c + crs c d + crs d a + crs a b + crs b c + crs c d + crs d a := by
  simp only [aF, List.length_cons, List.length_nil, Nat.reduceAdd, Nat.reduceMod, List.getD_cons_zero, List.getD_cons_succ]
def bxS (x y r t u v : Int) (k : Int) : Option Int := if x < u ∧ u < r ∧ y < v ∧ v < t then some k else if u < x ∨ r < u ∨ v < y ∨ t < v then some 0 else none
section
variable {x y r t u v : Int} (hx : x < r) (hy : y < t)
include hx hy
end
/-! ## Lists -/
theorem SpL.nil : SpL [] [] := ⟨rfl, fun i h => absurd h (by simp), fun p h => by cases h⟩
theorem SpL.cons {z : Nat × Nat} {p : Int × Int} {zs : List (Nat × Nat)} {ps : List (Int × Int)} (h1 : Sp z p) (h2 : InB p) (H : SpL zs ps) : SpL (z :: zs) (p :: ps) where
  len := by simp [H.len]
  sp := fun i h3 h4 => by
    cases i with
    | zero => exact h1
    | succ i => exact H.sp i (by simpa using h3) (by simpa using h4)
  inb := fun q hq => by
    rcases List.mem_cons.1 hq with h | h
    · subst h; exact h2
    · exact H.inb q h
theorem FigW.one {l : List (Nat × Nat)} {ps : List (Int × Int)} (c : Bool) (hne : l ≠ []) (h : SpL l ps) (hl : l.length ≤ 500) : FigW [⟨l, c⟩] [(ps, c)] where
  len := rfl
  st := fun i h1 h2 => by
    have : i = 0 := by simp at h1; exact h1
    subst this; exact ⟨hne, h, rfl⟩
  tot := by simp [lens]; exact hl
  cnt := by simp
theorem FigW.two {l m : List (Nat × Nat)} {ps qs : List (Int × Int)} (c d : Bool) (hne : l ≠ []) (hne2 : m ≠ []) (h : SpL l ps) (h' : SpL m qs) (hl : l.length + m.length ≤ 500) : FigW [⟨l, c⟩, ⟨m, d⟩] [(ps, c), (qs, d)] where
  len := rfl
  st := fun i h1 h2 => by
    have : i = 0 ∨ i = 1 := by simp at h1; omega
    rcases this with h3 | h3 <;> subst h3
    · exact ⟨hne, h, rfl⟩
    · exact ⟨hne2, h', rfl⟩
  tot := by simp [lens]; omega
  cnt := by simp
theorem sp_of (a b : Int) (ha : InB (a, b)) : Sp (i2f a, i2f b) (a, b) := by
  obtain ⟨h1, h2, h3, h4⟩ := ha
  simp only at h1 h2 h3 h4
  exact ⟨i2f_I a (by omega), i2f_I b (by omega)⟩
theorem cond_of {α : Type} {b : Bool} {x y z : α} (h1 : b = true → x = z) (h2 : b = false → y = z) : cond b x y = z := by cases b; exact h2 rfl; exact h1 rfl
end Go.Proofs.YtocfjohangcajaaDoor

namespace Go.Proofs.YtocfjohangcajaaDoor
open Fl
open Ieee in
theorem cut_two (s : Bool) (m d : Nat) : Toward.even.cut s m d = m / 2 ^ min d (m.log2 + 2) ∨ Toward.even.cut s m d = m / 2 ^ min d (m.log2 + 2) + 1 := by
  unfold Toward.cut
  simp only [Nat.shiftLeft_eq, Nat.one_mul]
  generalize (decide (2 ^ min d (m.log2 + 2) < 2 * (m % 2 ^ min d (m.log2 + 2))) || _) = b
  cases b
  · left; rfl
  · right; rfl
open Ieee in
theorem big_I (a : Int) (h1 : 9007199254740992 < a.natAbs) (h2 : a.natAbs ≤ 9223372036854775808) : ∃ z, isI (i2f a) z ∧ 1000000 < z.natAbs := by
  have key : ∀ (s : Bool) (m : Nat), 9007199254740992 < m → m ≤ 9223372036854775808 → ∃ (M : Nat) (P : Nat), double.read (double.nearest s m 0) = .number s M (P : Int) ∧ 4503599627370496 ≤ M := by
    intro s m h1 h2
    have hm0 : m ≠ 0 := by omega
    have hL : 53 ≤ m.log2 := (Nat.le_log2 hm0).2 (by omega)
    have hU : m.log2 < 64 := (Nat.log2_lt hm0).2 (by omega)
    have hlo : 2 ^ m.log2 ≤ m := (Nat.le_log2 hm0).1 (Nat.le_refl _)
    have hhi : m < 2 ^ (m.log2 + 1) := (Nat.log2_lt hm0).1 (Nat.lt_succ_self _)
    obtain ⟨d, hd⟩ : ∃ d, m.log2 = 52 + d := ⟨m.log2 - 52, by omega⟩
    rw [nearest_unf s m 0 hm0]
    have e1 : max ((0 : Int) + (m.log2 : Int) - 52) (-1074) = (d : Int) := by omega
    rw [e1]
    have e2 : ((0 : Int) - (d : Int)).toNat = 0 := by omega
    have e3 : ((d : Int) - 0).toNat = d := by omega
    have e4 : ((d : Int) - -1074).toNat = d + 1074 := by omega
    rw [e2, e3, e4, Nat.shiftLeft_zero]
    have hmin : min d (m.log2 + 2) = d := by omega
    have hp : 0 < 2 ^ d := Nat.pow_pos (by decide)
    have hq1 : 2 ^ 52 ≤ m / 2 ^ d := by
      rw [Nat.le_div_iff_mul_le hp, ← Nat.pow_add, ← hd]; exact hlo
    have hq2 : m / 2 ^ d < 2 ^ 53 := by
      rw [Nat.div_lt_iff_lt_mul hp, ← Nat.pow_add]
      rw [show 53 + d = m.log2 + 1 by omega]; exact hhi
    have hc := cut_two s m d
    rw [hmin] at hc
    generalize Toward.even.cut s m d = q at *
    generalize m / 2 ^ d = w at *
    by_cases hq : q < 2 ^ 53
    · refine ⟨2 ^ 52 + (q - 2 ^ 52), d, ?_, by omega⟩
      rw [Nat.min_eq_left (by omega)]
      rw [show (d + 1074) * 2 ^ 52 + q = ((d + 1074) + 1) * 2 ^ 52 + (q - 2 ^ 52) by omega, read_word s _ _ (by omega) (by omega), show (-1074 : Int) + ((d + 1074 : Nat) : Int) = (d : Int) by omega]
    · refine ⟨2 ^ 52 + 0, d + 1, ?_, by omega⟩
      have hq3 : q = 2 ^ 53 := by omega
      subst hq3
      rw [Nat.min_eq_left (by omega)]
      rw [show (d + 1074) * 2 ^ 52 + 2 ^ 53 = ((d + 1075) + 1) * 2 ^ 52 + 0 by omega, read_word s _ _ (by omega) (by omega), show (-1074 : Int) + ((d + 1075 : Nat) : Int) = ((d + 1 : Nat) : Int) by omega]
  obtain ⟨M, P, hr, hM⟩ := key (decide (a < 0)) a.natAbs h1 h2
  refine ⟨sg (decide (a < 0)) M * 2 ^ P, ⟨_, M, (P : Int), hr, ?_⟩, ?_⟩
  · simp
  · rw [Int.natAbs_mul, sg_natAbs, Int.natAbs_pow]
    have : 1 ≤ 2 ^ P := Nat.pow_pos (by decide)
    have h4 := Nat.mul_le_mul hM this
    show 1000000 < M * 2 ^ P
    omega
theorem part_big {x : Nat} {z : Int} (hx : isI x z) (hz : 1000000 < z.natAbs) : F_trace_part x = some false := by
  obtain ⟨q, h3, h4⟩ := Abs_I hx
  have ht : ∃ r, F_math_Trunc x = some r := by
    obtain ⟨s, m, p, e, h⟩ := hx
    have hd : FloatKind.f64.decode x = .number s m p := e
    unfold F_math_Trunc L_archTrunc
    rw [hd]
    exact ⟨_, rfl⟩
  obtain ⟨r, h1⟩ := ht
  unfold F_trace_part
  rw [h1, Option.bind_some]
  simp only [letJ, h3, Option.bind_some, fle_I h4 million_I]
  rw [decide_eq_false (by omega)]
  cases feq x r <;> rfl
/-- Any whole number of 64 bits. -/
theorem part_int (a : Int) (h1 : -9223372036854775808 ≤ a) (h2 : a ≤ 9223372036854775807) : F_trace_part (i2f a) = some (inB a) := by
  by_cases h : a.natAbs ≤ 9007199254740992
  · exact part_I (i2f_I a h) h
  · obtain ⟨z, h3, h4⟩ := big_I a (by omega) (by omega)
    rw [part_big h3 h4]
    unfold inB
    by_cases h5 : 0 ≤ a
    · rw [decide_eq_false (p := a ≤ 1000000) (by omega), Bool.and_false]
    · rw [decide_eq_false (p := -1000000 ≤ a) (by omega), Bool.false_and]
theorem spot_int (a b : Int) (h1 : -9223372036854775808 ≤ a) (h2 : a ≤ 9223372036854775807) (h3 : -9223372036854775808 ≤ b) (h4 : b ≤ 9223372036854775807) : F_trace_spot (i2f a, i2f b) = some (inB a && inB b) := by
  unfold F_trace_spot
  rw [part_int a h1 h2, Option.bind_some]
  simp only [letJ, part_int b h3 h4, Option.bind_some]
  cases inB a <;> rfl
theorem f2i_int (a : Int) (h : a.natAbs ≤ 9007199254740992) : f2i .i64 (i2f a) = some a := by
  have ht := toInt_I (i2f_I a h)
  have hd : (FloatKind.f64.decode (i2f a)).toInt .zero = some a := ht
  unfold f2i
  rw [hd]
  have e1 : IntKind.min .i64 = -9223372036854775808 := by decide
  have e2 : IntKind.max .i64 = 9223372036854775807 := by decide
  simp only [e1, e2]
  rw [if_pos (by omega)]
theorem sum_le {α : Type} (f : α → Nat) (B : Nat) : ∀ l : List α, (∀ x ∈ l, f x ≤ B) → (l.map f).sum ≤ l.length * B
  | [], _ => by simp
  | x :: l, h => by
    have h1 := h x (List.mem_cons_self ..)
    have h2 := sum_le f B l (fun y hy => h y (List.mem_cons_of_mem _ hy))
    simp only [List.map_cons, List.sum_cons, List.length_cons, Nat.succ_mul]
    omega
theorem sum_take {α : Type} (f : α → Nat) (l : List α) (i : Nat) (h : i < l.length) : ((l.take (i + 1)).map f).sum = ((l.take i).map f).sum + f l[i] := by
  rw [List.take_add_one, List.getElem?_eq_getElem h, Option.toList_some, List.map_append, List.sum_append]; simp
theorem sum_take_le {α : Type} (f : α → Nat) (l : List α) (i : Nat) : ((l.take i).map f).sum ≤ (l.map f).sum := by
  conv => rhs; rw [← List.take_append_drop i l]
  rw [List.map_append, List.sum_append]; omega
theorem all_take {α : Type} (f : α → Bool) (l : List α) (i : Nat) (h : i < l.length) : (l.take (i + 1)).all f = ((l.take i).all f && f l[i]) := by
  rw [List.take_add_one, List.getElem?_eq_getElem h, Option.toList_some, List.all_append]; simp
theorem map_take {α β : Type} (f : α → β) (l : List α) (i : Nat) (h : i < l.length) : (l.take (i + 1)).map f = (l.take i).map f ++ [f l[i]] := by
  rw [List.take_add_one, List.getElem?_eq_getElem h, Option.toList_some, List.map_append]; simp
/-! ## Pairs -/
def prs : List Int → List (Int × Int)
  | a :: b :: r => (a, b) :: prs r
  | _ => []
theorem prs_len : ∀ l : List Int, (prs l).length = l.length / 2
  | [] => rfl
  | [_] => by simp [prs]
  | a :: b :: r => by simp only [prs, List.length_cons, prs_len r]; omega
theorem prs_get : ∀ (l : List Int) (i : Nat) (h : i < (prs l).length) (h1 : 2 * i < l.length) (h2 : 2 * i + 1 < l.length), l[2 * i] = (prs l)[i].1 ∧ l[2 * i + 1] = (prs l)[i].2
  | [], i, h, _, _ => by simp [prs] at h
  | [_], i, h, _, _ => by simp [prs] at h
  | a :: b :: r, 0, _, _, _ => ⟨rfl, rfl⟩
  | a :: b :: r, i + 1, h, h1, h2 => by
    have h' : i < (prs r).length := by simp only [prs, List.length_cons] at h; omega
    have a1 : 2 * i < r.length := by simp only [List.length_cons] at h1; omega
    have a2 : 2 * i + 1 < r.length := by simp only [List.length_cons] at h2; omega
    obtain ⟨e1, e2⟩ := prs_get r i h' a1 a2
    simp only [prs, List.getElem_cons_succ]
    refine ⟨?_, ?_⟩
    · rw [← e1]; rfl
    · rw [← e2]; rfl
def sF (p : Int × Int) : Nat × Nat := (i2f p.1, i2f p.2)
def sS (p : Int × Int) : T_lecternref10_Spot := ⟨p.1, p.2⟩
def inBB (p : Int × Int) : Bool := inB p.1 && inB p.2
def mkF (l : T_lecternlaw10_Line) : T_trace_Stroke := ⟨(prs l.Parts).map sF, l.Closed⟩
def mkS (l : T_lecternlaw10_Line) : T_lecternref10_Stroke := ⟨(prs l.Parts).map sS, l.Closed⟩
theorem fig_l1 (l : T_lecternlaw10_Line) (c : Bool) (hl : l.Parts.length ≤ 1048576) :
    iter (F_lecternlaw10_figure_l1 l) FUEL (c, [], l.Closed, [], l.Closed, (0 : Int)) = some (c && (prs l.Parts).all inBB, (prs l.Parts).map sF, l.Closed, (prs l.Parts).map sS, l.Closed) := by
  have hlen := prs_len l.Parts
  obtain ⟨o, h1, h2⟩ := iter_spec (b := F_lecternlaw10_figure_l1 l)
    (fun i x => x = (c && ((prs l.Parts).take i).all inBB, ((prs l.Parts).take i).map sF, l.Closed, ((prs l.Parts).take i).map sS, l.Closed, ((2 * i : Nat) : Int)))
    (fun o => o = (c && (prs l.Parts).all inBB, (prs l.Parts).map sF, l.Closed, (prs l.Parts).map sS, l.Closed)) (prs l.Parts).length (x0 := (c, [], l.Closed, [], l.Closed, (0 : Int))) (by simp)
    (fun i x rec hi hx => .inl ⟨(c && ((prs l.Parts).take (i + 1)).all inBB, ((prs l.Parts).take (i + 1)).map sF, l.Closed, ((prs l.Parts).take (i + 1)).map sS, l.Closed, ((2 * (i + 1) : Nat) : Int)), by
      subst hx
      have a1 : 2 * i < l.Parts.length := by omega
      have a2 : 2 * i + 1 < l.Parts.length := by omega
      obtain ⟨e1, e2⟩ := prs_get l.Parts i hi a1 a2
      unfold F_lecternlaw10_figure_l1
      dsimp only
      rw [w64 (x := ((2 * i : Nat) : Int) + 1) (by omega) (by omega), decide_eq_true (by omega), cond_true, idx_some a1, Option.bind_some, show ((2 * i : Nat) : Int) + 1 = ((2 * i + 1 : Nat) : Int) by omega, idx_some a2, Option.bind_some, e1, e2]
      rw [app_some (by simp; omega) (by simp; omega), Option.bind_some, app_some (by simp; omega) (by simp; omega), Option.bind_some, w64 (x := ((2 * i : Nat) : Int) + 2) (by omega) (by omega), all_take _ _ _ hi, map_take _ _ _ hi, map_take _ _ _ hi]
      rw [show ((2 * i : Nat) : Int) + 2 = ((2 * (i + 1) : Nat) : Int) by omega]
      unfold inBB inB
      simp only [Bool.and_assoc]
      rfl, rfl⟩)
    (fun x rec hx => ⟨_, by
      subst hx
      unfold F_lecternlaw10_figure_l1
      dsimp only
      rw [w64 (by omega) (by omega), decide_eq_false (by omega), cond_false, List.take_length], rfl⟩) (n := FUEL) (by unfold FUEL; omega)
  rw [h1, h2]
theorem fig_l0 (p : List T_lecternlaw10_Line) (hp : p.length ≤ 1048576) (hl : ∀ l ∈ p, l.Parts.length ≤ 1048576) :
    iter (F_lecternlaw10_figure_l0 p) FUEL ([], [], true, (0 : Int)) = some (p.map mkF, p.map mkS, p.all fun l => (prs l.Parts).all inBB) := by
  obtain ⟨o, h1, h2⟩ := iter_spec (b := F_lecternlaw10_figure_l0 p)
    (fun i x => x = ((p.take i).map mkF, (p.take i).map mkS, (p.take i).all (fun l => (prs l.Parts).all inBB), (i : Int)))
    (fun o => o = (p.map mkF, p.map mkS, p.all fun l => (prs l.Parts).all inBB)) p.length (x0 := ([], [], true, (0 : Int))) (by simp)
    (fun i x rec hi hx => .inl ⟨((p.take (i + 1)).map mkF, (p.take (i + 1)).map mkS, (p.take (i + 1)).all (fun l => (prs l.Parts).all inBB), ((i + 1 : Nat) : Int)), by
      subst hx
      unfold F_lecternlaw10_figure_l0
      simp only [letJ]
      rw [decide_eq_true (by omega), cond_true, idx_some hi, Option.bind_some, fig_l1 _ _ (hl _ (List.getElem_mem _)), Option.bind_some]
      simp only []
      rw [app_some (by simp; omega) (by simp; omega), Option.bind_some, app_some (by simp; omega) (by simp; omega), Option.bind_some, w64 (x := (i : Int) + 1) (by omega) (by omega), all_take _ _ _ hi, map_take _ _ _ hi, map_take _ _ _ hi]
      rfl, rfl⟩)
    (fun x rec hx => ⟨_, by
      subst hx
      unfold F_lecternlaw10_figure_l0
      simp only [letJ]
      rw [decide_eq_false (by omega), cond_false, List.take_length], rfl⟩) (n := FUEL) (by unfold FUEL; omega)
  rw [h1, h2]
/-! ## Right -/
def lenS (S : List T_lecternref10_Stroke) : Nat := (S.map fun s => s.Spots.length).sum
theorem rightS (S : List T_lecternref10_Stroke) (hS : S.length ≤ 1048576) (hl : ∀ s ∈ S, s.Spots.length ≤ 1048576) :
    F_lecternref10_Right S = some (S.all (fun s => !s.Spots.isEmpty) && decide (lenS S ≤ 500)) := by
  have hsum : lenS S ≤ S.length * 1048576 := sum_le (fun s : T_lecternref10_Stroke => s.Spots.length) 1048576 S hl
  have hb := Nat.mul_le_mul_right 1048576 hS
  obtain ⟨o, h1, h2⟩ := iter_spec (b := F_lecternref10_Right_l0 S)
    (fun i x => (S.take i).all (fun s => !s.Spots.isEmpty) = true ∧ x = (((lenS (S.take i) : Nat) : Int), (i : Int)))
    (fun o => o = if S.all (fun s => !s.Spots.isEmpty) = true then .inl ((lenS S : Nat) : Int) else .inr false) S.length (x0 := ((0 : Int), (0 : Int))) (by simp [lenS])
    (fun i x rec hi ⟨ha, hx⟩ => by
      subst hx
      unfold F_lecternref10_Right_l0
      dsimp only
      have hle : lenS (S.take (i + 1)) ≤ lenS S := sum_take_le (fun s : T_lecternref10_Stroke => s.Spots.length) S (i + 1)
      have hst : lenS (S.take (i + 1)) = lenS (S.take i) + S[i].Spots.length := sum_take (fun s : T_lecternref10_Stroke => s.Spots.length) S i hi
      cases he : S[i].Spots.isEmpty with
      | true =>
        right
        have hz : S[i].Spots.length = 0 := by rw [List.isEmpty_iff.1 he]; rfl
        refine ⟨.inr false, ?_, ?_⟩
        · rw [decide_eq_true (by omega), cond_true, idx_some hi, Option.bind_some, hz]; rfl
        · rw [if_neg]
          intro h
          have := List.all_eq_true.1 h S[i] (List.getElem_mem _)
          rw [he] at this; simp at this
      | false =>
        left
        have hz : S[i].Spots.length ≠ 0 := by
          intro h
          rw [List.eq_nil_of_length_eq_zero h] at he; simp at he
        refine ⟨(((lenS (S.take (i + 1)) : Nat) : Int), ((i + 1 : Nat) : Int)), ?_, ?_, rfl⟩
        · rw [decide_eq_true (by omega), cond_true, idx_some hi, Option.bind_some]
          have hb : ((S[i].Spots.length : Int) == 0) = false := by simpa using hz
          rw [hb, cond_false, w64 (x := (i : Int) + 1) (by omega) (by omega), w64 (x := ((lenS (S.take i) : Nat) : Int) + _) (by omega) (by omega), hst]
          simp
        · rw [all_take _ _ _ hi, ha, he]; rfl)
    (fun x rec ⟨ha, hx⟩ => ⟨.inl ((lenS S : Nat) : Int), by
      subst hx
      unfold F_lecternref10_Right_l0
      dsimp only
      rw [decide_eq_false (by omega), cond_false, List.take_length], by
      rw [List.take_length] at ha
      rw [if_pos ha]⟩) (n := FUEL) (by unfold FUEL; omega)
  unfold F_lecternref10_Right
  simp only [letJ, h1, h2, Option.bind_some]
  by_cases ha : S.all (fun s => !s.Spots.isEmpty) = true
  · rw [if_pos ha, ha]
    simp only [Bool.true_and]
    congr 1
    simp only [decide_eq_decide]
    omega
  · have hf : S.all (fun s => !s.Spots.isEmpty) = false := by simpa using ha
    rw [if_neg ha, hf]; rfl
theorem containsF (g : Nat × Nat → Bool) (zs : List (Nat × Nat)) (hg : ∀ z ∈ zs, F_trace_spot z = some (g z)) (hl : zs.length ≤ 1048576) :
    F_slices_ContainsFunc_complex128_complex128 zs F_trace_right_1 = some (!(zs.all g)) := by
  unfold F_slices_ContainsFunc_complex128_complex128 F_slices_IndexFunc_complex128_complex128
  obtain ⟨o, h1, h2⟩ := iter_spec (b := F_slices_IndexFunc_complex128_complex128_l0 zs F_trace_right_1) (fun i x => (zs.take i).all g = true ∧ x = (i : Int))
    (fun o => (zs.all g = true ∧ o = .inl ()) ∨ (zs.all g = false ∧ ∃ k : Nat, o = .inr (k : Int))) zs.length (x0 := (0 : Int)) (by simp)
    (fun i x rec hi ⟨ha, hx⟩ => by
      subst hx
      unfold F_slices_IndexFunc_complex128_complex128_l0
      have hgi := hg _ (List.getElem_mem hi)
      cases he : g zs[i] with
      | false =>
        right
        refine ⟨.inr (i : Int), ?_, .inr ⟨?_, i, rfl⟩⟩
        · rw [decide_eq_true (by omega), cond_true, idx_some hi, Option.bind_some]
          simp only [F_trace_right_1, hgi, he, Option.bind_some, Bool.not_false, cond_true]
        · rw [List.all_eq_false]
          exact ⟨_, List.getElem_mem hi, by rw [he]; simp⟩
      | true =>
        left
        refine ⟨((i + 1 : Nat) : Int), ?_, ?_, rfl⟩
        · rw [decide_eq_true (by omega), cond_true, idx_some hi, Option.bind_some]
          simp only [F_trace_right_1, hgi, he, Option.bind_some, Bool.not_true, cond_false]
          rw [w64 (by omega) (by omega)]; rfl
        · rw [all_take _ _ _ hi, ha, he]; rfl)
    (fun x rec ⟨ha, hx⟩ => ⟨.inl (), by
      subst hx
      unfold F_slices_IndexFunc_complex128_complex128_l0
      rw [decide_eq_false (by omega), cond_false], by
      rw [List.take_length] at ha
      exact .inl ⟨ha, rfl⟩⟩) (n := FUEL) (by unfold FUEL; omega)
  simp only [letJ, h1, Option.bind_some]
  rcases h2 with ⟨h3, rfl⟩ | ⟨h3, k, rfl⟩
  · rw [h3]; rfl
  · rw [h3]
    simp only [Option.bind_some]
    rw [decide_eq_true (by omega)]; rfl
theorem rightF (g : Nat × Nat → Bool) (f : List T_trace_Stroke) (hf : f.length ≤ 1048576) (hl : ∀ s ∈ f, s.Spots.length ≤ 1048576) (hg : ∀ s ∈ f, ∀ z ∈ s.Spots, F_trace_spot z = some (g z)) :
    F_trace_right f = some (f.all (fun s => !s.Spots.isEmpty && s.Spots.all g) && decide (lens f ≤ 500)) := by
  have hsum : lens f ≤ f.length * 1048576 := sum_le (fun s : T_trace_Stroke => s.Spots.length) 1048576 f hl
  have hb := Nat.mul_le_mul_right 1048576 hf
  obtain ⟨o, h1, h2⟩ := iter_spec (b := F_trace_right_l0 f)
    (fun i x => (f.take i).all (fun s => !s.Spots.isEmpty && s.Spots.all g) = true ∧ x = (((lens (f.take i) : Nat) : Int), (i : Int)))
    (fun o => o = if f.all (fun s => !s.Spots.isEmpty && s.Spots.all g) = true then .inl ((lens f : Nat) : Int) else .inr false) f.length (x0 := ((0 : Int), (0 : Int))) (by simp [lens])
    (fun i x rec hi ⟨ha, hx⟩ => by
      subst hx
      unfold F_trace_right_l0
      have hle : lens (f.take (i + 1)) ≤ lens f := sum_take_le (fun s : T_trace_Stroke => s.Spots.length) f (i + 1)
      have hst : lens (f.take (i + 1)) = lens (f.take i) + f[i].Spots.length := sum_take (fun s : T_trace_Stroke => s.Spots.length) f i hi
      have hc := containsF g f[i].Spots (hg _ (List.getElem_mem hi)) (hl _ (List.getElem_mem hi))
      cases he : (!f[i].Spots.isEmpty && f[i].Spots.all g) with
      | false =>
        right
        refine ⟨.inr false, ?_, ?_⟩
        · simp only [letJ]
          rw [decide_eq_true (by omega), cond_true, idx_some hi, Option.bind_some, hc]
          cases h5 : f[i].Spots.isEmpty with
          | true =>
            have hz : f[i].Spots.length = 0 := by rw [List.isEmpty_iff.1 h5]; rfl
            rw [hz]; rfl
          | false =>
            rw [h5] at he
            have hz : f[i].Spots.length ≠ 0 := by
              intro h
              rw [List.eq_nil_of_length_eq_zero h] at h5; simp at h5
            have hb : ((f[i].Spots.length : Int) == 0) = false := by simpa using hz
            have h6 : f[i].Spots.all g = false := by simpa using he
            rw [hb, h6]; rfl
        · rw [if_neg]
          intro h
          have := List.all_eq_true.1 h f[i] (List.getElem_mem _)
          rw [he] at this; simp at this
      | true =>
        left
        have h5 : f[i].Spots.isEmpty = false := by
          cases h : f[i].Spots.isEmpty
          · rfl
          · rw [h] at he; simp at he
        have h6 : f[i].Spots.all g = true := by rw [h5] at he; simpa using he
        have hz : f[i].Spots.length ≠ 0 := by
          intro h
          rw [List.eq_nil_of_length_eq_zero h] at h5; simp at h5
        refine ⟨(((lens (f.take (i + 1)) : Nat) : Int), ((i + 1 : Nat) : Int)), ?_, ?_, rfl⟩
        · simp only [letJ]
          rw [decide_eq_true (by omega), cond_true, idx_some hi, Option.bind_some, hc, h6]
          have hb : ((f[i].Spots.length : Int) == 0) = false := by simpa using hz
          rw [hb, cond_false, Option.bind_some, Bool.not_true, cond_false, w64 (x := (i : Int) + 1) (by omega) (by omega), w64 (x := ((lens (f.take i) : Nat) : Int) + _) (by omega) (by omega), hst]
          simp
        · rw [all_take _ _ _ hi, ha, he]; rfl)
    (fun x rec ⟨ha, hx⟩ => ⟨.inl ((lens f : Nat) : Int), by
      subst hx
      unfold F_trace_right_l0
      simp only [letJ]
      rw [decide_eq_false (by omega), cond_false, List.take_length], by
      rw [List.take_length] at ha
      rw [if_pos ha]⟩) (n := FUEL) (by unfold FUEL; omega)
  unfold F_trace_right
  simp only [letJ, h1, h2, Option.bind_some]
  by_cases ha : f.all (fun s => !s.Spots.isEmpty && s.Spots.all g) = true
  · rw [if_pos ha, ha]
    simp only [Bool.true_and]
    congr 1
    simp only [decide_eq_decide]
    omega
  · have hf : f.all (fun s => !s.Spots.isEmpty && s.Spots.all g) = false := by simpa using ha
    rw [if_neg ha, hf]; rfl
end Go.Proofs.YtocfjohangcajaaDoor

namespace Go.Proofs.YtocfjohangcajaaDoor
open Fl
/-! ## The reference's digits -/
def tk3 (i : Nat) (p : Int × Int) : List (List UInt8) := [[if i = 0 then 77 else 76], Lib.itoa p.1, Lib.itoa p.2]
def tkU (ps : List (Int × Int)) : Nat → List (List UInt8)
  | 0 => []
  | i + 1 => tkU ps i ++ tk3 i (ps.getD i (0, 0))
theorem tkU_len (ps : List (Int × Int)) : ∀ i, (tkU ps i).length = 3 * i
  | 0 => rfl
  | i + 1 => by rw [tkU, List.length_append, tkU_len ps i]; simp [tk3]; omega
def tkL (l : T_lecternlaw10_Line) : List (List UInt8) := tkU (prs l.Parts) (prs l.Parts).length ++ (if l.Closed then [[90]] else [])
def tkA (p : List T_lecternlaw10_Line) : List (List UInt8) := (p.map tkL).flatten
theorem tkA_take (p : List T_lecternlaw10_Line) (i : Nat) (h : i < p.length) : tkA (p.take (i + 1)) = tkA (p.take i) ++ tkL p[i] := by
  unfold tkA
  rw [map_take _ _ _ h, List.flatten_append]; simp
theorem itoa_len (n : Int) (h1 : -1000000 ≤ n) (h2 : n ≤ 1000000) : (Lib.itoa n).length ≤ 21 := Lib.itoa_length_le n (by omega) (by omega)
def InL (ps : List (Int × Int)) : Prop := ∀ p ∈ ps, InB p
theorem tkU_small (ps : List (Int × Int)) (H : InL ps) : ∀ i, i ≤ ps.length → ∀ t ∈ tkU ps i, t.length ≤ 21
  | 0, _, t, ht => by simp [tkU] at ht
  | i + 1, hi, t, ht => by
    rw [tkU, List.mem_append] at ht
    rcases ht with ht | ht
    · exact tkU_small ps H i (by omega) t ht
    · have hp : ps.getD i (0, 0) = ps[i] := by simp [List.getD, show i < ps.length by omega]
      rw [hp] at ht
      obtain ⟨a1, a2, a3, a4⟩ := H ps[i] (List.getElem_mem _)
      simp only [tk3, List.mem_cons, List.not_mem_nil, or_false] at ht
      rcases ht with rfl | rfl | rfl
      · simp
      · exact itoa_len _ a1 a2
      · exact itoa_len _ a3 a4
theorem joinTail_len (l : List (List UInt8)) (h : ∀ t ∈ l, t.length ≤ 21) : (Lib.joinTail [32] l).length ≤ 22 * l.length := by
  induction l with
  | nil => simp [Lib.joinTail]
  | cons x r ih =>
    have h1 := h x (List.mem_cons_self ..)
    have h2 := ih (fun t ht => h t (List.mem_cons_of_mem _ ht))
    simp only [Lib.joinTail, List.map_cons, List.flatten_cons, List.length_append, List.length_cons, List.length_nil] at h2 ⊢
    omega
theorem joinTail_app (a b : List (List UInt8)) : Lib.joinTail [32] (a ++ b) = Lib.joinTail [32] a ++ Lib.joinTail [32] b := by simp [Lib.joinTail]
/-! ## Show -/
theorem show_l1 (l : T_lecternlaw10_Line) (a : List (List UInt8)) (H : InL (prs l.Parts)) (hl : (prs l.Parts).length ≤ 1048576) (ha : a.length ≤ 100000000) :
    iter (F_trace_Show_l1 (mkF l)) FUEL (a, (0 : Int)) = some (a ++ tkU (prs l.Parts) (prs l.Parts).length) := by
  obtain ⟨o, h1, h2⟩ := iter_spec (b := F_trace_Show_l1 (mkF l)) (fun i x => x = (a ++ tkU (prs l.Parts) i, (i : Int))) (fun o => o = a ++ tkU (prs l.Parts) (prs l.Parts).length) (prs l.Parts).length (x0 := (a, (0 : Int))) (by simp [tkU])
    (fun i x rec hi hx => .inl ⟨(a ++ tkU (prs l.Parts) (i + 1), ((i + 1 : Nat) : Int)), by
      subst hx
      have hL : (mkF l).Spots.length = (prs l.Parts).length := by simp [mkF]
      have hi' : i < (mkF l).Spots.length := by omega
      have hs : (mkF l).Spots[i] = sF (prs l.Parts)[i] := by simp [mkF]
      obtain ⟨a1, a2, a3, a4⟩ := H (prs l.Parts)[i] (List.getElem_mem _)
      have hp : (prs l.Parts).getD i (0, 0) = (prs l.Parts)[i] := by simp [List.getD, hi]
      have hk := tkU_len (prs l.Parts) i
      have hU : tkU (prs l.Parts) (i + 1) = tkU (prs l.Parts) i ++ tk3 i (prs l.Parts)[i] := by rw [tkU, hp]
      unfold F_trace_Show_l1
      simp only [letJ]
      rw [decide_eq_true (by omega), cond_true, idx_some hi', Option.bind_some, hs, hU]
      generalize (prs l.Parts)[i] = p at *
      unfold sF
      simp only []
      rw [f2i_int p.1 (by omega), Option.bind_some]
      have i1 : L_Itoa p.1 = some (Lib.itoa p.1) := by unfold L_Itoa; rw [if_pos (by omega)]
      have i2 : L_Itoa p.2 = some (Lib.itoa p.2) := by unfold L_Itoa; rw [if_pos (by omega)]
      rw [i1, Option.bind_some, f2i_int p.2 (by omega), Option.bind_some, i2, Option.bind_some]
      rw [app_some (by rw [List.length_append, hk]; simp; omega) (by rw [List.length_append, hk]; simp; omega), Option.bind_some, Option.bind_some, w64 (x := (i : Int) + 1) (by omega) (by omega)]
      generalize hb : a ++ tkU (prs l.Parts) i = b
      have hbl : b.length = a.length + 3 * i := by rw [← hb, List.length_append, hk]
      by_cases h0 : i = 0
      · subst h0
        have hw : IntKind.wrap .i64 (((b ++ [([76] : List UInt8), Lib.itoa p.1, Lib.itoa p.2]).length : Int) - 3) = (b.length : Int) := by
          rw [List.length_append, w64 (by simp <;> omega) (by simp <;> omega)]; simp <;> omega
        have hx : b.length < (b ++ [([76] : List UInt8), Lib.itoa p.1, Lib.itoa p.2]).length := by simp
        have hset : (b ++ [([76] : List UInt8), Lib.itoa p.1, Lib.itoa p.2]).set b.length [77] = b ++ [([77] : List UInt8), Lib.itoa p.1, Lib.itoa p.2] := by simp
        rw [hw, idx_some hx, Int.toNat_natCast, hset]
        simp [tk3, ← hb]
      · have hc : (((i : Nat) : Int) == 0) = false := by simpa using h0
        rw [hc, cond_false]
        simp [tk3, ← hb, h0], rfl⟩)
    (fun x rec hx => ⟨_, by
      subst hx
      have hL : (mkF l).Spots.length = (prs l.Parts).length := by simp [mkF]
      unfold F_trace_Show_l1
      simp only [letJ]
      rw [decide_eq_false (by omega), cond_false], rfl⟩) (n := FUEL) (by unfold FUEL; omega)
  rw [h1, h2]
theorem tkL_len (l : T_lecternlaw10_Line) : (tkL l).length ≤ 3 * (prs l.Parts).length + 1 := by
  unfold tkL
  rw [List.length_append, tkU_len]
  split <;> simp
theorem tkA_len (p : List T_lecternlaw10_Line) (hp : lens (p.map mkF) ≤ 500) (hp2 : p.length ≤ 1048576) (i : Nat) : (tkA (p.take i)).length ≤ 1500 + 1048576 := by
  have h1 : (tkA (p.take i)).length ≤ ((p.take i).map fun l => 3 * (prs l.Parts).length + 1).sum := by
    unfold tkA
    rw [List.length_flatten, List.map_map]
    generalize p.take i = q
    induction q with
    | nil => simp
    | cons x r ih =>
      have := tkL_len x
      simp only [List.map_cons, List.sum_cons, Function.comp] at ih ⊢
      omega
  have h2 : ∀ q : List T_lecternlaw10_Line, (q.map fun l => 3 * (prs l.Parts).length + 1).sum = 3 * lens (q.map mkF) + q.length := by
    intro q
    induction q with
    | nil => rfl
    | cons x r ih =>
      simp only [lens, List.map_cons, List.sum_cons, List.length_cons] at ih ⊢
      rw [ih]; simp [mkF]; omega
  have h3 : lens ((p.take i).map mkF) ≤ lens (p.map mkF) := by rw [List.map_take]; exact lens_le _ i
  have h4 : (p.take i).length ≤ p.length := by rw [List.length_take]; omega
  rw [h2] at h1; omega
theorem show_l0 (p : List T_lecternlaw10_Line) (H : ∀ l ∈ p, InL (prs l.Parts)) (hp : p.length ≤ 1048576) (ht : lens (p.map mkF) ≤ 500) :
    iter (F_trace_Show_l0 (p.map mkF)) FUEL ([], (0 : Int)) = some (tkA p) := by
  obtain ⟨o, h1, h2⟩ := iter_spec (b := F_trace_Show_l0 (p.map mkF)) (fun i x => x = (tkA (p.take i), (i : Int))) (fun o => o = tkA p) p.length (x0 := ([], (0 : Int))) (by simp [tkA])
    (fun i x rec hi hx => .inl ⟨(tkA (p.take (i + 1)), ((i + 1 : Nat) : Int)), by
      subst hx
      have hi' : i < (p.map mkF).length := by simpa using hi
      have hk := tkA_len p ht hp i
      have hsm : (prs p[i].Parts).length ≤ 500 := by
        have h1 := lens_take (p.map mkF) i hi'
        have h2 := lens_le (p.map mkF) (i + 1)
        have e : (p.map mkF)[i].Spots.length = (prs p[i].Parts).length := by simp [mkF]
        rw [e] at h1
        omega
      unfold F_trace_Show_l0
      simp only [letJ]
      rw [decide_eq_true (by omega), cond_true, idx_some hi', Option.bind_some, List.getElem_map, show_l1 _ _ (H _ (List.getElem_mem _)) (by omega) (by omega), Option.bind_some, w64 (x := (i : Int) + 1) (by omega) (by omega), tkA_take p i hi]
      cases hc : p[i].Closed with
      | true =>
        have hc' : (mkF p[i]).Closed = true := hc
        rw [hc', cond_true, app_some (by rw [List.length_append, tkU_len]; simp; omega) (by rw [List.length_append, tkU_len]; simp; omega)]
        simp [tkL, hc]
      | false =>
        have hc' : (mkF p[i]).Closed = false := hc
        rw [hc', cond_false]
        simp [tkL, hc], rfl⟩)
    (fun x rec hx => ⟨_, by
      subst hx
      unfold F_trace_Show_l0
      simp only [letJ]
      rw [decide_eq_false (by simp), cond_false, List.take_length], rfl⟩) (n := FUEL) (by unfold FUEL; omega)
  rw [h1, h2]
/-! ## The reference's Show -/
theorem tkA_small (p : List T_lecternlaw10_Line) (H : ∀ l ∈ p, InL (prs l.Parts)) : ∀ t ∈ tkA p, t.length ≤ 21 := by
  intro t ht
  unfold tkA at ht
  rw [List.mem_flatten] at ht
  obtain ⟨m, hm, ht⟩ := ht
  rw [List.mem_map] at hm
  obtain ⟨l, hl, rfl⟩ := hm
  unfold tkL at ht
  rw [List.mem_append] at ht
  rcases ht with ht | ht
  · exact tkU_small _ (H l hl) _ (Nat.le_refl _) t ht
  · split at ht
    · simp at ht; subst ht; simp
    · simp at ht
theorem mem_prs : ∀ (l : List Int) (p : Int × Int), p ∈ prs l → p.1 ∈ l ∧ p.2 ∈ l
  | [], p, h => by simp [prs] at h
  | [_], p, h => by simp [prs] at h
  | a :: b :: r, p, h => by
    simp only [prs, List.mem_cons] at h
    rcases h with rfl | h
    · simp
    · obtain ⟨h1, h2⟩ := mem_prs r p h
      exact ⟨by simp [h1], by simp [h2]⟩
/-- What the inputs are bound by. -/
structure InOk (p : List T_lecternlaw10_Line) : Prop where
  len : p.length ≤ 1048576
  parts : ∀ l ∈ p, l.Parts.length ≤ 1048576
  ints : ∀ l ∈ p, ∀ a ∈ l.Parts, -9223372036854775808 ≤ a ∧ a ≤ 9223372036854775807
/-- Whether a figure is right. -/
def okFig (p : List T_lecternlaw10_Line) : Bool := (p.all fun l => (prs l.Parts).all inBB) && ((p.all fun l => !(prs l.Parts).isEmpty) && decide (lens (p.map mkF) ≤ 500))
theorem lens_same (p : List T_lecternlaw10_Line) : lenS (p.map mkS) = lens (p.map mkF) := by
  unfold lenS lens
  rw [List.map_map, List.map_map]
  congr 1
  apply List.map_congr_left
  intro l _
  simp [mkF, mkS]
theorem figure_eq (p : List T_lecternlaw10_Line) (H : InOk p) : F_lecternlaw10_figure p = some (p.map mkF, p.map mkS, okFig p) := by
  unfold F_lecternlaw10_figure
  simp only [letJ, fig_l0 p H.len H.parts, Option.bind_some]
  have hr := rightS (p.map mkS) (by rw [List.length_map]; exact H.len) (by
    intro s hs
    rw [List.mem_map] at hs
    obtain ⟨l, hl, rfl⟩ := hs
    have := H.parts l hl
    simp only [mkS, List.length_map, prs_len]; omega)
  rw [hr, Option.bind_some, lens_same]
  have e : (p.map mkS).all (fun s => !s.Spots.isEmpty) = p.all fun l => !(prs l.Parts).isEmpty := by
    rw [List.all_map]
    congr 1
    funext l
    simp [mkS, Function.comp]
  rw [e]
  unfold okFig
  cases (p.all fun l => (prs l.Parts).all inBB) <;> rfl
theorem right_eq (p : List T_lecternlaw10_Line) (H : InOk p) : F_trace_right (p.map mkF) = some (okFig p) := by
  have hint : ∀ l ∈ p, ∀ q ∈ prs l.Parts, F_trace_spot (sF q) = some (inBB q) := by
    intro l hl q hq
    obtain ⟨h1, h2⟩ := mem_prs _ _ hq
    obtain ⟨a1, a2⟩ := H.ints l hl _ h1
    obtain ⟨a3, a4⟩ := H.ints l hl _ h2
    exact spot_int q.1 q.2 a1 a2 a3 a4
  rw [rightF (fun z => (F_trace_spot z).getD false) (p.map mkF) (by rw [List.length_map]; exact H.len) (by
    intro s hs
    rw [List.mem_map] at hs
    obtain ⟨l, hl, rfl⟩ := hs
    have := H.parts l hl
    simp only [mkF, List.length_map, prs_len]; omega) (by
    intro s hs z hz
    rw [List.mem_map] at hs
    obtain ⟨l, hl, rfl⟩ := hs
    simp only [mkF, List.mem_map] at hz
    obtain ⟨q, hq, rfl⟩ := hz
    rw [hint l hl q hq]; rfl)]
  unfold okFig
  rw [← Bool.and_assoc]
  congr 1
  congr 1
  rw [Bool.eq_iff_iff]
  simp only [List.all_eq_true, Bool.and_eq_true, List.mem_map]
  constructor
  · intro h
    constructor
    · intro l hl q hq
      have h2 := (h (mkF l) ⟨l, hl, rfl⟩).2 (sF q) (by simp only [mkF, List.mem_map]; exact ⟨q, hq, rfl⟩)
      rw [hint l hl q hq] at h2
      exact h2
    · intro l hl
      have h2 := (h (mkF l) ⟨l, hl, rfl⟩).1
      simpa [mkF] using h2
  · rintro ⟨h1, h2⟩ s ⟨l, hl, rfl⟩
    constructor
    · have h3 := h2 l hl
      simpa [mkF] using h3
    · intro z hz
      simp only [mkF, List.mem_map] at hz
      obtain ⟨q, hq, rfl⟩ := hz
      rw [hint l hl q hq]
      exact h1 l hl q hq
theorem okFig_spec {p : List T_lecternlaw10_Line} (h : okFig p = true) : (∀ l ∈ p, InL (prs l.Parts)) ∧ (∀ l ∈ p, prs l.Parts ≠ []) ∧ lens (p.map mkF) ≤ 500 := by
  unfold okFig at h
  simp only [Bool.and_eq_true, List.all_eq_true, decide_eq_true_eq] at h
  obtain ⟨h1, h2, h3⟩ := h
  refine ⟨?_, ?_, h3⟩
  · intro l hl q hq
    have := h1 l hl q hq
    unfold inBB inB at this
    simp only [Bool.and_eq_true, decide_eq_true_eq] at this
    exact ⟨this.1.1, this.1.2, this.2.1, this.2.2⟩
  · intro l hl h4
    have := h2 l hl
    rw [h4] at this; simp at this
/-- What Show writes. -/
theorem show_eq (p : List T_lecternlaw10_Line) (H : InOk p) : F_trace_Show (p.map mkF) = if okFig p = true then some (Lib.join (tkA p) [32], 0) else some ([], 1) := by
  unfold F_trace_Show
  rw [right_eq p H, Option.bind_some]
  cases ho : okFig p with
  | false => rfl
  | true =>
    obtain ⟨h1, h2, h3⟩ := okFig_spec ho
    simp only [letJ, Bool.not_true, cond_false, show_l0 p h1 H.len h3, Option.bind_some, if_true]
    have hk := tkA_len p h3 H.len p.length
    rw [List.take_length] at hk
    have hs := joinTail_len _ (tkA_small p h1)
    have hj : (Lib.join (tkA p) [32]).length ≤ 22 * (tkA p).length := by
      generalize tkA p = l at *
      cases l with
      | nil => simp [Lib.join_nil]
      | cons x r =>
        rw [Lib.join_cons, List.length_append]
        simp only [Lib.joinTail, List.map_cons, List.flatten_cons, List.length_append, List.length_cons, List.length_nil] at hs ⊢
        omega
    have hL : L_Join (tkA p) [32] = some (Lib.join (tkA p) [32]) := by unfold L_Join; rw [if_pos ⟨by omega, by omega⟩]
    rw [hL]; rfl
theorem mem_sum {α : Type} (f : α → Nat) : ∀ (l : List α) (x : α), x ∈ l → f x ≤ (l.map f).sum
  | [], x, h => by cases h
  | y :: l, x, h => by
    simp only [List.map_cons, List.sum_cons]
    rcases List.mem_cons.1 h with rfl | h
    · omega
    · have := mem_sum f l x h; omega
theorem len_sum0 {α : Type} (f : α → Nat) (hf : ∀ x, 1 ≤ f x) : ∀ l : List α, l.length ≤ (l.map f).sum
  | [] => by simp
  | x :: l => by
    have := hf x; have := len_sum0 f hf l
    simp only [List.map_cons, List.sum_cons, List.length_cons]; omega
theorem len_sum1 {α : Type} (l : List α) : (l.map fun _ => 1).sum = l.length := by induction l <;> simp_all [Nat.add_comm]
abbrev okLines (p : List T_lecternlaw10_Line) : Prop := (∀ y ∈ p, ((fun x : T_lecternlaw10_Line => ((fun l => (∀ y ∈ l, (okI .i64) y) ∧ l.length ≤ 9223372036854775807)) x.Parts ∧ ((fun _ : Bool => True)) x.Closed ∧ True)) y) ∧ p.length ≤ 9223372036854775807
abbrev szLines (p : List T_lecternlaw10_Line) : Nat := (p.map (fun x : T_lecternlaw10_Line => ((fun l => (l.map (fun _ : Int => 1)).sum + 1) x.Parts + ((fun _ : Bool => 1) x.Closed + 0)) + 1)).sum + 1
theorem inOk_of (p : List T_lecternlaw10_Line) (o : okLines p) (t : szLines p ≤ 1048576) : InOk p where
  len := by
    have := len_sum0 (fun x : T_lecternlaw10_Line => ((fun l => (l.map (fun _ : Int => 1)).sum + 1) x.Parts + ((fun _ : Bool => 1) x.Closed + 0)) + 1) (fun x => by omega) p
    unfold szLines at t
    omega
  parts := fun l hl => by
    have := Nat.le_trans (mem_sum (fun x : T_lecternlaw10_Line => ((fun l => (l.map (fun _ : Int => 1)).sum + 1) x.Parts + ((fun _ : Bool => 1) x.Closed + 0)) + 1) p l hl) (show _ ≤ 1048575 by unfold szLines at t; omega)
    have e := len_sum1 l.Parts
    simp only at this
    omega
  ints := fun l hl a ha => by
    have := (o.1 l hl).1.1 a ha
    unfold okI at this
    have e1 : IntKind.min .i64 = -9223372036854775808 := by decide
    have e2 : IntKind.max .i64 = 9223372036854775807 := by decide
    rw [e1, e2] at this
    exact this
end Go.Proofs.YtocfjohangcajaaDoor
