/- Whole numbers as floats, in the walks' words. No condition. -/
import Derived.Test.YtocfjohangcajaaDoorPf
import Derived.Test.YtocfjohangcajaaDoorFl
import Derived.Test.YtocfjohangcajaaDoorPl1
set_option linter.unusedSimpArgs false
set_option linter.unusedVariables false
namespace Go.Proofs.YtocfjohangcajaaDoor
open Fl

theorem fadd_I {x y : Nat} {a b : Int} (hx : isI x a) (hy : isI y b) (hz : (a + b).natAbs ≤ 9007199254740992) : ∃ r, fadd x y = some r ∧ isI r (a + b) := add_I hx hy hz
theorem fsub_I {x y : Nat} {a b : Int} (hx : isI x a) (hy : isI y b) (hz : (a - b).natAbs ≤ 9007199254740992) : ∃ r, fsub x y = some r ∧ isI r (a - b) := sub_I hx hy hz
theorem fmul_I {x y : Nat} {a b : Int} (hx : isI x a) (hy : isI y b) (hz : (a * b).natAbs ≤ 9007199254740992) : ∃ r, fmul x y = some r ∧ isI r (a * b) := mul_I hx hy hz
theorem i2f_I (n : Int) (hz : n.natAbs ≤ 9007199254740992) : isI (i2f n) n := int_I n hz
theorem ord_I {x y : Nat} {a b : Int} (hx : isI x a) (hy : isI y b) : FloatKind.f64.format.order x y = some (compare a b) := order_I hx hy

theorem cmp_cases (a b : Int) : (a < b ∧ compare a b = .lt) ∨ (a = b ∧ compare a b = .eq) ∨ (b < a ∧ compare a b = .gt) := by
  simp only [compare, compareOfLessAndEq]
  by_cases h : a < b
  · left; exact ⟨h, if_pos h⟩
  · by_cases h2 : a = b
    · right; left; exact ⟨h2, by rw [if_neg h, if_pos h2]⟩
    · right; right; exact ⟨by omega, by rw [if_neg h, if_neg h2]⟩
section
variable {x y : Nat} {a b : Int} (hx : isI x a) (hy : isI y b)
include hx hy
theorem feq_I : feq x y = decide (a = b) := by
  unfold feq; rw [ord_I hx hy]
  rcases cmp_cases a b with ⟨h, e⟩ | ⟨h, e⟩ | ⟨h, e⟩ <;> rw [e]
  · rw [decide_eq_false (by omega)]; rfl
  · rw [decide_eq_true h]; rfl
  · rw [decide_eq_false (by omega)]; rfl
theorem flt_I : flt x y = decide (a < b) := by
  unfold flt; rw [ord_I hx hy]
  rcases cmp_cases a b with ⟨h, e⟩ | ⟨h, e⟩ | ⟨h, e⟩ <;> rw [e]
  · rw [decide_eq_true h]; rfl
  · rw [decide_eq_false (by omega)]; rfl
  · rw [decide_eq_false (by omega)]; rfl
theorem fle_I : fle x y = decide (a ≤ b) := by
  unfold fle; rw [ord_I hx hy]
  rcases cmp_cases a b with ⟨h, e⟩ | ⟨h, e⟩ | ⟨h, e⟩ <;> rw [e]
  · rw [decide_eq_true (by omega)]; rfl
  · rw [decide_eq_true (by omega)]; rfl
  · rw [decide_eq_false (by omega)]; rfl
theorem fgt_I : fgt x y = decide (b < a) := by
  unfold fgt; rw [ord_I hx hy]
  rcases cmp_cases a b with ⟨h, e⟩ | ⟨h, e⟩ | ⟨h, e⟩ <;> rw [e]
  · rw [decide_eq_false (by omega)]; rfl
  · rw [decide_eq_false (by omega)]; rfl
  · rw [decide_eq_true h]; rfl
end

/-! words and their signs -/
open Ieee in
def rdW (neg : Bool) (rung : Nat) : Datum :=
  if rung < double.binade then .number neg rung double.leastPlace
  else if rung < double.infRung then .number neg (double.binade + rung % double.binade) (double.leastPlace + (rung / double.binade - 1 : Nat))
  else if rung = double.infRung then .infinity neg
  else .nan neg (rung - double.infRung)
open Ieee in
theorem read_eq (x : Nat) : double.read x = rdW (x / 2 ^ 63 % 2 == 1) (x % 2 ^ 63) := rfl
open Ieee in
theorem rdW_number {neg s : Bool} {rung m : Nat} {p : Int} (h : rdW neg rung = .number s m p) : s = neg ∧ ∀ n2, rdW n2 rung = .number n2 m p := by
  unfold rdW at h ⊢
  split at h
  · rename_i h1
    injection h with e1 e2 e3
    exact ⟨e1.symm, fun n2 => by rw [if_pos h1, e2, e3]⟩
  · rename_i h1
    split at h
    · rename_i h2
      injection h with e1 e2 e3
      exact ⟨e1.symm, fun n2 => by rw [if_neg h1, if_pos h2, e2, e3]⟩
    · split at h <;> simp at h

theorem fneg_I {x : Nat} {a : Int} (hx : isI x a) : isI (fneg x) (-a) := by
  obtain ⟨s, m, p, e, h⟩ := hx
  rw [read_eq] at e
  obtain ⟨e1, e2⟩ := rdW_number e
  have hm : (x ^^^ 2 ^ 63) % 2 ^ 63 = x % 2 ^ 63 := by
    rw [Nat.xor_mod_two_pow, Nat.mod_self, Nat.xor_zero]
  refine ⟨_, m, p, by show Ieee.double.read (x ^^^ 2 ^ 63) = _; rw [read_eq, hm, e2], ?_⟩
  have hd : ((x ^^^ 2 ^ 63) / 2 ^ 63 % 2 == 1) = !(x / 2 ^ 63 % 2 == 1) := by
    rw [Nat.xor_div_two_pow, Nat.div_self (by decide)]
    have hx2 : (x / 2 ^ 63 ^^^ 1) % 2 = (x / 2 ^ 63 % 2) ^^^ 1 := by
      have := Nat.xor_mod_two_pow (a := x / 2 ^ 63) (b := 1) (n := 1)
      simpa using this
    rw [hx2]
    rcases Nat.mod_two_eq_zero_or_one (x / 2 ^ 63) with h0 | h0 <;> rw [h0] <;> rfl
  rw [hd, ← e1]
  have hs : sg (!s) m = -sg s m := by cases s <;> simp [sg]
  rw [hs, Int.neg_mul, h, Int.neg_mul]

theorem low_I {x : Nat} {a : Int} (hx : isI x a) : isI (x % 2 ^ 63) (a.natAbs : Int) := by
  obtain ⟨s, m, p, e, h⟩ := hx
  rw [read_eq] at e
  obtain ⟨e1, e2⟩ := rdW_number e
  refine ⟨false, m, p, ?_, ?_⟩
  · have h0 : ((x % 2 ^ 63) / 2 ^ 63 % 2 == 1) = false := by rw [Nat.div_eq_of_lt (Nat.mod_lt _ (by decide))]; rfl
    rw [read_eq, h0, Nat.mod_mod, e2]
  · have := congrArg Int.natAbs h
    rw [Int.natAbs_mul, Int.natAbs_mul, sg_natAbs, Int.natAbs_pow, Int.natAbs_pow] at this
    have h2 : (Int.natAbs 2) = 2 := rfl
    rw [h2] at this
    show (m : Int) * 2 ^ p.toNat = _
    have h3 : ((m * 2 ^ p.toNat : Nat) : Int) = ((a.natAbs * 2 ^ (-p).toNat : Nat) : Int) := by rw [this]
    simpa using h3
theorem Abs_I {x : Nat} {a : Int} (hx : isI x a) : ∃ r, F_math_Abs x = some r ∧ isI r (a.natAbs : Int) := by
  refine ⟨x % 2 ^ 63, ?_, low_I hx⟩
  unfold F_math_Abs
  simp only [L_bits, L_frombits, Option.bind_some]
  congr 1
  show (IntKind.wrap .u64 ((BitVec.ofInt 64 (x : Int) &&& ~~~(BitVec.ofInt 64 9223372036854775808)).toNat : Int)).toNat = _
  have e1 : (~~~(BitVec.ofInt 64 9223372036854775808)).toNat = 2 ^ 63 - 1 := by decide
  have e2 : (BitVec.ofInt 64 (x : Int)).toNat = x % 2 ^ 64 := by simp [BitVec.toNat_ofInt]
  have e3 : (BitVec.ofInt 64 (x : Int) &&& ~~~(BitVec.ofInt 64 9223372036854775808)).toNat = x % 2 ^ 63 := by
    rw [BitVec.toNat_and, e1, e2, Nat.and_two_pow_sub_one_eq_mod, Nat.mod_mod_of_dvd _ (Nat.pow_dvd_pow 2 (by decide))]
  rw [e3]
  have hlt : x % 2 ^ 63 < 2 ^ 63 := Nat.mod_lt _ (by decide)
  have hw : IntKind.wrap .u64 ((x % 2 ^ 63 : Nat) : Int) = ((x % 2 ^ 63 : Nat) : Int) := by
    have e : ∀ z : Int, IntKind.wrap .u64 z = z % 18446744073709551616 := fun z => by simp [IntKind.wrap, IntKind.bits, IntKind.signed]
    rw [e]; omega
  rw [hw, Int.toNat_natCast]
theorem Trunc_I {x : Nat} {a : Int} (hx : isI x a) (ha : a.natAbs ≤ 9007199254740992) : ∃ r, F_math_Trunc x = some r ∧ isI r a := by
  have ht := toInt_I hx
  obtain ⟨s, m, p, e, h⟩ := hx
  have hd : FloatKind.f64.decode x = .number s m p := e
  rw [e] at ht
  simp only [Ieee.Datum.toInt, Ieee.Datum.integral] at ht
  injection ht with ht
  unfold F_math_Trunc L_archTrunc
  rw [hd]
  simp only [Ieee.Datum.integral, Option.bind_some]
  refine ⟨_, rfl, Is.write ⟨_, _, _, rfl, ?_⟩ ha⟩
  rw [signed_eq] at ht
  simpa using ht
theorem million_I : isI 4696837146684686336 1000000 := ⟨false, 8589934592000000, -33, by decide, by decide⟩
theorem zero_I : isI 0 0 := ⟨false, 0, -1074, by decide, by rw [show sg false 0 = 0 from rfl, Int.zero_mul, Int.zero_mul]⟩

def inB (a : Int) : Bool := decide (-1000000 ≤ a) && decide (a ≤ 1000000)
theorem part_I {x : Nat} {a : Int} (hx : isI x a) (ha : a.natAbs ≤ 9007199254740992) : F_trace_part x = some (inB a) := by
  obtain ⟨r, h1, h2⟩ := Trunc_I hx ha
  obtain ⟨q, h3, h4⟩ := Abs_I hx
  unfold F_trace_part
  rw [h1, Option.bind_some]
  simp only [letJ, feq_I hx h2, decide_true, cond_true, h3, Option.bind_some, fle_I h4 million_I]
  congr 1
  unfold inB
  rw [← Bool.decide_and]
  congr 1
  simp only [eq_iff_iff]
  omega
/-- A spot, by whole numbers. -/
def Sp (z : Nat × Nat) (p : Int × Int) : Prop := isI z.1 p.1 ∧ isI z.2 p.2
theorem spot_I {z : Nat × Nat} {p : Int × Int} (h : Sp z p) (h1 : p.1.natAbs ≤ 9007199254740992) (h2 : p.2.natAbs ≤ 9007199254740992) : F_trace_spot z = some (inB p.1 && inB p.2) := by
  unfold F_trace_spot
  rw [part_I h.1 h1, Option.bind_some]
  simp only [letJ, part_I h.2 h2, Option.bind_some]
  cases inB p.1 <;> rfl
theorem csub_I {z w : Nat × Nat} {p q : Int × Int} (h : Sp z p) (g : Sp w q) (h1 : (p.1 - q.1).natAbs ≤ 9007199254740992) (h2 : (p.2 - q.2).natAbs ≤ 9007199254740992) : ∃ r, csub z w = some r ∧ Sp r (p.1 - q.1, p.2 - q.2) := by
  obtain ⟨r, e1, e2⟩ := fsub_I h.1 g.1 h1
  obtain ⟨s, e3, e4⟩ := fsub_I h.2 g.2 h2
  exact ⟨(r, s), by simp [csub, e1, e3], e2, e4⟩
def crs (u v : Int × Int) : Int := u.1 * v.2 - u.2 * v.1
theorem abs_mul_le {a b : Int} {m n : Nat} (h1 : a.natAbs ≤ m) (h2 : b.natAbs ≤ n) : (a * b).natAbs ≤ m * n := by rw [Int.natAbs_mul]; exact Nat.mul_le_mul h1 h2
theorem cross_I {z w : Nat × Nat} {u v : Int × Int} (h : Sp z u) (g : Sp w v) (h1 : u.1.natAbs ≤ 10000000) (h2 : u.2.natAbs ≤ 10000000) (h3 : v.1.natAbs ≤ 10000000) (h4 : v.2.natAbs ≤ 10000000) :
    ∃ r, F_trace_cross z w = some r ∧ isI r (crs u v) := by
  have hn := fneg_I h.2
  have b1 := abs_mul_le h1 h3
  have b2 := abs_mul_le h2 h4
  have b3 := abs_mul_le h1 h4
  have b4 := abs_mul_le h2 h3
  have b2' : (-u.2 * v.2).natAbs ≤ 10000000 * 10000000 := by rw [Int.neg_mul, Int.natAbs_neg]; exact b2
  have b4' : (-u.2 * v.1).natAbs ≤ 10000000 * 10000000 := by rw [Int.neg_mul, Int.natAbs_neg]; exact b4
  obtain ⟨r1, e1, i1⟩ := fmul_I h.1 g.1 (by omega)
  obtain ⟨r2, e2, i2⟩ := fmul_I hn g.2 (by omega)
  obtain ⟨r3, e3, i3⟩ := fmul_I h.1 g.2 (by omega)
  obtain ⟨r4, e4, i4⟩ := fmul_I hn g.1 (by omega)
  obtain ⟨r5, e5, i5⟩ := fsub_I i1 i2 (by omega)
  obtain ⟨r6, e6, i6⟩ := fadd_I i3 i4 (by omega)
  refine ⟨r6, ?_, ?_⟩
  · unfold F_trace_cross cmul
    simp only [e1, e2, e3, e4, e5, e6, Option.bind_some, Option.map_some]
  · have : crs u v = u.1 * v.2 + -u.2 * v.1 := by unfold crs; rw [Int.neg_mul]; omega
    rw [this]; exact i6
end Go.Proofs.YtocfjohangcajaaDoor
