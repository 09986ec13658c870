/- Whole numbers beyond 2^53 as floats: they are beyond a million still. No condition. -/
import Derived.Test.YtocfjohangcajaaDoorFw
set_option linter.unusedSimpArgs false
set_option linter.unusedVariables false
namespace Go.Proofs.YtocfjohangcajaaDoor
open Fl

open Ieee in
theorem cut_two (s : Bool) (m d : Nat) : Toward.even.cut s m d = m / 2 ^ min d (m.log2 + 2) ∨ Toward.even.cut s m d = m / 2 ^ min d (m.log2 + 2) + 1 := by
  unfold Toward.cut
  simp only [Nat.shiftLeft_eq, Nat.one_mul]
  generalize (decide (2 ^ min d (m.log2 + 2) < 2 * (m % 2 ^ min d (m.log2 + 2))) || _) = b
  cases b
  · left; rfl
  · right; rfl
open Ieee in
theorem big_I (a : Int) (h1 : 9007199254740992 < a.natAbs) (h2 : a.natAbs ≤ 9223372036854775808) : ∃ z, isI (i2f a) z ∧ 1000000 < z.natAbs := by
  have key : ∀ (s : Bool) (m : Nat), 9007199254740992 < m → m ≤ 9223372036854775808 → ∃ (M : Nat) (P : Nat), double.read (double.nearest s m 0) = .number s M (P : Int) ∧ 4503599627370496 ≤ M := by
    intro s m h1 h2
    have hm0 : m ≠ 0 := by omega
    have hL : 53 ≤ m.log2 := (Nat.le_log2 hm0).2 (by omega)
    have hU : m.log2 < 64 := (Nat.log2_lt hm0).2 (by omega)
    have hlo : 2 ^ m.log2 ≤ m := (Nat.le_log2 hm0).1 (Nat.le_refl _)
    have hhi : m < 2 ^ (m.log2 + 1) := (Nat.log2_lt hm0).1 (Nat.lt_succ_self _)
    obtain ⟨d, hd⟩ : ∃ d, m.log2 = 52 + d := ⟨m.log2 - 52, by omega⟩
    rw [nearest_unf s m 0 hm0]
    have e1 : max ((0 : Int) + (m.log2 : Int) - 52) (-1074) = (d : Int) := by omega
    rw [e1]
    have e2 : ((0 : Int) - (d : Int)).toNat = 0 := by omega
    have e3 : ((d : Int) - 0).toNat = d := by omega
    have e4 : ((d : Int) - -1074).toNat = d + 1074 := by omega
    rw [e2, e3, e4, Nat.shiftLeft_zero]
    have hmin : min d (m.log2 + 2) = d := by omega
    have hp : 0 < 2 ^ d := Nat.pow_pos (by decide)
    have hq1 : 2 ^ 52 ≤ m / 2 ^ d := by
      rw [Nat.le_div_iff_mul_le hp, ← Nat.pow_add, ← hd]; exact hlo
    have hq2 : m / 2 ^ d < 2 ^ 53 := by
      rw [Nat.div_lt_iff_lt_mul hp, ← Nat.pow_add]
      rw [show 53 + d = m.log2 + 1 by omega]; exact hhi
    have hc := cut_two s m d
    rw [hmin] at hc
    generalize Toward.even.cut s m d = q at *
    generalize m / 2 ^ d = w at *
    by_cases hq : q < 2 ^ 53
    · refine ⟨2 ^ 52 + (q - 2 ^ 52), d, ?_, by omega⟩
      rw [Nat.min_eq_left (by omega)]
      rw [show (d + 1074) * 2 ^ 52 + q = ((d + 1074) + 1) * 2 ^ 52 + (q - 2 ^ 52) by omega, read_word s _ _ (by omega) (by omega), show (-1074 : Int) + ((d + 1074 : Nat) : Int) = (d : Int) by omega]
    · refine ⟨2 ^ 52 + 0, d + 1, ?_, by omega⟩
      have hq3 : q = 2 ^ 53 := by omega
      subst hq3
      rw [Nat.min_eq_left (by omega)]
      rw [show (d + 1074) * 2 ^ 52 + 2 ^ 53 = ((d + 1075) + 1) * 2 ^ 52 + 0 by omega, read_word s _ _ (by omega) (by omega), show (-1074 : Int) + ((d + 1075 : Nat) : Int) = ((d + 1 : Nat) : Int) by omega]
  obtain ⟨M, P, hr, hM⟩ := key (decide (a < 0)) a.natAbs h1 h2
  refine ⟨sg (decide (a < 0)) M * 2 ^ P, ⟨_, M, (P : Int), hr, ?_⟩, ?_⟩
  · simp
  · rw [Int.natAbs_mul, sg_natAbs, Int.natAbs_pow]
    have : 1 ≤ 2 ^ P := Nat.pow_pos (by decide)
    have h4 := Nat.mul_le_mul hM this
    show 1000000 < M * 2 ^ P
    omega

theorem part_big {x : Nat} {z : Int} (hx : isI x z) (hz : 1000000 < z.natAbs) : F_trace_part x = some false := by
  obtain ⟨q, h3, h4⟩ := Abs_I hx
  have ht : ∃ r, F_math_Trunc x = some r := by
    obtain ⟨s, m, p, e, h⟩ := hx
    have hd : FloatKind.f64.decode x = .number s m p := e
    unfold F_math_Trunc L_archTrunc
    rw [hd]
    exact ⟨_, rfl⟩
  obtain ⟨r, h1⟩ := ht
  unfold F_trace_part
  rw [h1, Option.bind_some]
  simp only [letJ, h3, Option.bind_some, fle_I h4 million_I]
  rw [decide_eq_false (by omega)]
  cases feq x r <;> rfl
/-- Any whole number of 64 bits. -/
theorem part_int (a : Int) (h1 : -9223372036854775808 ≤ a) (h2 : a ≤ 9223372036854775807) : F_trace_part (i2f a) = some (inB a) := by
  by_cases h : a.natAbs ≤ 9007199254740992
  · exact part_I (i2f_I a h) h
  · obtain ⟨z, h3, h4⟩ := big_I a (by omega) (by omega)
    rw [part_big h3 h4]
    unfold inB
    by_cases h5 : 0 ≤ a
    · rw [decide_eq_false (p := a ≤ 1000000) (by omega), Bool.and_false]
    · rw [decide_eq_false (p := -1000000 ≤ a) (by omega), Bool.false_and]
theorem spot_int (a b : Int) (h1 : -9223372036854775808 ≤ a) (h2 : a ≤ 9223372036854775807) (h3 : -9223372036854775808 ≤ b) (h4 : b ≤ 9223372036854775807) : F_trace_spot (i2f a, i2f b) = some (inB a && inB b) := by
  unfold F_trace_spot
  rw [part_int a h1 h2, Option.bind_some]
  simp only [letJ, part_int b h3 h4, Option.bind_some]
  cases inB a <;> rfl
theorem f2i_int (a : Int) (h : a.natAbs ≤ 9007199254740992) : f2i .i64 (i2f a) = some a := by
  have ht := toInt_I (i2f_I a h)
  have hd : (FloatKind.f64.decode (i2f a)).toInt .zero = some a := ht
  unfold f2i
  rw [hd]
  have e1 : IntKind.min .i64 = -9223372036854775808 := by decide
  have e2 : IntKind.max .i64 = 9223372036854775807 := by decide
  simp only [e1, e2]
  rw [if_pos (by omega)]
end Go.Proofs.YtocfjohangcajaaDoor
