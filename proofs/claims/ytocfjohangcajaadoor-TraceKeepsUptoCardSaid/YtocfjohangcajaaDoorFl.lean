/- Whole numbers as floats: sums, differences, products and comparisons are exact. No condition. -/
import Ieee.Arith
set_option linter.unusedSimpArgs false
set_option linter.unusedVariables false
namespace Go.Proofs.YtocfjohangcajaaDoor
namespace Fl
open Ieee

/-- A magnitude with its sign. -/
def sg (s : Bool) (m : Nat) : Int := if s then -(m : Int) else m
theorem sg_natAbs (s : Bool) (m : Nat) : (sg s m).natAbs = m := by cases s <;> simp [sg]
theorem sg_mul (s t : Bool) (m n : Nat) : sg (s ^^ t) (m * n) = sg s m * sg t n := by cases s <;> cases t <;> simp [sg, Int.neg_mul, Int.mul_neg]
theorem signed_eq (s : Bool) (m up : Nat) : signed s m up = sg s m * 2 ^ up := by
  cases s <;> simp [signed, sg, Nat.shiftLeft_eq, Int.neg_mul]

/-- That datum is the whole number z. -/
def Is (d : Datum) (z : Int) : Prop := ∃ s m p, d = .number s m p ∧ sg s m * 2 ^ p.toNat = z * 2 ^ (-p).toNat
/-- That word is the whole number z. -/
def isI (b : Nat) (z : Int) : Prop := Is (double.read b) z

theorem pow_pos2 (n : Nat) : (0 : Int) < 2 ^ n := Int.pow_pos (by decide)

theorem cut_exact (s : Bool) (q drop : Nat) : Toward.even.cut s (q * 2 ^ drop) drop = q ∧ Toward.zero.cut s (q * 2 ^ drop) drop = q := by
  by_cases hq : q = 0
  · subst hq
    have h0 : (0 : Nat).log2 = 0 := by simp
    have hp : 0 < 2 ^ (min drop 2) := Nat.pow_pos (by decide)
    constructor
    · simp only [Toward.cut, Nat.zero_mul, h0, Nat.shiftLeft_eq, Nat.one_mul, Nat.zero_add, Nat.zero_div, Nat.zero_mod, Nat.mul_zero]
      have h1 : ¬ 2 ^ (min drop 2) < 0 := by omega
      have h2 : ((2 ^ (min drop 2) == 0) : Bool) = false := by simp
      simp [h1, h2]
    · simp [Toward.cut]
  · have hlog : drop ≤ (q * 2 ^ drop).log2 := by
      rw [Nat.le_log2 (by have := Nat.pow_pos (n := drop) (by decide : 0 < 2); have : 0 < q * 2 ^ drop := Nat.mul_pos (by omega) this; omega)]
      exact Nat.le_mul_of_pos_left _ (by omega)
    have hmin : min drop ((q * 2 ^ drop).log2 + 2) = drop := by omega
    have hp : 0 < 2 ^ drop := Nat.pow_pos (by decide)
    have h1 : ¬ 2 ^ drop < 0 := by omega
    have h2 : ((2 ^ drop == 0) : Bool) = false := by simp
    constructor
    · simp only [Toward.cut, hmin, Nat.shiftLeft_eq, Nat.one_mul, Nat.mul_div_cancel _ hp, Nat.mul_mod_left, Nat.mul_zero]
      simp [h1, h2]
    · simp only [Toward.cut, hmin, Nat.shiftLeft_eq, Nat.one_mul, Nat.mul_div_cancel _ hp, Nat.mul_mod_left, Nat.mul_zero]
      simp

theorem read_word (s : Bool) (e k : Nat) (he : e < 2046) (hk : k < 2 ^ 52) : double.read (double.word s ((e + 1) * 2 ^ 52 + k)) = .number s (2 ^ 52 + k) (-1074 + (e : Int)) := by
  have hsw : double.signWeight = 2 ^ 63 := rfl
  have hbi : double.binade = 2 ^ 52 := rfl
  have hin : double.infRung = 2047 * 2 ^ 52 := rfl
  have hle : double.leastPlace = -1074 := rfl
  have hrung : (e + 1) * 2 ^ 52 + k < 2 ^ 63 := by omega
  have hneg : (double.word s ((e + 1) * 2 ^ 52 + k) / 2 ^ 63 % 2 == 1) = s := by
    cases s
    · simp only [Format.word, Bool.false_eq_true, if_false]
      rw [Nat.div_eq_of_lt hrung]; rfl
    · simp only [Format.word, if_true, hsw]
      rw [Nat.add_div_left _ (by decide), Nat.div_eq_of_lt hrung]; rfl
  have hmod : double.word s ((e + 1) * 2 ^ 52 + k) % 2 ^ 63 = (e + 1) * 2 ^ 52 + k := by
    cases s
    · simp only [Format.word, Bool.false_eq_true, if_false]
      exact Nat.mod_eq_of_lt hrung
    · simp only [Format.word, if_true, hsw]
      rw [Nat.add_mod_left]; exact Nat.mod_eq_of_lt hrung
  simp only [Format.read, hsw, hneg, hmod, hbi, hin, hle]
  rw [if_neg (by omega), if_pos (by omega)]
  have h1 : ((e + 1) * 2 ^ 52 + k) % 2 ^ 52 = k := by rw [Nat.mul_add_mod_self_right]; exact Nat.mod_eq_of_lt hk
  have h2 : ((e + 1) * 2 ^ 52 + k) / 2 ^ 52 = e + 1 := by
    rw [Nat.mul_comm, Nat.mul_add_div (by decide), Nat.div_eq_of_lt hk, Nat.add_zero]
  rw [h1, h2]
  simp

theorem read_zero (s : Bool) : double.read (double.word s 0) = .number s 0 (-1074) := by cases s <;> decide

theorem log2_mul_pow {m k : Nat} (hm : m ≠ 0) : (m * 2 ^ k).log2 = m.log2 + k := by
  have h0 : m * 2 ^ k ≠ 0 := by have := Nat.pow_pos (n := k) (by decide : 0 < 2); have : 0 < m * 2 ^ k := Nat.mul_pos (by omega) this; omega
  rw [Nat.log2_eq_iff h0]
  constructor
  · rw [Nat.pow_add]; exact Nat.mul_le_mul_right _ (Nat.log2_self_le hm)
  · have : m.log2 + k + 1 = (m.log2 + 1) + k := by omega
    rw [this, Nat.pow_add]
    exact Nat.mul_lt_mul_of_pos_right Nat.lt_log2_self (Nat.pow_pos (by decide))

theorem nearest_unf (s : Bool) (m : Nat) (p : Int) (hm : m ≠ 0) : double.nearest s m p = double.word s (min ((max (p + (m.log2 : Int) - (52 : Int)) (-1074) - -1074).toNat * 2 ^ 52 + Toward.even.cut s (m <<< (p - max (p + (m.log2 : Int) - (52 : Int)) (-1074)).toNat) (max (p + (m.log2 : Int) - (52 : Int)) (-1074) - p).toNat) (2047 * 2 ^ 52)) := by
  have hbi : double.binade = 2 ^ 52 := rfl
  have hin : double.infRung = 2047 * 2 ^ 52 := rfl
  have hle : double.leastPlace = -1074 := rfl
  have hfb : (double.fractionBits : Int) = 52 := rfl
  unfold Format.nearest
  rw [if_neg hm, hbi, hin, hle, hfb]

/-- A number of few digits is written as itself. -/
theorem nearest_read (s : Bool) (m : Nat) (p : Int) (q : Nat) (e : Int) (hq : 2 ^ 52 ≤ q) (hq2 : q < 2 ^ 53) (he : -1074 ≤ e) (he2 : e ≤ 900) (hm : m * 2 ^ p.toNat * 2 ^ (-e).toNat = q * 2 ^ e.toNat * 2 ^ (-p).toNat) :
    double.read (double.nearest s m p) = .number s q e := by
  have hq0 : q ≠ 0 := by omega
  have hm0 : m ≠ 0 := by
    intro h; subst h
    have h1 : 0 < 2 ^ e.toNat := Nat.pow_pos (by decide)
    have h2 : 0 < 2 ^ (-p).toNat := Nat.pow_pos (by decide)
    have : 0 < q * 2 ^ e.toNat * 2 ^ (-p).toNat := Nat.mul_pos (Nat.mul_pos (by omega) h1) h2
    simp at hm; omega
  have hlq : q.log2 = 52 := by rw [Nat.log2_eq_iff hq0]; exact ⟨hq, hq2⟩
  have hlog : (m.log2 : Int) + p = 52 + e := by
    have h1 := congrArg Nat.log2 hm
    have n1 : m * 2 ^ p.toNat ≠ 0 := by have := Nat.pow_pos (n := p.toNat) (by decide : 0 < 2); have : 0 < m * 2 ^ p.toNat := Nat.mul_pos (by omega) this; omega
    have n2 : q * 2 ^ e.toNat ≠ 0 := by have := Nat.pow_pos (n := e.toNat) (by decide : 0 < 2); have : 0 < q * 2 ^ e.toNat := Nat.mul_pos (by omega) this; omega
    rw [log2_mul_pow n1, log2_mul_pow n2, log2_mul_pow hm0, log2_mul_pow hq0, hlq] at h1
    omega
  have hlast : max (p + (m.log2 : Int) - (52 : Int)) (-1074) = e := by omega
  have hcut : Toward.even.cut s (m <<< (p - e).toNat) (e - p).toNat = q := by
    have hk : m <<< (p - e).toNat = q * 2 ^ (e - p).toNat := by
      rw [Nat.shiftLeft_eq]
      have hc : ∀ a b c d : Nat, m * 2 ^ a * 2 ^ b = q * 2 ^ c * 2 ^ d → ∀ x y, a + b + y = c + d + x → m * 2 ^ x = q * 2 ^ y := by
        intro a b c d h x y hxy
        rw [Nat.mul_assoc, ← Nat.pow_add, Nat.mul_assoc, ← Nat.pow_add] at h
        rcases Nat.le_total x (a + b) with h1 | h1
        · have e1 : a + b = x + (a + b - x) := by omega
          have e2 : c + d = y + (a + b - x) := by omega
          rw [e1, e2, Nat.pow_add 2 x, Nat.pow_add 2 y, ← Nat.mul_assoc, ← Nat.mul_assoc] at h
          exact Nat.eq_of_mul_eq_mul_right (Nat.pow_pos (by decide)) h
        · have e1 : x = a + b + (x - (a + b)) := by omega
          have e2 : y = c + d + (x - (a + b)) := by omega
          rw [e1, e2, Nat.pow_add 2 (a + b), Nat.pow_add 2 (c + d), ← Nat.mul_assoc, ← Nat.mul_assoc, h]
      exact hc _ _ _ _ hm _ _ (by omega)
    rw [hk]; exact (cut_exact s q _).1
  rw [nearest_unf s m p hm0, hlast, hcut]
  have hrung : (e - -1074).toNat * 2 ^ 52 + q = ((e - -1074).toNat + 1) * 2 ^ 52 + (q - 2 ^ 52) := by omega
  rw [hrung, Nat.min_eq_left (by omega), read_word s _ _ (by omega) (by omega)]
  have h1 : 2 ^ 52 + (q - 2 ^ 52) = q := by omega
  have h2 : (-1074 : Int) + (((e - -1074).toNat : Nat) : Int) = e := by omega
  rw [h1, h2]

/-- A whole number below 2^53 is written as itself. -/
theorem nearest_isI (s : Bool) (m : Nat) (p z : Int) (h : sg s m * 2 ^ p.toNat = z * 2 ^ (-p).toNat) (hz : z.natAbs ≤ 9007199254740992) : isI (double.nearest s m p) z := by
  have habs : m * 2 ^ p.toNat = z.natAbs * 2 ^ (-p).toNat := by
    have := congrArg Int.natAbs h
    rw [Int.natAbs_mul, Int.natAbs_mul, sg_natAbs, Int.natAbs_pow, Int.natAbs_pow] at this
    exact this
  by_cases hm : m = 0
  · subst hm
    have hz0 : z = 0 := by
      have h1 : 0 < 2 ^ (-p).toNat := Nat.pow_pos (by decide)
      have : z.natAbs = 0 := by
        rcases Nat.eq_zero_or_pos z.natAbs with h2 | h2
        · exact h2
        · have := Nat.mul_pos h2 h1; omega
      omega
    subst hz0
    refine ⟨s, 0, -1074, ?_, by rw [show sg s 0 = 0 by cases s <;> rfl, Int.zero_mul, Int.zero_mul]⟩
    simp only [Format.nearest, if_true]
    exact read_zero s
  · have hz0 : z.natAbs ≠ 0 := by
      intro h0
      rw [h0, Nat.zero_mul] at habs
      have h1 : 0 < 2 ^ p.toNat := Nat.pow_pos (by decide)
      have := Nat.mul_pos (by omega : 0 < m) h1; omega
    have hsz : z = sg s z.natAbs := by
      have h1 : (0 : Int) < 2 ^ p.toNat := pow_pos2 _
      have h2 : (0 : Int) < 2 ^ (-p).toNat := pow_pos2 _
      cases s
      · have h3 : 0 ≤ sg false m * 2 ^ p.toNat := Int.mul_nonneg (by simp [sg]) (by omega)
        rw [h] at h3
        have : 0 ≤ z := by
          rcases Int.lt_or_le z 0 with h4 | h4
          · have := Int.mul_neg_of_neg_of_pos h4 h2; omega
          · exact h4
        simp [sg]; omega
      · have h3 : sg true m * 2 ^ p.toNat < 0 := Int.mul_neg_of_neg_of_pos (by simp [sg]; omega) h1
        rw [h] at h3
        have : z < 0 := by
          rcases Int.lt_or_le z 0 with h4 | h4
          · exact h4
          · have := Int.mul_nonneg h4 (by omega : (0 : Int) ≤ 2 ^ (-p).toNat); omega
        simp [sg]; omega
    generalize hn : z.natAbs = n at *
    have hl : n.log2 ≤ 53 := by
      have := Nat.log2_self_le hz0
      rcases Nat.lt_or_ge 53 n.log2 with h1 | h1
      · have := Nat.pow_le_pow_right (by decide : 0 < 2) (by omega : 54 ≤ n.log2); omega
      · exact h1
    have g1 := Nat.log2_self_le hz0
    have g2 := Nat.lt_log2_self (n := n)
    by_cases hb : n.log2 ≤ 52
    · have e1 : 2 ^ 52 = 2 ^ n.log2 * 2 ^ (52 - n.log2) := by rw [← Nat.pow_add]; congr 1; omega
      have e2 : 2 ^ 53 = 2 ^ (n.log2 + 1) * 2 ^ (52 - n.log2) := by rw [← Nat.pow_add]; congr 1; omega
      have r := nearest_read s m p (n * 2 ^ (52 - n.log2)) ((n.log2 : Int) - 52) (by rw [e1]; exact Nat.mul_le_mul_right _ g1)
        (by rw [e2]; exact Nat.mul_lt_mul_of_pos_right g2 (Nat.pow_pos (by decide))) (by omega) (by omega) (by
          have t1 : ((n.log2 : Int) - 52).toNat = 0 := by omega
          have t2 : (-((n.log2 : Int) - 52)).toNat = 52 - n.log2 := by omega
          rw [t1, t2, habs, Nat.pow_zero, Nat.mul_one, Nat.mul_right_comm])
      refine ⟨s, _, _, r, ?_⟩
      have t1 : ((n.log2 : Int) - 52).toNat = 0 := by omega
      have t2 : (-((n.log2 : Int) - 52)).toNat = 52 - n.log2 := by omega
      rw [t1, t2, hsz]
      cases s <;> simp [sg, Int.neg_mul]
    · have hn53 : n = 9007199254740992 := by
        have : n.log2 = 53 := by omega
        rw [this] at g1; omega
      have r := nearest_read s m p (2 ^ 52) 1 (by omega) (by omega) (by omega) (by omega) (by
          rw [habs, hn53]
          show 9007199254740992 * 2 ^ (-p).toNat * 2 ^ 0 = 2 ^ 52 * 2 ^ 1 * 2 ^ (-p).toNat
          rw [Nat.pow_zero, Nat.mul_one])
      refine ⟨s, _, _, r, ?_⟩
      rw [hsz, hn53]
      cases s <;> simp [sg]

/-! ## The operations -/
theorem Is.lift {s : Bool} {m : Nat} {p base z : Int} (h : sg s m * 2 ^ p.toNat = z * 2 ^ (-p).toNat) (hb : base ≤ p) : sg s m * 2 ^ (p - base).toNat * 2 ^ base.toNat = z * 2 ^ (-base).toNat := by
  rcases Int.le_total 0 base with h0 | h0
  · have e1 : (p - base).toNat + base.toNat = p.toNat := by omega
    have e2 : (-p).toNat = 0 := by omega
    have e3 : (-base).toNat = 0 := by omega
    rw [Int.mul_assoc, ← Int.pow_add, e1, h, e2, e3]
  · have e3 : base.toNat = 0 := by omega
    rw [e3, Int.pow_zero, Int.mul_one]
    rcases Int.le_total 0 p with h1 | h1
    · have e1 : (p - base).toNat = p.toNat + (-base).toNat := by omega
      have e2 : (-p).toNat = 0 := by omega
      rw [e2, Int.pow_zero, Int.mul_one] at h
      rw [e1, Int.pow_add, ← Int.mul_assoc, h]
    · have e1 : (-base).toNat = (-p).toNat + (p - base).toNat := by omega
      have e2 : p.toNat = 0 := by omega
      rw [e2, Int.pow_zero, Int.mul_one] at h
      rw [e1, Int.pow_add, ← Int.mul_assoc, h]

theorem sg_total (b : Bool) (t : Int) (h : b = (if t = 0 then b else decide (t < 0))) : sg b t.natAbs = t := by
  by_cases h0 : t = 0
  · subst h0; cases b <;> simp [sg]
  · rw [if_neg h0] at h
    by_cases h1 : t < 0
    · rw [decide_eq_true h1] at h; subst h; simp [sg]; omega
    · rw [decide_eq_false h1] at h; subst h; simp [sg]; omega

theorem Is.sum {d e : Datum} {a b : Int} (hd : Is d a) (he : Is e b) : ∃ r, d.sum e = some r ∧ Is r (a + b) := by
  obtain ⟨s, m, i, rfl, h1⟩ := hd
  obtain ⟨t, n, j, rfl, h2⟩ := he
  refine ⟨_, rfl, _, _, _, rfl, ?_⟩
  simp only [signed_eq]
  have g1 := Is.lift (base := min i j) h1 (by omega)
  have g2 := Is.lift (base := min i j) h2 (by omega)
  generalize hA : sg s m * 2 ^ (i - min i j).toNat = A at *
  generalize hB : sg t n * 2 ^ (j - min i j).toNat = B at *
  have key : sg (if A + B = 0 then s && t else decide (A + B < 0)) (A + B).natAbs = A + B := by
    refine sg_total _ _ ?_
    by_cases h0 : A + B = 0
    · rw [if_pos h0, if_pos h0]
    · rw [if_neg h0, if_neg h0]
  rw [key, Int.add_mul, g1, g2, Int.add_mul]

theorem Is.opp {d : Datum} {a : Int} (hd : Is d a) : Is d.opposite (-a) := by
  obtain ⟨s, m, i, rfl, h1⟩ := hd
  refine ⟨_, _, _, rfl, ?_⟩
  have : sg (!s) m = - sg s m := by cases s <;> simp [sg]
  rw [this, Int.neg_mul, h1, Int.neg_mul]

theorem Is.prod {d e : Datum} {a b : Int} (hd : Is d a) (he : Is e b) : ∃ r, d.product e = some r ∧ Is r (a * b) := by
  obtain ⟨s, m, i, rfl, h1⟩ := hd
  obtain ⟨t, n, j, rfl, h2⟩ := he
  refine ⟨_, rfl, _, _, _, rfl, ?_⟩
  rw [sg_mul]
  have key : ∀ x y : Nat, (x : Int) - y = i + j → sg s m * sg t n * 2 ^ x = a * b * 2 ^ y := by
    intro x y hxy
    have hm : (sg s m * 2 ^ i.toNat) * (sg t n * 2 ^ j.toNat) = (a * 2 ^ (-i).toNat) * (b * 2 ^ (-j).toNat) := by rw [h1, h2]
    have hm' : sg s m * sg t n * 2 ^ (i.toNat + j.toNat) = a * b * 2 ^ ((-i).toNat + (-j).toNat) := by
      rw [Int.pow_add, Int.pow_add]
      have c1 : sg s m * sg t n * (2 ^ i.toNat * 2 ^ j.toNat) = (sg s m * 2 ^ i.toNat) * (sg t n * 2 ^ j.toNat) := by
        rw [Int.mul_assoc, Int.mul_assoc]; congr 1; rw [Int.mul_left_comm]
      have c2 : a * b * (2 ^ (-i).toNat * 2 ^ (-j).toNat) = (a * 2 ^ (-i).toNat) * (b * 2 ^ (-j).toNat) := by
        rw [Int.mul_assoc, Int.mul_assoc]; congr 1; rw [Int.mul_left_comm]
      rw [c1, c2]; exact hm
    generalize hA : sg s m * sg t n = A at *
    generalize hB : a * b = B at *
    generalize hu : i.toNat + j.toNat = u at *
    generalize hv : (-i).toNat + (-j).toNat = v at *
    rcases Nat.le_total x u with hx | hx
    · have e1 : u = x + (u - x) := by omega
      have e2 : v = y + (u - x) := by omega
      rw [e1, e2, Int.pow_add, Int.pow_add, ← Int.mul_assoc, ← Int.mul_assoc] at hm'
      exact Int.eq_of_mul_eq_mul_right (Int.ne_of_gt (pow_pos2 _)) hm'
    · have e1 : x = u + (x - u) := by omega
      have e2 : y = v + (x - u) := by omega
      rw [e1, e2, Int.pow_add, Int.pow_add, ← Int.mul_assoc, ← Int.mul_assoc, hm']
  exact key _ _ (by omega)

theorem Is.write {d : Datum} {z : Int} (hd : Is d z) (hz : z.natAbs ≤ 9007199254740992) : isI (double.write d) z := by
  obtain ⟨s, m, p, rfl, h⟩ := hd
  exact nearest_isI s m p z h hz

theorem add_I {x y : Nat} {a b : Int} (hx : isI x a) (hy : isI y b) (hz : (a + b).natAbs ≤ 9007199254740992) : ∃ r, double.add x y = some r ∧ isI r (a + b) := by
  obtain ⟨r, h1, h2⟩ := Is.sum hx hy
  exact ⟨_, by simp only [Format.add, h1, Option.map_some], h2.write hz⟩
theorem sub_I {x y : Nat} {a b : Int} (hx : isI x a) (hy : isI y b) (hz : (a - b).natAbs ≤ 9007199254740992) : ∃ r, double.sub x y = some r ∧ isI r (a - b) := by
  obtain ⟨r, h1, h2⟩ := Is.sum hx (Is.opp hy)
  exact ⟨_, by simp only [Format.sub, h1, Option.map_some], h2.write hz⟩
theorem mul_I {x y : Nat} {a b : Int} (hx : isI x a) (hy : isI y b) (hz : (a * b).natAbs ≤ 9007199254740992) : ∃ r, double.mul x y = some r ∧ isI r (a * b) := by
  obtain ⟨r, h1, h2⟩ := Is.prod hx hy
  exact ⟨_, by simp only [Format.mul, h1, Option.map_some], h2.write hz⟩
theorem order_I {x y : Nat} {a b : Int} (hx : isI x a) (hy : isI y b) : double.order x y = some (compare a b) := by
  obtain ⟨s, m, i, e1, h1⟩ := hx
  obtain ⟨t, n, j, e2, h2⟩ := hy
  simp only [Format.order, e1, e2, Datum.order, signed_eq]
  have g1 := Is.lift (base := min i j) h1 (by omega)
  have g2 := Is.lift (base := min i j) h2 (by omega)
  generalize hA : sg s m * 2 ^ (i - min i j).toNat = A at *
  generalize hB : sg t n * 2 ^ (j - min i j).toNat = B at *
  have hu := pow_pos2 (min i j).toNat
  have hv := pow_pos2 (-(min i j)).toNat
  congr 1
  have hlt : A < B ↔ a < b := by
    rw [← Int.mul_lt_mul_right hu, g1, g2, Int.mul_lt_mul_right hv]
  have hgt : B < A ↔ b < a := by
    rw [← Int.mul_lt_mul_right hu, g1, g2, Int.mul_lt_mul_right hv]
  simp only [compare, compareOfLessAndEq]
  by_cases h3 : a < b
  · rw [if_pos h3, if_pos (hlt.2 h3)]
  · rw [if_neg h3, if_neg (fun h => h3 (hlt.1 h))]
    by_cases h4 : a = b
    · have : A = B := by have := mt hgt.1 (by omega); have := mt hlt.1 h3; omega
      rw [if_pos h4, if_pos this]
    · have : A ≠ B := by have := hgt.2 (by omega); omega
      rw [if_neg h4, if_neg this]
theorem int_I (n : Int) (hz : n.natAbs ≤ 9007199254740992) : isI (double.write (.number (n < 0) n.natAbs 0)) n := by
  refine Is.write ⟨_, _, _, rfl, ?_⟩ hz
  have : sg (decide (n < 0)) n.natAbs = n := by
    by_cases h : n < 0
    · rw [decide_eq_true h]; simp [sg]; omega
    · rw [decide_eq_false h]; simp [sg]; omega
  rw [this]; simp
theorem toInt_I {x : Nat} {z : Int} (hx : isI x z) : (double.read x).toInt .zero = some z := by
  obtain ⟨s, m, p, e, h⟩ := hx
  rw [e]
  simp only [Datum.toInt, Datum.integral, signed_eq, Int.pow_zero, Int.mul_one]
  congr 1
  rcases Int.le_total 0 p with h0 | h0
  · have e1 : (-p).toNat = 0 := by omega
    rw [e1, Int.pow_zero, Int.mul_one] at h
    have := (cut_exact s (m * 2 ^ p.toNat) 0).2
    rw [Nat.pow_zero, Nat.mul_one] at this
    rw [e1, Nat.shiftLeft_eq, this, ← h]
    cases s <;> simp [sg, Int.neg_mul]
  · have e1 : p.toNat = 0 := by omega
    rw [e1, Int.pow_zero, Int.mul_one] at h
    have habs : m = z.natAbs * 2 ^ (-p).toNat := by
      have := congrArg Int.natAbs h
      rw [Int.natAbs_mul, sg_natAbs, Int.natAbs_pow] at this; exact this
    rw [e1, Nat.shiftLeft_zero, habs, (cut_exact s z.natAbs _).2]
    have hv := pow_pos2 (-p).toNat
    cases s
    · have : 0 ≤ z := by
        rcases Int.lt_or_le z 0 with h4 | h4
        · have := Int.mul_neg_of_neg_of_pos h4 hv; simp [sg] at h; omega
        · exact h4
      simp [sg]; omega
    · have : z ≤ 0 := by
        rcases Int.lt_or_le 0 z with h4 | h4
        · have := Int.mul_pos h4 hv; simp [sg] at h; omega
        · exact h4
      simp [sg]; omega
end Fl
end Go.Proofs.YtocfjohangcajaaDoor
