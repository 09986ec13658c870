/- Whole numbers as floats: sums, differences, products and comparisons are exact. No condition. -/
import Ieee.Arith
import Derived.Lib.AtoiTie
import Derived.Test.YtmnbjcpikllknaaGreatDoorX1
set_option linter.unusedSimpArgs false
set_option linter.unusedVariables false
namespace Go.Proofs.YtmnbjcpikllknaaGreatDoor
namespace Fl
open Ieee
def sg (s : Bool) (m : Nat) : Int := if s then -(m : Int) else m
theorem LP (s : Bool) (m : Nat) : (sg s m).natAbs = m := by cases s <;> simp [sg]
theorem Ab8 (s t : Bool) (m n : Nat) : sg (s ^^ t) (m * n) = sg s m * sg t n := by cases s <;> cases t <;> simp [sg, Int.neg_mul, Int.mul_neg]
theorem Js (s : Bool) (m up : Nat) : signed s m up = sg s m * 2 ^ up := by
 cases s <;> simp [signed, sg, Nat.shiftLeft_eq, Int.neg_mul]
def Is (d : Datum) (z : Int) : Prop := ∃ s m p, d = .number s m p /\ sg s m * 2 ^ p.toNat = z * 2 ^ (-p).toNat
def isI (b : Nat) (z : Int) : Prop := Is (double.read b) z
theorem It (n : Nat) : (0 : Int) < 2 ^ n := Int.pow_pos (by decide)
theorem Lt (s : Bool) (q drop : Nat) : Toward.even.cut s (q * 2 ^ drop) drop = q /\ Toward.zero.cut s (q * 2 ^ drop) drop = q := by
 by_cases hq : q = 0
 ·subst hq;have h0 : (0 : Nat).log2 = 0 := by simp
  have hp : 0 < 2 ^ (min drop 2) := Nat.pow_pos (by decide);constructor
  ·simp only [Toward.cut, Nat.zero_mul, h0, Nat.shiftLeft_eq, Nat.one_mul, Nat.zero_add, Nat.zero_div, Nat.zero_mod, Nat.mul_zero];have h1 : ¬ 2 ^ (min drop 2) < 0 := by omega
   have h2 : ((2 ^ (min drop 2) == 0) : Bool) = false := by simp
   simp [h1, h2]
  ·simp [Toward.cut]
 ·have hlog : drop <= (q * 2 ^ drop).log2 := by
   rw [Nat.le_log2 (by have := Nat.pow_pos (n := drop) (by decide : 0 < 2); have : 0 < q * 2 ^ drop := Nat.mul_pos (by omega) this; omega)];exact Nat.le_mul_of_pos_left _ (by omega)
  have hmin : min drop ((q * 2 ^ drop).log2 + 2) = drop := by omega
  have hp : 0 < 2 ^ drop := Nat.pow_pos (by decide);have h1 : ¬ 2 ^ drop < 0 := by omega
  have h2 : ((2 ^ drop == 0) : Bool) = false := by simp
  constructor
  ·simp only [Toward.cut, hmin, Nat.shiftLeft_eq, Nat.one_mul, Nat.mul_div_cancel _ hp, Nat.mul_mod_left, Nat.mul_zero];simp [h1, h2]
  ·simp only [Toward.cut, hmin, Nat.shiftLeft_eq, Nat.one_mul, Nat.mul_div_cancel _ hp, Nat.mul_mod_left, Nat.mul_zero];simp
theorem UX (s : Bool) (e k : Nat) (he : e < 2046) (hk : k < 2 ^ 52) : double.read (double.word s ((e + 1) * 2 ^ 52 + k)) = .number s (2 ^ 52 + k) (-1074 + (e : Int)) := by
 have hsw : double.signWeight = 2 ^ 63 := rfl;have hbi : double.binade = 2 ^ 52 := rfl;have hin : double.infRung = 2047 * 2 ^ 52 := rfl;have hle : double.leastPlace = -1074 := rfl;have hrung : (e + 1) * 2 ^ 52 + k < 2 ^ 63 := by omega
 have hneg : (double.word s ((e + 1) * 2 ^ 52 + k) / 2 ^ 63 % 2 == 1) = s := by
  cases s
  ·simp only [Format.word, Bool.false_eq_true, if_false];rw [Nat.div_eq_of_lt hrung]; rfl
  ·simp only [Format.word, if_true, hsw];rw [Nat.add_div_left _ (by decide), Nat.div_eq_of_lt hrung]; rfl
 have hmod : double.word s ((e + 1) * 2 ^ 52 + k) % 2 ^ 63 = (e + 1) * 2 ^ 52 + k := by
  cases s
  ·simp only [Format.word, Bool.false_eq_true, if_false];exact Nat.mod_eq_of_lt hrung
  ·simp only [Format.word, if_true, hsw];rw [Nat.add_mod_left]; exact Nat.mod_eq_of_lt hrung
 simp only [Format.read, hsw, hneg, hmod, hbi, hin, hle];rw [if_neg (by omega), if_pos (by omega)];have h1 : ((e + 1) * 2 ^ 52 + k) % 2 ^ 52 = k := by rw [Nat.mul_add_mod_self_right]; exact Nat.mod_eq_of_lt hk
 have h2 : ((e + 1) * 2 ^ 52 + k) / 2 ^ 52 = e + 1 := by
  rw [Nat.mul_comm, Nat.mul_add_div (by decide), Nat.div_eq_of_lt hk, Nat.add_zero]
 rw [h1, h2];simp
theorem TO (s : Bool) : double.read (double.word s 0) = .number s 0 (-1074) := by cases s <;> decide
theorem GM {m k : Nat} (hm : m ≠ 0) : (m * 2 ^ k).log2 = m.log2 + k := by
 have h0 : m * 2 ^ k ≠ 0 := by have := Nat.pow_pos (n := k) (by decide : 0 < 2); have : 0 < m * 2 ^ k := Nat.mul_pos (by omega) this; omega
 rw [Nat.log2_eq_iff h0];constructor
 ·rw [Nat.pow_add]; exact Nat.mul_le_mul_right _ (Nat.log2_self_le hm)
 ·have : m.log2 + k + 1 = (m.log2 + 1) + k := by omega
  rw [this, Nat.pow_add];exact Nat.mul_lt_mul_of_pos_right Nat.lt_log2_self (Nat.pow_pos (by decide))
theorem Qh (s : Bool) (m : Nat) (p : Int) (hm : m ≠ 0) : double.nearest s m p = double.word s (min ((max (p + (m.log2 : Int) - (52 : Int)) (-1074) - -1074).toNat * 2 ^ 52 + Toward.even.cut s (m <<< (p - max (p + (m.log2 : Int) - (52 : Int)) (-1074)).toNat) (max (p + (m.log2 : Int) - (52 : Int)) (-1074) - p).toNat) (2047 * 2 ^ 52)) := by
 have hbi : double.binade = 2 ^ 52 := rfl;have hin : double.infRung = 2047 * 2 ^ 52 := rfl;have hle : double.leastPlace = -1074 := rfl;have hfb : (double.fractionBits : Int) = 52 := rfl;unfold Format.nearest;rw [if_neg hm, hbi, hin, hle, hfb]
theorem Kq (s : Bool) (m : Nat) (p : Int) (q : Nat) (e : Int) (hq : 2 ^ 52 <= q) (hq2 : q < 2 ^ 53) (he : -1074 <= e) (he2 : e <= 900) (hm : m * 2 ^ p.toNat * 2 ^ (-e).toNat = q * 2 ^ e.toNat * 2 ^ (-p).toNat) :
  double.read (double.nearest s m p) = .number s q e := by
 have hq0 : q ≠ 0 := by omega
 have hm0 : m ≠ 0 := by
  intro h; subst h;have h1 : 0 < 2 ^ e.toNat := Nat.pow_pos (by decide);have h2 : 0 < 2 ^ (-p).toNat := Nat.pow_pos (by decide);have : 0 < q * 2 ^ e.toNat * 2 ^ (-p).toNat := Nat.mul_pos (Nat.mul_pos (by omega) h1) h2;simp at hm; omega
 have hlq : q.log2 = 52 := by rw [Nat.log2_eq_iff hq0]; exact ⟨hq, hq2⟩
 have hlog : (m.log2 : Int) + p = 52 + e := by
  have h1 := congrArg Nat.log2 hm;have n1 : m * 2 ^ p.toNat ≠ 0 := by have := Nat.pow_pos (n := p.toNat) (by decide : 0 < 2); have : 0 < m * 2 ^ p.toNat := Nat.mul_pos (by omega) this; omega
  have n2 : q * 2 ^ e.toNat ≠ 0 := by have := Nat.pow_pos (n := e.toNat) (by decide : 0 < 2); have : 0 < q * 2 ^ e.toNat := Nat.mul_pos (by omega) this; omega
  rw [GM n1, GM n2, GM hm0, GM hq0, hlq] at h1;omega
 have hlast : max (p + (m.log2 : Int) - (52 : Int)) (-1074) = e := by omega
 have hcut : Toward.even.cut s (m <<< (p - e).toNat) (e - p).toNat = q := by
  have hk : m <<< (p - e).toNat = q * 2 ^ (e - p).toNat := by
   rw [Nat.shiftLeft_eq];have hc : ∀ a b c d : Nat, m * 2 ^ a * 2 ^ b = q * 2 ^ c * 2 ^ d -> ∀ x y, a + b + y = c + d + x -> m * 2 ^ x = q * 2 ^ y := by
    intro a b c d h x y hxy;rw [Nat.mul_assoc, <- Nat.pow_add, Nat.mul_assoc, <- Nat.pow_add] at h;rcases Nat.le_total x (a + b) with h1 | h1
    ·have e1 : a + b = x + (a + b - x) := by omega
     have e2 : c + d = y + (a + b - x) := by omega
     rw [e1, e2, Nat.pow_add 2 x, Nat.pow_add 2 y, <- Nat.mul_assoc, <- Nat.mul_assoc] at h;exact Nat.eq_of_mul_eq_mul_right (Nat.pow_pos (by decide)) h
    ·have e1 : x = a + b + (x - (a + b)) := by omega
     have e2 : y = c + d + (x - (a + b)) := by omega
     rw [e1, e2, Nat.pow_add 2 (a + b), Nat.pow_add 2 (c + d), <- Nat.mul_assoc, <- Nat.mul_assoc, h]
   exact hc _ _ _ _ hm _ _ (by omega)
  rw [hk]; exact (Lt s q _).1
 rw [Qh s m p hm0, hlast, hcut];have hrung : (e - -1074).toNat * 2 ^ 52 + q = ((e - -1074).toNat + 1) * 2 ^ 52 + (q - 2 ^ 52) := by omega
 rw [hrung, Nat.min_eq_left (by omega), UX s _ _ (by omega) (by omega)];have h1 : 2 ^ 52 + (q - 2 ^ 52) = q := by omega
 have h2 : (-1074 : Int) + (((e - -1074).toNat : Nat) : Int) = e := by omega
 rw [h1, h2]
theorem QG (s : Bool) (m : Nat) (p z : Int) (h : sg s m * 2 ^ p.toNat = z * 2 ^ (-p).toNat) (hz : z.natAbs <= 9007199254740992) : isI (double.nearest s m p) z := by
 have habs : m * 2 ^ p.toNat = z.natAbs * 2 ^ (-p).toNat := by
  have := congrArg Int.natAbs h;rw [Int.natAbs_mul, Int.natAbs_mul, LP, Int.natAbs_pow, Int.natAbs_pow] at this;exact this
 by_cases hm : m = 0
 ·subst hm;have hz0 : z = 0 := by
   have h1 : 0 < 2 ^ (-p).toNat := Nat.pow_pos (by decide);have : z.natAbs = 0 := by
    rcases Nat.eq_zero_or_pos z.natAbs with h2 | h2
    ·exact h2
    ·have := Nat.mul_pos h2 h1; omega
   omega
  subst hz0;refine ⟨s, 0, -1074, ?_, by rw [show sg s 0 = 0 by cases s <;> rfl, Int.zero_mul, Int.zero_mul]⟩;simp only [Format.nearest, if_true];exact TO s
 ·have hz0 : z.natAbs ≠ 0 := by
   intro h0;rw [h0, Nat.zero_mul] at habs;have h1 : 0 < 2 ^ p.toNat := Nat.pow_pos (by decide);have := Nat.mul_pos (by omega : 0 < m) h1; omega
  have hsz : z = sg s z.natAbs := by
   have h1 : (0 : Int) < 2 ^ p.toNat := It _;have h2 : (0 : Int) < 2 ^ (-p).toNat := It _;cases s
   ·have h3 : 0 <= sg false m * 2 ^ p.toNat := Int.mul_nonneg (by simp [sg]) (by omega);rw [h] at h3;have : 0 <= z := by
     rcases Int.lt_or_le z 0 with h4 | h4
     ·have := Int.mul_neg_of_neg_of_pos h4 h2; omega
     ·exact h4
    simp [sg]; omega
   ·have h3 : sg true m * 2 ^ p.toNat < 0 := Int.mul_neg_of_neg_of_pos (by simp [sg]; omega) h1;rw [h] at h3;have : z < 0 := by
     rcases Int.lt_or_le z 0 with h4 | h4
     ·exact h4
     ·have := Int.mul_nonneg h4 (by omega : (0 : Int) <= 2 ^ (-p).toNat); omega
    simp [sg]; omega
  generalize hn : z.natAbs = n at *;have hl : n.log2 <= 53 := by
   have := Nat.log2_self_le hz0;rcases Nat.lt_or_ge 53 n.log2 with h1 | h1
   ·have := Nat.pow_le_pow_right (by decide : 0 < 2) (by omega : 54 <= n.log2); omega
   ·exact h1
  have g1 := Nat.log2_self_le hz0;have g2 := Nat.lt_log2_self (n := n);by_cases hb : n.log2 <= 52
  ·have e1 : 2 ^ 52 = 2 ^ n.log2 * 2 ^ (52 - n.log2) := by rw [<- Nat.pow_add]; congr 1; omega
   have e2 : 2 ^ 53 = 2 ^ (n.log2 + 1) * 2 ^ (52 - n.log2) := by rw [<- Nat.pow_add]; congr 1; omega
   have r := Kq s m p (n * 2 ^ (52 - n.log2)) ((n.log2 : Int) - 52) (by rw [e1]; exact Nat.mul_le_mul_right _ g1)
    (by rw [e2]; exact Nat.mul_lt_mul_of_pos_right g2 (Nat.pow_pos (by decide))) (by omega) (by omega) (by
     have t1 : ((n.log2 : Int) - 52).toNat = 0 := by omega
     have t2 : (-((n.log2 : Int) - 52)).toNat = 52 - n.log2 := by omega
     rw [t1, t2, habs, Nat.pow_zero, Nat.mul_one, Nat.mul_right_comm])
   refine ⟨s, _, _, r, ?_⟩;have t1 : ((n.log2 : Int) - 52).toNat = 0 := by omega
   have t2 : (-((n.log2 : Int) - 52)).toNat = 52 - n.log2 := by omega
   rw [t1, t2, hsz];cases s <;> simp [sg, Int.neg_mul]
  ·have hn53 : n = 9007199254740992 := by
    have : n.log2 = 53 := by omega
    rw [this] at g1; omega
   have r := Kq s m p (2 ^ 52) 1 (by omega) (by omega) (by omega) (by omega) (by
     rw [habs, hn53];show 9007199254740992 * 2 ^ (-p).toNat * 2 ^ 0 = 2 ^ 52 * 2 ^ 1 * 2 ^ (-p).toNat
     rw [Nat.pow_zero, Nat.mul_one])
   refine ⟨s, _, _, r, ?_⟩;rw [hsz, hn53];cases s <;> simp [sg]
theorem Is.lift {s : Bool} {m : Nat} {p base z : Int} (h : sg s m * 2 ^ p.toNat = z * 2 ^ (-p).toNat) (hb : base <= p) : sg s m * 2 ^ (p - base).toNat * 2 ^ base.toNat = z * 2 ^ (-base).toNat := by
 rcases Int.le_total 0 base with h0 | h0
 ·have e1 : (p - base).toNat + base.toNat = p.toNat := by omega
  have e2 : (-p).toNat = 0 := by omega
  have e3 : (-base).toNat = 0 := by omega
  rw [Int.mul_assoc, <- Int.pow_add, e1, h, e2, e3]
 ·have e3 : base.toNat = 0 := by omega
  rw [e3, Int.pow_zero, Int.mul_one];rcases Int.le_total 0 p with h1 | h1
  ·have e1 : (p - base).toNat = p.toNat + (-base).toNat := by omega
   have e2 : (-p).toNat = 0 := by omega
   rw [e2, Int.pow_zero, Int.mul_one] at h;rw [e1, Int.pow_add, <- Int.mul_assoc, h]
  ·have e1 : (-base).toNat = (-p).toNat + (p - base).toNat := by omega
   have e2 : p.toNat = 0 := by omega
   rw [e2, Int.pow_zero, Int.mul_one] at h;rw [e1, Int.pow_add, <- Int.mul_assoc, h]
theorem VY (b : Bool) (t : Int) (h : b = (if t = 0 then b else decide (t < 0))) : sg b t.natAbs = t := by
 by_cases h0 : t = 0
 ·subst h0; cases b <;> simp [sg]
 ·rw [if_neg h0] at h;by_cases h1 : t < 0
  ·rw [bf h1] at h; subst h; simp [sg]; omega
  ·rw [bg h1] at h; subst h; simp [sg]; omega
theorem Is.sum {d e : Datum} {a b : Int} (hd : Is d a) (he : Is e b) : ∃ r, d.sum e = some r /\ Is r (a + b) := by
 obtain ⟨s, m, i, rfl, h1⟩ := hd;obtain ⟨t, n, j, rfl, h2⟩ := he;refine ⟨_, rfl, _, _, _, rfl, ?_⟩;simp only [Js];have g1 := Is.lift (base := min i j) h1 (by omega);have g2 := Is.lift (base := min i j) h2 (by omega);generalize hA : sg s m * 2 ^ (i - min i j).toNat = A at *;generalize hB : sg t n * 2 ^ (j - min i j).toNat = B at *;have key : sg (if A + B = 0 then s && t else decide (A + B < 0)) (A + B).natAbs = A + B := by
  refine VY _ _ ?_;by_cases h0 : A + B = 0
  ·rw [if_pos h0, if_pos h0]
  ·rw [if_neg h0, if_neg h0]
 rw [key, Int.add_mul, g1, g2, Int.add_mul]
theorem Is.opp {d : Datum} {a : Int} (hd : Is d a) : Is d.opposite (-a) := by
 obtain ⟨s, m, i, rfl, h1⟩ := hd;refine ⟨_, _, _, rfl, ?_⟩;have : sg (!s) m = - sg s m := by cases s <;> simp [sg]
 rw [this, Int.neg_mul, h1, Int.neg_mul]
theorem Is.prod {d e : Datum} {a b : Int} (hd : Is d a) (he : Is e b) : ∃ r, d.product e = some r /\ Is r (a * b) := by
 obtain ⟨s, m, i, rfl, h1⟩ := hd;obtain ⟨t, n, j, rfl, h2⟩ := he;refine ⟨_, rfl, _, _, _, rfl, ?_⟩;rw [Ab8];have key : ∀ x y : Nat, (x : Int) - y = i + j -> sg s m * sg t n * 2 ^ x = a * b * 2 ^ y := by
  intro x y hxy;have hm : (sg s m * 2 ^ i.toNat) * (sg t n * 2 ^ j.toNat) = (a * 2 ^ (-i).toNat) * (b * 2 ^ (-j).toNat) := by rw [h1, h2]
  have hm' : sg s m * sg t n * 2 ^ (i.toNat + j.toNat) = a * b * 2 ^ ((-i).toNat + (-j).toNat) := by
   rw [Int.pow_add, Int.pow_add];have c1 : sg s m * sg t n * (2 ^ i.toNat * 2 ^ j.toNat) = (sg s m * 2 ^ i.toNat) * (sg t n * 2 ^ j.toNat) := by
    rw [Int.mul_assoc, Int.mul_assoc]; congr 1; rw [Int.mul_left_comm]
   have c2 : a * b * (2 ^ (-i).toNat * 2 ^ (-j).toNat) = (a * 2 ^ (-i).toNat) * (b * 2 ^ (-j).toNat) := by
    rw [Int.mul_assoc, Int.mul_assoc]; congr 1; rw [Int.mul_left_comm]
   rw [c1, c2]; exact hm
  generalize hA : sg s m * sg t n = A at *;generalize hB : a * b = B at *;generalize hu : i.toNat + j.toNat = u at *;generalize hv : (-i).toNat + (-j).toNat = v at *;rcases Nat.le_total x u with hx | hx
  ·have e1 : u = x + (u - x) := by omega
   have e2 : v = y + (u - x) := by omega
   rw [e1, e2, Int.pow_add, Int.pow_add, <- Int.mul_assoc, <- Int.mul_assoc] at hm';exact Int.eq_of_mul_eq_mul_right (Int.ne_of_gt (It _)) hm'
  ·have e1 : x = u + (x - u) := by omega
   have e2 : y = v + (x - u) := by omega
   rw [e1, e2, Int.pow_add, Int.pow_add, <- Int.mul_assoc, <- Int.mul_assoc, hm']
 exact key _ _ (by omega)
theorem Is.write {d : Datum} {z : Int} (hd : Is d z) (hz : z.natAbs <= 9007199254740992) : isI (double.write d) z := by
 obtain ⟨s, m, p, rfl, h⟩ := hd;exact QG s m p z h hz
theorem Aff {x y : Nat} {a b : Int} (hx : isI x a) (hy : isI y b) (hz : (a + b).natAbs <= 9007199254740992) : ∃ r, double.add x y = some r /\ isI r (a + b) := by
 obtain ⟨r, h1, h2⟩ := Is.sum hx hy;exact ⟨_, by simp only [Format.add, h1, Option.map_some], h2.write hz⟩
theorem Afn {x y : Nat} {a b : Int} (hx : isI x a) (hy : isI y b) (hz : (a - b).natAbs <= 9007199254740992) : ∃ r, double.sub x y = some r /\ isI r (a - b) := by
 obtain ⟨r, h1, h2⟩ := Is.sum hx (Is.opp hy);exact ⟨_, by simp only [Format.sub, h1, Option.map_some], h2.write hz⟩
theorem Afk {x y : Nat} {a b : Int} (hx : isI x a) (hy : isI y b) (hz : (a * b).natAbs <= 9007199254740992) : ∃ r, double.mul x y = some r /\ isI r (a * b) := by
 obtain ⟨r, h1, h2⟩ := Is.prod hx hy;exact ⟨_, by simp only [Format.mul, h1, Option.map_some], h2.write hz⟩
theorem Yj {x y : Nat} {a b : Int} (hx : isI x a) (hy : isI y b) : double.order x y = some (compare a b) := by
 obtain ⟨s, m, i, e1, h1⟩ := hx;obtain ⟨t, n, j, e2, h2⟩ := hy;simp only [Format.order, e1, e2, Datum.order, Js];have g1 := Is.lift (base := min i j) h1 (by omega);have g2 := Is.lift (base := min i j) h2 (by omega);generalize hA : sg s m * 2 ^ (i - min i j).toNat = A at *;generalize hB : sg t n * 2 ^ (j - min i j).toNat = B at *;have hu := It (min i j).toNat;have hv := It (-(min i j)).toNat;congr 1;have hlt : A < B ↔ a < b := by
  rw [<- Int.mul_lt_mul_right hu, g1, g2, Int.mul_lt_mul_right hv]
 have hgt : B < A ↔ b < a := by
  rw [<- Int.mul_lt_mul_right hu, g1, g2, Int.mul_lt_mul_right hv]
 simp only [compare, compareOfLessAndEq];by_cases h3 : a < b
 ·rw [if_pos h3, if_pos (hlt.2 h3)]
 ·rw [if_neg h3, if_neg (fun h => h3 (hlt.1 h))];by_cases h4 : a = b
  ·have : A = B := by have := mt hgt.1 (by omega); have := mt hlt.1 h3; omega
   rw [if_pos h4, if_pos this]
  ·have : A ≠ B := by have := hgt.2 (by omega); omega
   rw [if_neg h4, if_neg this]
theorem Afd (n : Int) (hz : n.natAbs <= 9007199254740992) : isI (double.write (.number (n < 0) n.natAbs 0)) n := by
 refine Is.write ⟨_, _, _, rfl, ?_⟩ hz;have : sg (decide (n < 0)) n.natAbs = n := by
  by_cases h : n < 0
  ·rw [bf h]; simp [sg]; omega
  ·rw [bg h]; simp [sg]; omega
 rw [this]; simp
theorem X6 {x : Nat} {z : Int} (hx : isI x z) : (double.read x).toInt .zero = some z := by
 obtain ⟨s, m, p, e, h⟩ := hx;rw [e];simp only [Datum.toInt, Datum.integral, Js, Int.pow_zero, Int.mul_one];congr 1;rcases Int.le_total 0 p with h0 | h0
 ·have e1 : (-p).toNat = 0 := by omega
  rw [e1, Int.pow_zero, Int.mul_one] at h;have := (Lt s (m * 2 ^ p.toNat) 0).2;rw [Nat.pow_zero, Nat.mul_one] at this;rw [e1, Nat.shiftLeft_eq, this, <- h];cases s <;> simp [sg, Int.neg_mul]
 ·have e1 : p.toNat = 0 := by omega
  rw [e1, Int.pow_zero, Int.mul_one] at h;have habs : m = z.natAbs * 2 ^ (-p).toNat := by
   have := congrArg Int.natAbs h;rw [Int.natAbs_mul, LP, Int.natAbs_pow] at this; exact this
  rw [e1, Nat.shiftLeft_zero, habs, (Lt s z.natAbs _).2];have hv := It (-p).toNat;cases s
  ·have : 0 <= z := by
    rcases Int.lt_or_le z 0 with h4 | h4
    ·have := Int.mul_neg_of_neg_of_pos h4 hv; simp [sg] at h; omega
    ·exact h4
   simp [sg]; omega
  ·have : z <= 0 := by
    rcases Int.lt_or_le 0 z with h4 | h4
    ·have := Int.mul_pos h4 hv; simp [sg] at h; omega
    ·exact h4
   simp [sg]; omega
end Fl

set_option linter.unusedSimpArgs false
set_option linter.unusedVariables false
open Fl
theorem Td {x y : Nat} {a b : Int} (hx : isI x a) (hy : isI y b) (hz : (a + b).natAbs <= 9007199254740992) : ∃ r, SL x y = some r /\ isI r (a + b) := Aff hx hy hz
theorem UL {x y : Nat} {a b : Int} (hx : isI x a) (hy : isI y b) (hz : (a - b).natAbs <= 9007199254740992) : ∃ r, SY x y = some r /\ isI r (a - b) := Afn hx hy hz
theorem MW {x y : Nat} {a b : Int} (hx : isI x a) (hy : isI y b) (hz : (a * b).natAbs <= 9007199254740992) : ∃ r, Ow x y = some r /\ isI r (a * b) := Afk hx hy hz
theorem VJ (n : Int) (hz : n.natAbs <= 9007199254740992) : isI (i2f n) n := Afd n hz
theorem Wp {x y : Nat} {a b : Int} (hx : isI x a) (hy : isI y b) : FloatKind.f64.format.order x y = some (compare a b) := Yj hx hy
theorem JA (a b : Int) : (a < b /\ compare a b = .lt) \/ (a = b /\ compare a b = .eq) \/ (b < a /\ compare a b = .gt) := by
 simp only [compare, compareOfLessAndEq];by_cases h : a < b
 ·left; exact ⟨h, if_pos h⟩
 ·by_cases h2 : a = b
  ·right; left; exact ⟨h2, by rw [if_neg h, if_pos h2]⟩
  ·right; right; exact ⟨by omega, by rw [if_neg h, if_neg h2]⟩
section
variable {x y : Nat} {a b : Int} (hx : isI x a) (hy : isI y b)
include hx hy
theorem Z6 : feq x y = decide (a = b) := by
 unfold feq; rw [Wp hx hy];rcases JA a b with ⟨h, e⟩ | ⟨h, e⟩ | ⟨h, e⟩ <;> rw [e]
 ·rw [bg (by omega)]; rfl
 ·rw [bf h]; rfl
 ·rw [bg (by omega)]; rfl
theorem Afp : flt x y = decide (a < b) := by
 unfold flt; rw [Wp hx hy];rcases JA a b with ⟨h, e⟩ | ⟨h, e⟩ | ⟨h, e⟩ <;> rw [e]
 ·rw [bf h]; rfl
 ·rw [bg (by omega)]; rfl
 ·rw [bg (by omega)]; rfl
theorem TC : fle x y = decide (a <= b) := by
 unfold fle; rw [Wp hx hy];rcases JA a b with ⟨h, e⟩ | ⟨h, e⟩ | ⟨h, e⟩ <;> rw [e]
 ·rw [bf (by omega)]; rfl
 ·rw [bf (by omega)]; rfl
 ·rw [bg (by omega)]; rfl
theorem XR : fgt x y = decide (b < a) := by
 unfold fgt; rw [Wp hx hy];rcases JA a b with ⟨h, e⟩ | ⟨h, e⟩ | ⟨h, e⟩ <;> rw [e]
 ·rw [bg (by omega)]; rfl
 ·rw [bg (by omega)]; rfl
 ·rw [bf h]; rfl
end
open Ieee in
def rdW (neg : Bool) (rung : Nat) : Datum :=
 if rung < double.binade then .number neg rung double.leastPlace
 else if rung < double.infRung then .number neg (double.binade + rung % double.binade) (double.leastPlace + (rung / double.binade - 1 : Nat))
 else if rung = double.infRung then .infinity neg
 else .nan neg (rung - double.infRung)
open Ieee in
theorem N6 (x : Nat) : double.read x = rdW (x / 2 ^ 63 % 2 == 1) (x % 2 ^ 63) := rfl
open Ieee in
theorem Nm {neg s : Bool} {rung m : Nat} {p : Int} (h : rdW neg rung = .number s m p) : s = neg /\ ∀ n2, rdW n2 rung = .number n2 m p := by
 unfold rdW at h ⊢;split at h
 ·rename_i h1;injection h with e1 e2 e3
  exact ⟨e1.symm, fun n2 => by rw [if_pos h1, e2, e3]⟩
 ·rename_i h1;split at h
  ·rename_i h2;injection h with e1 e2 e3
   exact ⟨e1.symm, fun n2 => by rw [if_neg h1, if_pos h2, e2, e3]⟩
  ·split at h <;> simp at h
theorem W8 {x : Nat} {a : Int} (hx : isI x a) : isI (X0 x) (-a) := by
 obtain ⟨s, m, p, e, h⟩ := hx;rw [N6] at e;obtain ⟨e1, e2⟩ := Nm e;have hm : (x ^^^ 2 ^ 63) % 2 ^ 63 = x % 2 ^ 63 := by
  rw [Nat.xor_mod_two_pow, Nat.mod_self, Nat.xor_zero]
 refine ⟨_, m, p, by show Ieee.double.read (x ^^^ 2 ^ 63) = _; rw [N6, hm, e2], ?_⟩;have hd : ((x ^^^ 2 ^ 63) / 2 ^ 63 % 2 == 1) = !(x / 2 ^ 63 % 2 == 1) := by
  rw [Nat.xor_div_two_pow, Nat.div_self (by decide)];have hx2 : (x / 2 ^ 63 ^^^ 1) % 2 = (x / 2 ^ 63 % 2) ^^^ 1 := by
   have := Nat.xor_mod_two_pow (a := x / 2 ^ 63) (b := 1) (n := 1);simpa using this
  rw [hx2];rcases Nat.mod_two_eq_zero_or_one (x / 2 ^ 63) with h0 | h0 <;> rw [h0] <;> rfl
 rw [hd, <- e1];have hs : sg (!s) m = -sg s m := by cases s <;> simp [sg]
 rw [hs, Int.neg_mul, h, Int.neg_mul]
theorem Aga {x : Nat} {a : Int} (hx : isI x a) : isI (x % 2 ^ 63) (a.natAbs : Int) := by
 obtain ⟨s, m, p, e, h⟩ := hx;rw [N6] at e;obtain ⟨e1, e2⟩ := Nm e;refine ⟨false, m, p, ?_, ?_⟩
 ·have h0 : ((x % 2 ^ 63) / 2 ^ 63 % 2 == 1) = false := by rw [Nat.div_eq_of_lt (Nat.mod_lt _ (by decide))]; rfl
  rw [N6, h0, Nat.mod_mod, e2]
 ·have := congrArg Int.natAbs h;rw [Int.natAbs_mul, Int.natAbs_mul, LP, Int.natAbs_pow, Int.natAbs_pow] at this;have h2 : (Int.natAbs 2) = 2 := rfl;rw [h2] at this;show (m : Int) * 2 ^ p.toNat = _;have h3 : ((m * 2 ^ p.toNat : Nat) : Int) = ((a.natAbs * 2 ^ (-p).toNat : Nat) : Int) := by rw [this]
  simpa using h3
theorem Abs_I {x : Nat} {a : Int} (hx : isI x a) : ∃ r, Hd x = some r /\ isI r (a.natAbs : Int) := by
 refine ⟨x % 2 ^ 63, ?_, Aga hx⟩;unfold Hd;simp only [L_bits, L_frombits, ba];congr 1;show (IntKind.wrap .u64 ((BitVec.ofInt 64 (x : Int) &&& ~~~(BitVec.ofInt 64 9223372036854775808)).toNat : Int)).toNat = _;have e1 : (~~~(BitVec.ofInt 64 9223372036854775808)).toNat = 2 ^ 63 - 1 := by decide
 have e2 : (BitVec.ofInt 64 (x : Int)).toNat = x % 2 ^ 64 := by simp [BitVec.toNat_ofInt]
 have e3 : (BitVec.ofInt 64 (x : Int) &&& ~~~(BitVec.ofInt 64 9223372036854775808)).toNat = x % 2 ^ 63 := by
  rw [BitVec.toNat_and, e1, e2, Nat.and_two_pow_sub_one_eq_mod, Nat.mod_mod_of_dvd _ (Nat.pow_dvd_pow 2 (by decide))]
 rw [e3];have hlt : x % 2 ^ 63 < 2 ^ 63 := Nat.mod_lt _ (by decide);have hw : IntKind.wrap .u64 ((x % 2 ^ 63 : Nat) : Int) = ((x % 2 ^ 63 : Nat) : Int) := by
  have e : ∀ z : Int, IntKind.wrap .u64 z = z % 18446744073709551616 := fun z => by simp [IntKind.wrap, IntKind.bits, IntKind.signed]
  rw [e]; omega
 rw [hw, Int.toNat_natCast]
theorem Trunc_I {x : Nat} {a : Int} (hx : isI x a) (ha : a.natAbs <= 9007199254740992) : ∃ r, FJ x = some r /\ isI r a := by
 have ht := X6 hx;obtain ⟨s, m, p, e, h⟩ := hx;have hd : FloatKind.f64.decode x = .number s m p := e;rw [e] at ht;simp only [Ieee.Datum.toInt, Ieee.Datum.integral] at ht;injection ht with ht
 unfold FJ L_archTrunc;rw [hd];simp only [Ieee.Datum.integral, ba];refine ⟨_, rfl, Is.write ⟨_, _, _, rfl, ?_⟩ ha⟩;rw [Js] at ht;simpa using ht
theorem Tz : isI 4696837146684686336 1000000 := ⟨false, 8589934592000000, -33, by decide, by decide⟩
theorem Gp : isI 0 0 := ⟨false, 0, -1074, by decide, by rw [show sg false 0 = 0 from rfl, Int.zero_mul, Int.zero_mul]⟩
def inB (a : Int) : Bool := decide (-1000000 <= a) && decide (a <= 1000000)
theorem WX {x : Nat} {a : Int} (hx : isI x a) (ha : a.natAbs <= 9007199254740992) : ET x = some (inB a) := by
 obtain ⟨r, h1, h2⟩ := Trunc_I hx ha;obtain ⟨q, h3, h4⟩ := Abs_I hx;unfold ET;rw [h1, ba];simp only [letJ, Z6 hx h2, decide_true, bb, h3, ba, TC h4 Tz];congr 1;unfold inB;rw [<- Bool.decide_and];congr 1;simp only [eq_iff_iff];omega
def Sp (z : Nat × Nat) (p : Int × Int) : Prop := isI z.1 p.1 /\ isI z.2 p.2
theorem T5 {z : Nat × Nat} {p : Int × Int} (h : Sp z p) (h1 : p.1.natAbs <= 9007199254740992) (h2 : p.2.natAbs <= 9007199254740992) : Dk z = some (inB p.1 && inB p.2) := by
 unfold Dk;rw [WX h.1 h1, ba];simp only [letJ, WX h.2 h2, ba];cases inB p.1 <;> rfl
theorem WZ {z w : Nat × Nat} {p q : Int × Int} (h : Sp z p) (g : Sp w q) (h1 : (p.1 - q.1).natAbs <= 9007199254740992) (h2 : (p.2 - q.2).natAbs <= 9007199254740992) : ∃ r, Xh z w = some r /\ Sp r (p.1 - q.1, p.2 - q.2) := by
 obtain ⟨r, e1, e2⟩ := UL h.1 g.1 h1;obtain ⟨s, e3, e4⟩ := UL h.2 g.2 h2;exact ⟨(r, s), by simp [Xh, e1, e3], e2, e4⟩
def crs (u v : Int × Int) : Int := u.1 * v.2 - u.2 * v.1
theorem F9 {a b : Int} {m n : Nat} (h1 : a.natAbs <= m) (h2 : b.natAbs <= n) : (a * b).natAbs <= m * n := by rw [Int.natAbs_mul]; exact Nat.mul_le_mul h1 h2
theorem YR {z w : Nat × Nat} {u v : Int × Int} (h : Sp z u) (g : Sp w v) (h1 : u.1.natAbs <= 10000000) (h2 : u.2.natAbs <= 10000000) (h3 : v.1.natAbs <= 10000000) (h4 : v.2.natAbs <= 10000000) :
  ∃ r, E7 z w = some r /\ isI r (crs u v) := by
 have hn := W8 h.2;have b1 := F9 h1 h3;have b2 := F9 h2 h4;have b3 := F9 h1 h4;have b4 := F9 h2 h3;have b2' : (-u.2 * v.2).natAbs <= 10000000 * 10000000 := by rw [Int.neg_mul, Int.natAbs_neg]; exact b2
 have b4' : (-u.2 * v.1).natAbs <= 10000000 * 10000000 := by rw [Int.neg_mul, Int.natAbs_neg]; exact b4
 obtain ⟨r1, e1, i1⟩ := MW h.1 g.1 (by omega);obtain ⟨r2, e2, i2⟩ := MW hn g.2 (by omega);obtain ⟨r3, e3, i3⟩ := MW h.1 g.2 (by omega);obtain ⟨r4, e4, i4⟩ := MW hn g.1 (by omega);obtain ⟨r5, e5, i5⟩ := UL i1 i2 (by omega);obtain ⟨r6, e6, i6⟩ := Td i3 i4 (by omega);refine ⟨r6, ?_, ?_⟩
 ·unfold E7 Ade;simp only [e1, e2, e3, e4, e5, e6, ba, Option.map_some]
 ·have : crs u v = u.1 * v.2 + -u.2 * v.1 := by unfold crs; rw [Int.neg_mul]; omega
  rw [this]; exact i6

set_option linter.unusedSimpArgs false
set_option linter.unusedVariables false
open Fl
def InB (p : Int × Int) : Prop := -1000000 <= p.1 /\ p.1 <= 1000000 /\ -1000000 <= p.2 /\ p.2 <= 1000000
theorem Tq {z : Nat × Nat} {p : Int × Int} (h : Sp z p) (hb : InB p) : Dk z = some true := by
 obtain ⟨b1, b2, b3, b4⟩ := hb;rw [T5 h (by omega) (by omega)];unfold inB;rw [bf b1, bf b2, bf b3, bf b4]; rfl
structure SpL (zs : List (Nat × Nat)) (ps : List (Int × Int)) : Prop where
 len : zs.length = ps.length
 sp : ∀ (i : Nat) (h1 : i < zs.length) (h2 : i < ps.length), Sp zs[i] ps[i]
 inb : ∀ p ∈ ps, InB p
theorem SpL.good {zs : List (Nat × Nat)} {ps : List (Int × Int)} (H : SpL zs ps) (i : Nat) (h : i < zs.length) : Dk zs[i] = some true :=
 Tq (H.sp i h (by rw [<- H.len]; exact h)) (H.inb _ (bm _))
theorem Qx {zs : List (Nat × Nat)} {ps : List (Int × Int)} (H : SpL zs ps) (hl : zs.length <= 1000000) : AD zs DA = some false := by
 unfold AD AQ;obtain ⟨o, h1, h2⟩ := AU (b := A2 zs DA) (fun i x => x = (i : Int)) (fun o => o = .inl ()) zs.length (x0 := (0 : Int)) rfl
  (fun i x rec hi hx => .inl ⟨((i + 1 : Nat) : Int), by
   subst hx;unfold A2;rw [bf (by omega), bb, AE hi, ba];simp only [DA, H.good i hi, ba, Bool.not_true, bc]
   rw [w64 (by omega) (by omega)]; rfl, rfl⟩)
  (fun x rec hx => ⟨.inl (), by
   subst hx;unfold A2
   rw [bg (by omega), bc], rfl⟩) (n := FUEL) (by unfold FUEL; omega)
 simp only [letJ, h1, h2, ba]; rfl
def Jl (f : List Am) : Nat := (f.map fun t => t.Spots.length).sum
theorem Md (f : List Am) (i : Nat) (h : i < f.length) : Jl (f.take (i + 1)) = Jl (f.take i) + f[i].Spots.length := by
 unfold Jl;rw [List.take_add_one, List.getElem?_eq_getElem h, Option.toList_some, List.map_append, List.sum_append]; simp
theorem Qv (f : List Am) (i : Nat) : Jl (f.take i) <= Jl f := by
 conv => rhs; rw [<- List.take_append_drop i f]
 unfold Jl;rw [List.map_append, List.sum_append]; omega
structure Fig (f : List Am) : Prop where
 st : ∀ (i : Nat) (h : i < f.length), f[i].Spots ≠ [] /\ ∃ ps, SpL f[i].Spots ps
 tot : Jl f <= 500
 len : f.length <= 500
theorem Fig.small {f : List Am} (H : Fig f) (i : Nat) (h : i < f.length) : f[i].Spots.length <= 500 := by
 have h1 := Md f i h;have h2 := Qv f (i + 1);have := H.tot; omega
theorem QZ {f : List Am} (H : Fig f) : EW f = some true := by
 have hlen := H.len;have htot := H.tot;unfold EW;obtain ⟨o, h1, h2⟩ := AU (b := DO f) (fun i x => x = ((Jl (f.take i) : Int), (i : Int))) (fun o => o = .inl (Jl f : Int)) f.length (x0 := ((0 : Int), (0 : Int))) (by simp [Jl])
  (fun i x rec hi hx => .inl ⟨((Jl (f.take (i + 1)) : Int), ((i + 1 : Nat) : Int)), by
   subst hx;obtain ⟨hne, ps, hsp⟩ := H.st i hi;have hs := H.small i hi;have hz : (f[i].Spots.length : Int) ≠ 0 := by
    have : f[i].Spots.length ≠ 0 := fun h => hne (List.eq_nil_of_length_eq_zero h);omega
   have hb : ((f[i].Spots.length : Int) == 0) = false := by simpa using hz
   have hle := Qv f i;unfold DO;simp only [letJ];rw [bf (by omega), bb, AE hi, ba];rw [hb, bc, Qx hsp (by omega), ba, bc, w64 (x := (Jl (f.take i) : Int) + _) (by omega) (by omega), w64 (x := (i : Int) + 1) (by omega) (by omega), Md f i hi]
   simp, rfl⟩)
  (fun x rec hx => ⟨.inl (Jl f : Int), by
   subst hx;unfold DO;simp only [letJ]
   rw [bg (by omega), bc, List.take_length], rfl⟩) (n := FUEL) (by unfold FUEL; omega)
 simp only [letJ, h1, h2, ba];rw [bf (by omega)]
def edg (p a b : Int × Int) : Option Int :=
 if crs (a.1 - p.1, a.2 - p.2) (b.1 - p.1, b.2 - p.2) = 0 /\ (a.1 - p.1) * (b.1 - p.1) <= 0 /\ (a.2 - p.2) * (b.2 - p.2) <= 0 then none
 else if a.2 - p.2 <= 0 /\ 0 < b.2 - p.2 /\ 0 < crs (a.1 - p.1, a.2 - p.2) (b.1 - p.1, b.2 - p.2) then some 1
 else if 0 < a.2 - p.2 /\ b.2 - p.2 <= 0 /\ crs (a.1 - p.1, a.2 - p.2) (b.1 - p.1, b.2 - p.2) < 0 then some (-1)
 else some 0
theorem Afu {p a b : Int × Int} {d : Int} (h : edg p a b = some d) : -1 <= d /\ d <= 1 := by
 unfold edg at h;split at h
 ·simp at h
 ·split at h
  ·injection h with h; omega
  ·split at h <;> (injection h with h; omega)
def arF (p : Int × Int) (ps : List (Int × Int)) (n : Int) : Nat -> Option Int
 | 0 => some n
 | i + 1 => (arF p ps n i).bind fun m => (edg p (ps.getD i (0, 0)) (ps.getD ((i + 1) % ps.length) (0, 0))).map (m + ·)
theorem Yd (p : Int × Int) (ps : List (Int × Int)) (n : Int) : ∀ (i : Nat) (m : Int), arF p ps n i = some m -> n - i <= m /\ m <= n + i
 | 0, m, h => by simp only [arF] at h; injection h with h; omega
 | i + 1, m, h => by
  simp only [arF] at h
  cases ha : arF p ps n i with
  | none => rw [ha] at h; simp at h
  | some k =>
   have := Yd p ps n i k ha;rw [ha] at h;simp only [ba] at h
   cases he : edg p (ps.getD i (0, 0)) (ps.getD ((i + 1) % ps.length) (0, 0)) with
   | none => rw [he] at h; simp at h
   | some d =>
    have := Afu he;rw [he] at h;simp at h;omega
theorem Vx (a b : Nat) : ((a : Int).tmod (b : Int)) = ((a % b : Nat) : Int) := by
 rw [Int.tmod_eq_emod_of_nonneg (by omega)]; simp
theorem Vm {n : Nat} (h : n ≠ 0) : nzI (n : Int) = some (n : Int) := by unfold nzI; rw [if_neg (by omega)]
theorem TF {z : Nat × Nat} {p : Int × Int} (hz : Sp z p) (hp : InB p) (t : Am) {ps : List (Int × Int)} (H : SpL t.Spots ps) (hne : ps ≠ []) (hl : ps.length <= 500) (hc : t.Closed = true) (n : Int) (hn : -1000000 <= n /\ n <= 1000000) :
  iter (Bv z t) FUEL (n, (0 : Int)) = some (match arF p ps n ps.length with | some m => .inl m | none => .inr ((0 : Int), true, (0 : Int))) := by
 have hL : t.Spots.length = ps.length := H.len;have hl0 : ps.length ≠ 0 := fun h => hne (List.eq_nil_of_length_eq_zero h);have mono : ∀ j i : Nat, arF p ps n i = none -> arF p ps n (i + j) = none := by
  intro j
  induction j with
  | zero => intro i h; exact h
  | succ j ih => intro i h; rw [<- Nat.add_assoc, arF, ih i h]; rfl
 obtain ⟨o, h1, h2⟩ := AU (b := Bv z t) (fun i x => ∃ m, arF p ps n i = some m /\ x = (m, (i : Int)))
  (fun o => o = match arF p ps n ps.length with | some m => .inl m | none => .inr ((0 : Int), true, (0 : Int))) ps.length (x0 := (n, (0 : Int))) ⟨n, rfl, rfl⟩
  (fun i x rec hi ⟨m, hm, hx⟩ => by
   subst hx;have hi' : i < t.Spots.length := by omega
   have hj : (i + 1) % ps.length < ps.length := Nat.mod_lt _ (by omega);have hj' : (i + 1) % ps.length < t.Spots.length := by omega
   obtain ⟨p1, p2, p3, p4⟩ := hp;obtain ⟨a1, a2, a3, a4⟩ := H.inb ps[i] (bm _);obtain ⟨b1, b2, b3, b4⟩ := H.inb ps[(i + 1) % ps.length] (bm _);have hmb := Yd p ps n i m hm;have ga : ps.getD i (0, 0) = ps[i] := by simp [List.getD, hi]
   have gb : ps.getD ((i + 1) % ps.length) (0, 0) = ps[(i + 1) % ps.length] := by simp [List.getD, hj]
   have hstep : arF p ps n (i + 1) = (edg p ps[i] ps[(i + 1) % ps.length]).map (m + ·) := by rw [arF, hm, ga, gb]; rfl
   have sa := H.sp i hi' hi;have sb := H.sp _ hj' hj;generalize ps[i] = A at *;generalize ps[(i + 1) % ps.length] = B at *;obtain ⟨ru, e1, su⟩ := WZ sa hz (by omega) (by omega);obtain ⟨rv, e2, sv⟩ := WZ sb hz (by omega) (by omega);obtain ⟨rc, e3, sc⟩ := YR su sv (by simp only; omega) (by simp only; omega) (by simp only; omega) (by simp only; omega);have m1 := F9 (a := A.1 - p.1) (b := B.1 - p.1) (m := 2000000) (n := 2000000) (by omega) (by omega);have m2 := F9 (a := A.2 - p.2) (b := B.2 - p.2) (m := 2000000) (n := 2000000) (by omega) (by omega);obtain ⟨r7, e7, s7⟩ := MW su.1 sv.1 (by simp only; omega);obtain ⟨r8, e8, s8⟩ := MW su.2 sv.2 (by simp only; omega);have hb : Bv z t rec (m, (i : Int)) = match edg p A B with | none => some (.inr ((0 : Int), true, (0 : Int))) | some d => rec (m + d, ((i + 1 : Nat) : Int)) := by
    unfold Bv;simp only [letJ];rw [bf (by omega), bb, AE hi', ba, hc, Bool.not_true, bc, e1, ba, hL, Vm hl0, ba, w64 (x := (i : Int) + 1) (by omega) (by omega)];rw [show ((i : Int) + 1) = ((i + 1 : Nat) : Int) by omega, Vx, AE hj', ba, e2, ba, e3, ba];simp only [e7, e8, ba, Z6 sc Gp, TC s7 Gp, TC s8 Gp, TC su.2 Gp, XR sv.2 Gp, XR sc Gp, XR su.2 Gp, TC sv.2 Gp, Afp sc Gp];rw [w64 (x := m + 1) (by omega) (by omega), w64 (x := m - 1) (by omega) (by omega)];unfold edg;generalize crs (A.1 - p.1, A.2 - p.2) (B.1 - p.1, B.2 - p.2) = C;generalize (A.1 - p.1) * (B.1 - p.1) = M1;generalize (A.2 - p.2) * (B.2 - p.2) = M2;generalize A.2 - p.2 = Y1;generalize B.2 - p.2 = Y2;by_cases c1 : C = 0
    ·have n1 : ¬ 0 < C := by omega
     have n2 : ¬ C < 0 := by omega
     by_cases c2 : M1 <= 0
     ·by_cases c3 : M2 <= 0
      ·simp [c1, c2, c3]
      ·simp [c1, c2, c3]
     ·simp [c1, c2]
    ·by_cases c4 : Y1 <= 0
     ·have c4' : ¬ 0 < Y1 := by omega
      by_cases c5 : 0 < Y2
      ·by_cases c6 : 0 < C
       ·simp [c1, c4, c5, c6]
       ·simp [c1, c4, c4', c5, c6]
      ·simp [c1, c4, c4', c5]
     ·have c4' : 0 < Y1 := by omega
      by_cases c5 : Y2 <= 0
      ·by_cases c6 : C < 0
       ·simp [c1, c4, c4', c5, c6]; rfl
       ·simp [c1, c4, c4', c5, c6]
      ·simp [c1, c4, c4', c5]
   cases he : edg p A B with
   | none =>
    right;rw [he] at hb hstep;refine ⟨_, hb, ?_⟩;have hno : arF p ps n (i + 1) = none := hstep;have := mono (ps.length - (i + 1)) (i + 1) hno;rw [show i + 1 + (ps.length - (i + 1)) = ps.length by omega] at this;rw [this]
   | some d =>
    left;rw [he] at hb hstep
    exact ⟨_, hb, m + d, hstep, rfl⟩)
  (fun x rec ⟨m, hm, hx⟩ => ⟨.inl m, by
   subst hx;unfold Bv;simp only [letJ]
   rw [bg (by omega), bc], by rw [hm]⟩) (n := FUEL) (by unfold FUEL; omega)
 rw [h1, h2]
theorem ML {z : Nat × Nat} (t : Am) (hne : t.Spots ≠ []) (hc : t.Closed = false) (n : Int) : iter (Bv z t) FUEL (n, (0 : Int)) = some (.inl n) := by
 have hl0 : 0 < t.Spots.length := List.length_pos_iff.2 hne;have hF : FUEL = (FUEL - 1) + 1 := by unfold FUEL; rfl
 rw [hF];show Bv z t (iter (Bv z t) (FUEL - 1)) (n, (0 : Int)) = _;unfold Bv;simp only [letJ];rw [bf (by omega), bb, show (0 : Int) = ((0 : Nat) : Int) from rfl, AE hl0, ba, hc]; rfl

set_option linter.unusedSimpArgs false
set_option linter.unusedVariables false
open Fl
abbrev FgW := List (List (Int × Int) × Bool)
structure FigW (f : List Am) (L : FgW) : Prop where
 len : f.length = L.length
 st : ∀ (i : Nat) (h1 : i < f.length) (h2 : i < L.length), f[i].Spots ≠ [] /\ SpL f[i].Spots L[i].1 /\ f[i].Closed = L[i].2
 tot : Jl f <= 500
 cnt : f.length <= 500
theorem FigW.fig {f : List Am} {L : FgW} (H : FigW f L) : Fig f where
 st := fun i h => ⟨(H.st i h (by rw [<- H.len]; exact h)).1, _, (H.st i h (by rw [<- H.len]; exact h)).2.1⟩
 tot := H.tot
 len := H.cnt
theorem FigW.ne {f : List Am} {L : FgW} (H : FigW f L) (i : Nat) (h1 : i < f.length) (h2 : i < L.length) : L[i].1 ≠ [] := by
 obtain ⟨h, h3, _⟩ := H.st i h1 h2;intro h4;have := h3.len;rw [h4] at this;exact h (List.eq_nil_of_length_eq_zero this)
theorem FigW.small {f : List Am} {L : FgW} (H : FigW f L) (i : Nat) (h1 : i < f.length) (h2 : i < L.length) : L[i].1.length <= 500 := by
 rw [<- (H.st i h1 h2).2.1.len];exact H.fig.small i h1
def arS (p : Int × Int) (n : Int) (x : List (Int × Int) × Bool) : Option Int := if x.2 then arF p x.1 n x.1.length else some n
def arT (p : Int × Int) (L : FgW) : Nat -> Option Int
 | 0 => some 0
 | i + 1 => (arT p L i).bind fun n => arS p n (L.getD i ([], false))
theorem Aan (p : Int × Int) (f : List Am) (L : FgW) (H : FigW f L) : ∀ (i : Nat) (m : Int), i <= f.length -> arT p L i = some m -> -(Jl (f.take i) : Int) <= m /\ m <= (Jl (f.take i) : Int)
 | 0, m, _, h => by simp only [arT] at h; injection h with h; subst h; simp [Jl]
 | i + 1, m, hi, h => by
  simp only [arT] at h;have h2 : i < L.length := by rw [<- H.len]; omega
  cases ha : arT p L i with
  | none => rw [ha] at h; simp at h
  | some k =>
   have := Aan p f L H i k (by omega) ha;have ht := Md f i (by omega);have hs := (H.st i (by omega) h2).2.1.len;rw [ha, ba, show L.getD i ([], false) = L[i] by simp [List.getD, h2]] at h;unfold arS at h;split at h
   ·have := Yd p _ k _ m h;omega
   ·injection h with h; omega
theorem Vu {f : List Am} {L : FgW} (H : FigW f L) {z : Nat × Nat} {p : Int × Int} (hz : Sp z p) (hp : InB p) :
  Dp f z = some (match arT p L L.length with | some m => (m, false, 0) | none => (0, true, 0)) := by
 have hlen := H.len;have hcnt := H.cnt;have htot := H.tot;have mono : ∀ j i : Nat, arT p L i = none -> arT p L (i + j) = none := by
  intro j
  induction j with
  | zero => intro i h; exact h
  | succ j ih => intro i h; rw [<- Nat.add_assoc, arT, ih i h]; rfl
 obtain ⟨o, h1, h2⟩ := AU (b := CZ f z) (fun i x => ∃ m, arT p L i = some m /\ x = (m, (i : Int)))
  (fun o => o = match arT p L L.length with | some m => .inl m | none => .inr ((0 : Int), true, (0 : Int))) f.length (x0 := ((0 : Int), (0 : Int))) ⟨0, rfl, rfl⟩
  (fun i x rec hi ⟨m, hm, hx⟩ => by
   subst hx;have hi' : i < L.length := by omega
   obtain ⟨hne, hsp, hcl⟩ := H.st i hi hi';have hmb := Aan p f L H i m (by omega) hm;have hle := Qv f i;have hstep : arT p L (i + 1) = arS p m L[i] := by rw [arT, hm, ba, show L.getD i ([], false) = L[i] by simp [List.getD, hi']]
   have hb : CZ f z rec (m, (i : Int)) = match arS p m L[i] with | none => some (.inr ((0 : Int), true, (0 : Int))) | some d => rec (d, ((i + 1 : Nat) : Int)) := by
    unfold CZ;simp only [letJ];rw [bf (by omega), bb, AE hi, ba, w64 (x := (i : Int) + 1) (by omega) (by omega)];unfold arS
    cases hc : L[i].2 with
    | true =>
     rw [if_pos rfl, TF hz hp f[i] hsp (H.ne i hi hi') (H.small i hi hi') (by rw [hcl, hc]) m (by omega), ba];cases arF p L[i].1 m L[i].1.length <;> simp
    | false =>
     rw [if_neg (by simp), ML f[i] hne (by rw [hcl, hc]) m, ba];simp
   cases he : arS p m L[i] with
   | none =>
    right;rw [he] at hb hstep;refine ⟨_, hb, ?_⟩;have := mono (L.length - (i + 1)) (i + 1) hstep;rw [show i + 1 + (L.length - (i + 1)) = L.length by omega] at this;rw [this]
   | some d =>
    left;rw [he] at hb hstep
    exact ⟨_, hb, d, hstep, rfl⟩)
  (fun x rec ⟨m, hm, hx⟩ => ⟨.inl m, by
   subst hx;unfold CZ;simp only [letJ]
   rw [bg (by omega), bc], by rw [<- hlen, hm]⟩) (n := FUEL) (by unfold FUEL; omega)
 unfold Dp;rw [QZ H.fig, ba];simp only [letJ, Bool.not_true, bc, Tq hz hp, ba, h1, h2];cases arT p L L.length <;> rfl
theorem Rt {z w : Nat × Nat} {p q : Int × Int} (h : Sp z p) (g : Sp w q) (h1 : (p.1 + q.1).natAbs <= 9007199254740992) (h2 : (p.2 + q.2).natAbs <= 9007199254740992) : ∃ r, Vd z w = some r /\ Sp r (p.1 + q.1, p.2 + q.2) := by
 obtain ⟨r, e1, e2⟩ := Td h.1 g.1 h1;obtain ⟨s, e3, e4⟩ := Td h.2 g.2 h2;exact ⟨(r, s), by simp [Vd, e1, e3], e2, e4⟩
theorem Uq (p : Int × Int) : (inB p.1 && inB p.2) = true ↔ InB p := by
 unfold inB InB;simp only [Bool.and_eq_true, decide_eq_true_eq];omega
theorem SpL.snoc {zs : List (Nat × Nat)} {ps : List (Int × Int)} (H : SpL zs ps) {z : Nat × Nat} {p : Int × Int} (h1 : Sp z p) (h2 : InB p) : SpL (zs ++ [z]) (ps ++ [p]) where
 len := by simp [H.len]
 sp := fun i h3 h4 => by
  have hl := H.len;rw [bk, List.length_singleton] at h3 h4;by_cases hi : i < zs.length
  ·rw [List.getElem_append_left hi, List.getElem_append_left (by omega)]; exact H.sp i hi (by omega)
  ·have hz : i = zs.length := by omega
   subst hz;rw [List.getElem_append_right (Nat.le_refl _), List.getElem_append_right (by omega)];simpa using h1
 inb := fun q hq => by
  rw [List.mem_append, List.mem_singleton] at hq;rcases hq with hq | rfl
  ·exact H.inb q hq
  ·exact h2
def sk (P : By8 -> Bool) (s : List By8) (i : Nat) : Nat := i + ((s.drop i).takeWhile P).length
theorem Ug (P : By8 -> Bool) (s : List By8) (i : Nat) (h : i <= s.length) : i <= sk P s i /\ sk P s i <= s.length := by
 unfold sk;have := (List.takeWhile_sublist P (l := s.drop i)).length_le;rw [List.length_drop] at this;omega
theorem Ac5 (P : By8 -> Bool) (s : List By8) : sk P s s.length = s.length := by simp [sk]
theorem Ym {P : By8 -> Bool} {s : List By8} {i : Nat} (h : i < s.length) : sk P s i = if P s[i] = true then sk P s (i + 1) else i := by
 unfold sk;rw [List.drop_eq_getElem_cons h, List.takeWhile_cons];split
 ·rw [bi]; omega
 ·rfl
theorem Mb {b : (Int -> Option Int) -> Int -> Option Int} (P : By8 -> Bool) (s : List By8)
  (hb : ∀ (rec : Int -> Option Int) (i : Nat) (h : i < s.length), b rec (i : Int) = cond (P s[i]) (rec ((i + 1 : Nat) : Int)) (some (i : Int)))
  (he : ∀ rec : Int -> Option Int, b rec (s.length : Int) = some (s.length : Int)) :
  ∀ (n j i : Nat), i + j = s.length -> j < n -> iter b n (i : Int) = some ((sk P s i : Nat) : Int)
 | 0, j, i, _, h => by omega
 | n + 1, 0, i, e, h => by
  have : i = s.length := by omega
  subst this;show b (iter b n) _ = _;rw [he, Ac5]
 | n + 1, j + 1, i, e, h => by
  have hi : i < s.length := by omega
  show b (iter b n) _ = _;rw [hb _ i hi, Ym hi]
  cases hP : P s[i] with
  | true => rw [bb, if_pos rfl]; exact Mb P s hb he n j (i + 1) (by omega) (by omega)
  | false => rw [bc, if_neg (by simp)]
theorem WD {p : By8 -> Bool} (h : (List.range 256).all (fun n => p (UInt8.ofNat n)) = true) (c : By8) : p c = true := by
 rw [List.all_eq_true] at h;have := h c.toNat (List.mem_range.2 c.toNat_lt);simpa using this
def LT (c : By8) : Bool := ((((((c.toNat : Int) == 32) || ((c.toNat : Int) == 44)) || ((c.toNat : Int) == 9)) || ((c.toNat : Int) == 10)) || ((c.toNat : Int) == 13))
def isL (c : By8) : Bool := decide ((0 : Int) <= Lib.indexByte [77, 109, 76, 108, 72, 104, 86, 118, 90, 122] c)
def dig (c : By8) : Bool := decide ((48 : Int) <= (c.toNat : Int)) && decide ((c.toNat : Int) <= 57)
def sgn (c : By8) : Bool := ((c.toNat : Int) == 45) || ((c.toNat : Int) == 43)
theorem WB (c : By8) : ((c.toNat : Int)).toNat.toUInt8 = c := by simp
theorem VE (c : By8) : decide ((0 : Int) <= Lib.indexByte [32, 44, 9, 10, 13] c) = LT c := by
 have := WD (p := fun c => decide ((0 : Int) <= Lib.indexByte [32, 44, 9, 10, 13] c) == LT c) (by decide +kernel) c;exact eq_of_beq this
def nb (s : List By8) (a : Nat) : Nat := match s[a]? with
 | some c => if sgn c = true then a + 1 else a
 | none => a
def nv (s : List By8) (a : Nat) : Int :=
 let m : Nat := (Lib.decFrom 0 ((s.drop (nb s a)).takeWhile dig)).getD 0
 match s[a]? with
 | some c => if (c.toNat : Int) == 45 then -(m : Int) else (m : Int)
 | none => 0
def tk (s : List By8) (i : Nat) : Nat × Nat × Nat × Int :=
 let a := sk LT s i
 match s[a]? with
 | none => (0, a, a, 0)
 | some c => if isL c = true then (1, a, a + 1, 0) else
  let b := nb s a
  let e := sk dig s b
  if e = b \/ b + 7 < e then (3, a, a, 0) else (2, a, e, nv s a)
theorem XM (p : AA) (i : Nat) (hi : i <= p.s.length) (hs : p.s.length <= 1048576) : iter (Ct p) FUEL (i : Int) = some ((sk LT p.s i : Nat) : Int) := by
 refine Mb LT p.s (fun rec i h => ?_) (fun rec => ?_) FUEL (p.s.length - i) i (by omega) (by unfold FUEL; omega)
 ·unfold Ct;simp only [letJ];rw [bf (by omega), bb, AE h, ba];unfold L_IndexByte;rw [WB, ba, VE, w64 (by omega) (by omega)];rfl
 ·unfold Ct;simp only [letJ];rw [bg (by omega), bc, bc]
theorem XX (p : AA) (i : Nat) (hi : i <= p.s.length) (hs : p.s.length <= 1048576) : iter (BX p) FUEL (i : Int) = some ((sk dig p.s i : Nat) : Int) := by
 refine Mb dig p.s (fun rec i h => ?_) (fun rec => ?_) FUEL (p.s.length - i) i (by omega) (by unfold FUEL; omega)
 ·unfold BX;simp only [letJ];rw [bf (by omega), bb, AE h, ba, w64 (by omega) (by omega)];unfold dig
  cases decide ((48 : Int) <= (p.s[i].toNat : Int)) with
  | true => rw [bb, ba, Bool.true_and]; rfl
  | false => rw [bc, bc, Bool.false_and]; rfl
 ·unfold BX;simp only [letJ];rw [bg (by omega), bc, bc, bc]
theorem XS (s : List By8) (a : Nat) (h : a < s.length) : a <= nb s a /\ nb s a <= a + 1 /\ nb s a <= s.length := by
 unfold nb;rw [List.getElem?_eq_getElem h];dsimp only;split <;> omega
theorem Ue (p : AA) (i : Nat) (hp : p.at_ = (i : Int)) (hi : i <= p.s.length) (hs : p.s.length <= 1048576) :
  Cx p = some (((tk p.s i).1 : Int), ((tk p.s i).2.1 : Int), ((tk p.s i).2.2.1 : Int)) := by
 unfold Cx;simp only [letJ];rw [hp, XM p i hi hs, ba];obtain ⟨h1, h2⟩ := Ug LT p.s i hi;unfold tk;dsimp only;generalize sk LT p.s i = a at *;by_cases ha : a = p.s.length
 ·subst ha;rw [List.getElem?_eq_none (Nat.le_refl _)];simp
 ·have ha' : a < p.s.length := by omega
  have hne : ((a : Int) == (p.s.length : Int)) = false := by simp; omega
  rw [hne, bc, List.getElem?_eq_getElem ha'];simp only [AE ha', ba];unfold L_IndexByte;rw [WB, ba];obtain ⟨n1, n2, n3⟩ := XS p.s a ha';have hnb : nb p.s a = if sgn p.s[a] = true then a + 1 else a := by unfold nb; rw [List.getElem?_eq_getElem ha']
  have hL : decide ((0 : Int) <= Lib.indexByte [77, 109, 76, 108, 72, 104, 86, 118, 90, 122] p.s[a]) = isL p.s[a] := rfl;rw [hL]
  cases isL p.s[a] with
  | true => rw [bb, if_pos rfl, w64 (by omega) (by omega)]; rfl
  | false =>
   rw [bc, if_neg (by simp)];have key : ∀ b : Nat, b = nb p.s a -> ((iter (BX p) FUEL (b : Int)).bind fun o => cond ((o == (b : Int)) || (decide ((IntKind.wrap .i64 ((b : Int) + (7 : Int))) < o))) (some ((3 : Int), (a : Int), (a : Int))) (some ((2 : Int), (a : Int), o)))
     = some ((((if sk dig p.s (nb p.s a) = nb p.s a \/ nb p.s a + 7 < sk dig p.s (nb p.s a) then (3, a, a, 0) else (2, a, sk dig p.s (nb p.s a), nv p.s a) : Nat × Nat × Nat × Int)).1 : Int), (((if sk dig p.s (nb p.s a) = nb p.s a \/ nb p.s a + 7 < sk dig p.s (nb p.s a) then (3, a, a, 0) else (2, a, sk dig p.s (nb p.s a), nv p.s a) : Nat × Nat × Nat × Int)).2.1 : Int), (((if sk dig p.s (nb p.s a) = nb p.s a \/ nb p.s a + 7 < sk dig p.s (nb p.s a) then (3, a, a, 0) else (2, a, sk dig p.s (nb p.s a), nv p.s a) : Nat × Nat × Nat × Int)).2.2.1 : Int)) := by
    intro b hb;subst hb;rw [XX p _ n3 hs, ba];obtain ⟨g1, g2⟩ := Ug dig p.s (nb p.s a) n3;generalize sk dig p.s (nb p.s a) = e at *;generalize nb p.s a = b at *;rw [w64 (by omega) (by omega)];by_cases hc : e = b \/ b + 7 < e
    ·have hb2 : (((e : Int) == (b : Int)) || decide ((b : Int) + 7 < (e : Int))) = true := by simp; omega
     rw [hb2, bb, if_pos hc]; rfl
    ·have hb2 : (((e : Int) == (b : Int)) || decide ((b : Int) + 7 < (e : Int))) = false := by simp; omega
     rw [hb2, bc, if_neg hc]; rfl
   have hsg : sgn p.s[a] = (((p.s[a].toNat : Int) == 45) || ((p.s[a].toNat : Int) == 43)) := rfl;rw [<- key _ rfl, hnb, hsg];rw [w64 (by omega) (by omega)]
   cases ((p.s[a].toNat : Int) == 45) with
   | true => rw [bb, bb, Bool.true_or, if_pos rfl]; rfl
   | false =>
    rw [bc, Bool.false_or]
    cases ((p.s[a].toNat : Int) == 43) with
    | true => rw [bb, if_pos rfl]; rfl
    | false => rw [bc, if_neg (by simp)]
theorem Abb (c : By8) (h : dig c = true) : Lib.digitVal c = some (c.toNat - 48) /\ 48 <= c.toNat /\ c.toNat <= 57 := by
 unfold dig at h;simp only [Bool.and_eq_true, decide_eq_true_eq] at h;have h1 : 48 <= c.toNat /\ c.toNat <= 57 := by omega
 refine ⟨?_, h1.1, h1.2⟩;unfold Lib.digitVal;rw [if_pos h1]
theorem WM (P : By8 -> Bool) : ∀ (l : List By8) (k : Nat) (h : k < (l.takeWhile P).length), ∃ h2 : k < l.length, l[k] = (l.takeWhile P)[k] /\ P l[k] = true
 | [], k, h => by simp at h
 | c :: l, k, h => by
  rw [List.takeWhile_cons] at h
  cases hP : P c with
  | false => rw [if_neg (by simp [hP])] at h; simp at h
  | true =>
   rw [if_pos hP] at h
   cases k with
   | zero => exact ⟨by simp, by simp [List.takeWhile_cons, hP], by simpa using hP⟩
   | succ k =>
    obtain ⟨h2, h3, h4⟩ := WM P l k (by simpa using h);exact ⟨by simpa using h2, by simpa [List.takeWhile_cons, hP] using h3, by simpa using h4⟩
theorem Kg (s : List By8) (i : Nat) (hi : i <= s.length) : i <= (tk s i).2.1 /\ (tk s i).2.1 <= (tk s i).2.2.1 /\ (tk s i).2.2.1 <= s.length /\
  ((tk s i).1 = 1 -> (tk s i).2.1 < s.length /\ (tk s i).2.2.1 = (tk s i).2.1 + 1) /\
  ((tk s i).1 = 2 -> (tk s i).2.1 < (tk s i).2.2.1 /\ (tk s i).2.2.2.natAbs <= 10000000) := by
 obtain ⟨h1, h2⟩ := Ug LT s i hi;unfold tk;dsimp only;generalize sk LT s i = a at *;by_cases ha : a < s.length
 ·rw [List.getElem?_eq_getElem ha];obtain ⟨n1, n2, n3⟩ := XS s a ha;obtain ⟨g1, g2⟩ := Ug dig s (nb s a) n3;dsimp only;split
  ·dsimp only; refine ⟨by omega, by omega, by omega, fun _ => ⟨ha, rfl⟩, fun h => by omega⟩
  ·split
   ·dsimp only; exact ⟨by omega, by omega, by omega, fun h => by omega, fun h => by omega⟩
   ·rename_i hc;dsimp only;refine ⟨by omega, by omega, by omega, fun h => by omega, fun _ => ⟨by omega, ?_⟩⟩;unfold nv;rw [List.getElem?_eq_getElem ha];dsimp only;have hsk : sk dig s (nb s a) = nb s a + ((s.drop (nb s a)).takeWhile dig).length := rfl;have key : (Lib.decFrom 0 ((s.drop (nb s a)).takeWhile dig)).getD 0 <= 10000000 := by
     cases hd : Lib.decFrom 0 ((s.drop (nb s a)).takeWhile dig) with
     | none => simp
     | some v =>
      have hvb := Lib.decFrom_lt _ 0 v hd;have hpow : (10 : Nat) ^ ((s.drop (nb s a)).takeWhile dig).length <= 10 ^ 7 := Nat.pow_le_pow_right (by decide) (by omega);rw [Option.getD_some]; omega
    generalize (Lib.decFrom 0 ((s.drop (nb s a)).takeWhile dig)).getD 0 = m at *;split <;> omega
 ·have : a = s.length := by omega
  subst this;rw [List.getElem?_eq_none (Nat.le_refl _)];dsimp only;exact ⟨by omega, by omega, by omega, fun h => by omega, fun h => by omega⟩
theorem YQ (P : By8 -> Bool) (l : List By8) : l.take (l.takeWhile P).length = l.takeWhile P :=
 (List.prefix_iff_eq_take.1 (List.takeWhile_prefix P)).symm
theorem Yb (s : List By8) (i : Nat) : ∀ k, k <= ((s.drop i).takeWhile dig).length -> ∃ v : Nat, Lib.decFrom 0 (((s.drop i).takeWhile dig).take k) = some v
 | 0, _ => ⟨0, rfl⟩
 | k + 1, hk => by
  obtain ⟨v, hv⟩ := Yb s i k (by omega);obtain ⟨g1, g2, g3⟩ := WM dig (s.drop i) k (by omega);rw [g2] at g3;obtain ⟨d1, d2, d3⟩ := Abb _ g3;exact ⟨_, Lib.decFrom_take _ k 0 v _ _ hv (List.getElem?_eq_getElem (by omega)) d1⟩
theorem Agf (s : List By8) (i : Nat) : ∃ v : Nat, True /\ Lib.decFrom 0 (((s.drop i).takeWhile dig).take 8) = some v := by
 by_cases h : 8 <= ((s.drop i).takeWhile dig).length
 ·obtain ⟨v, hv⟩ := Yb s i 8 h; exact ⟨v, trivial, hv⟩
 ·obtain ⟨v, hv⟩ := Yb s i _ (Nat.le_refl _);rw [List.take_length] at hv;rw [List.take_of_length_le (by omega)]; exact ⟨v, trivial, hv⟩
theorem Y7 (s : List By8) (i : Nat) (hi : i <= s.length) (hs : s.length <= 1048576) (h2 : (tk s i).1 = 2) :
  ∃ l, slc s ((tk s i).2.1 : Int) ((tk s i).2.2.1 : Int) = some l /\ ∃ e, L_Atoi l = some ((tk s i).2.2.2, e) := by
 obtain ⟨t1, t2, t3, _, t5⟩ := Kg s i hi;have t5' := t5 h2;refine ⟨(s.drop (tk s i).2.1).take ((tk s i).2.2.1 - (tk s i).2.1), ?_, ?_⟩
 ·unfold slc;rw [if_pos ⟨by omega, by omega, by omega⟩, Int.toNat_natCast, Int.toNat_natCast]
 ·obtain ⟨g1, g2⟩ := Ug LT s i hi;unfold tk at h2 ⊢;dsimp only at h2 ⊢;generalize sk LT s i = a at *;by_cases ha : a < s.length
  ·rw [List.getElem?_eq_getElem ha] at h2 ⊢;obtain ⟨n1, n2, n3⟩ := XS s a ha;have hnb : nb s a = if sgn s[a] = true then a + 1 else a := by unfold nb; rw [List.getElem?_eq_getElem ha]
   obtain ⟨v, _, hv⟩ := Agf s (nb s a);have hsk : sk dig s (nb s a) = nb s a + ((s.drop (nb s a)).takeWhile dig).length := rfl;have hnv : nv s a = if ((s[a].toNat : Int) == 45) = true then -(((Lib.decFrom 0 ((s.drop (nb s a)).takeWhile dig)).getD 0 : Nat) : Int) else (((Lib.decFrom 0 ((s.drop (nb s a)).takeWhile dig)).getD 0 : Nat) : Int) := by
    unfold nv; rw [List.getElem?_eq_getElem ha]
   dsimp only at h2 ⊢;split at h2
   ·dsimp only at h2; omega
   rename_i hl;rw [if_neg hl];split at h2
   ·dsimp only at h2; omega
   rename_i hc;rw [if_neg hc];dsimp only;have hdrop := List.drop_eq_getElem_cons ha;have htt := YQ dig (s.drop (nb s a));have hat : Lib.atoi ((s.drop a).take (sk dig s (nb s a) - a)) = some (nv s a) := by
    cases hg : sgn s[a] with
    | true =>
     rw [if_pos hg] at hnb;rw [hnv];rw [hnb] at hsk hc htt hv ⊢;rw [hsk, hdrop, show a + 1 + ((s.drop (a + 1)).takeWhile dig).length - a = ((s.drop (a + 1)).takeWhile dig).length + 1 by omega, List.take_succ_cons, htt];generalize hds : (s.drop (a + 1)).takeWhile dig = ds at *;rw [List.take_of_length_le (by omega)] at hv;have hne : ds ≠ [] := by intro h; rw [h] at hsk; simp at hsk; omega
     have hdn : Lib.decNat ds = some v := by
      unfold Lib.decNat;rw [if_neg (by simpa using hne), hv]
     rw [hv, Option.getD_some];unfold Lib.atoi;unfold sgn at hg;by_cases h45 : s[a].toNat = 45
     ·have e : s[a] = 45 := UInt8.toNat_inj.1 h45;rw [e];show Option.map (fun m : Nat => -(m : Int)) (Lib.decNat ds) = _;rw [hdn]; rfl
     ·have h43 : s[a].toNat = 43 := by
       simp only [Bool.or_eq_true, beq_iff_eq] at hg; omega
      have e : s[a] = 43 := UInt8.toNat_inj.1 h43;rw [e];show Option.map (fun m : Nat => (m : Int)) (Lib.decNat ds) = _;rw [hdn]; rfl
    | false =>
     rw [if_neg (by simp [hg])] at hnb;rw [hnv];rw [hnb] at hsk hc htt hv ⊢;rw [hsk, show a + ((s.drop a).takeWhile dig).length - a = ((s.drop a).takeWhile dig).length by omega, htt];generalize hds : (s.drop a).takeWhile dig = ds at *;rw [List.take_of_length_le (by omega)] at hv;have hne : ds ≠ [] := by intro h; rw [h] at hsk; simp at hsk; omega
     rw [hv, Option.getD_some];have hc0 : ∃ r, ds = s[a] :: r := by
      rw [hdrop, List.takeWhile_cons] at hds;split at hds
      ·exact ⟨_, hds.symm⟩
      ·exact absurd hds.symm hne
     obtain ⟨r, hr⟩ := hc0;have hdn : Lib.decNat ds = some v := by
      unfold Lib.decNat;rw [if_neg (by simpa using hne), hv]
     rw [hr] at hdn ⊢;unfold sgn at hg;simp only [Bool.or_eq_false_iff, beq_eq_false_iff_ne] at hg;unfold Lib.atoi;have b45 : (s[a] == 45) = false := by
      rw [beq_eq_false_iff_ne]; intro h; rw [h] at hg; exact hg.1 rfl
     have b43 : (s[a] == 43) = false := by
      rw [beq_eq_false_iff_ne]; intro h; rw [h] at hg; exact hg.2 rfl
     simp only [b45, b43, Bool.false_eq_true, if_false, hdn, Option.map_some];rw [if_neg (by simp; omega)]
   have hlen : ((s.drop a).take (sk dig s (nb s a) - a)).length <= 18 := by rw [List.length_take]; omega
   refine ⟨false, ?_⟩;unfold L_Atoi;rw [if_pos (by omega)];unfold MI;rw [Lib.atoiAll_short _ hlen, hat];rfl
  ·have : a = s.length := by omega
   subst this;rw [List.getElem?_eq_none (Nat.le_refl _)] at h2;simp at h2
theorem Pn (p : AA) (i : Nat) (hp : p.at_ = (i : Int)) (hi : i <= p.s.length) (hs : p.s.length <= 1048576) :
  B8 p = some (if (tk p.s i).1 = 2 then ((i2f (tk p.s i).2.2.2, ((tk p.s i).2.1 : Int), true), ⟨p.s, ((tk p.s i).2.2.1 : Int), p.f, p.pen, p.n, p.open_⟩) else ((0, ((tk p.s i).2.1 : Int), false), p)) := by
 unfold B8;rw [Ue p i hp hi hs, ba];by_cases h2 : (tk p.s i).1 = 2
 ·obtain ⟨l, e1, e, e2⟩ := Y7 p.s i hi hs h2;have hb : (((tk p.s i).1 : Int) != 2) = false := by rw [h2]; rfl
  dsimp only;rw [hb, bc, e1, ba, e2, ba, if_pos h2]
 ·have hb : (((tk p.s i).1 : Int) != 2) = true := by simp; omega
  dsimp only;rw [hb, bb, if_neg h2]
def zA (C : Int) (P : Int × Int) (x : Int) : Option (Int × Int) :=
 if C = 72 then some (x, P.2) else if C = 86 then some (P.1, x) else if C = 118 then some (P.1, P.2 + x) else if C = 104 then some (P.1 + x, P.2) else none
def zB (C : Int) (P : Int × Int) (x y : Int) : Int × Int := if C = 109 \/ C = 108 then (x + P.1, y + P.2) else (x, y)
def spA (s : List By8) (i : Nat) (C : Int) (P : Int × Int) : Nat × Nat × Nat × (Int × Int) :=
 if (tk s i).1 = 2 then
  match zA C P (tk s i).2.2.2 with
  | some z => (2, (tk s i).2.1, (tk s i).2.2.1, z)
  | none => if (tk s (tk s i).2.2.1).1 = 2 then (2, (tk s (tk s i).2.2.1).2.1, (tk s (tk s i).2.2.1).2.2.1, zB C P (tk s i).2.2.2 (tk s (tk s i).2.2.1).2.2.2)
    else (1, (tk s (tk s i).2.2.1).2.1, (tk s i).2.2.1, P)
 else (0, (tk s i).2.1, i, P)
def Lil (P : Int × Int) : Prop := P.1.natAbs <= 20000000 /\ P.2.natAbs <= 20000000
theorem Wo (s : List By8) (i : Nat) (C : Int) (P : Int × Int) (hi : i <= s.length) (hP : InB P) :
  (spA s i C P).1 <= 2 /\ (spA s i C P).2.1 <= s.length /\ ((spA s i C P).1 = 2 -> i < (spA s i C P).2.2.1 /\ (spA s i C P).2.2.1 <= s.length /\ Lil (spA s i C P).2.2.2) := by
 obtain ⟨t1, t2, t3, _, t5⟩ := Kg s i hi;obtain ⟨u1, u2, u3, _, u5⟩ := Kg s (tk s i).2.2.1 t3;obtain ⟨p1, p2, p3, p4⟩ := hP;unfold spA;by_cases h : (tk s i).1 = 2
 ·have t6 := t5 h;rw [if_pos h]
  cases hz : zA C P (tk s i).2.2.2 with
  | some z =>
   dsimp only;refine ⟨by omega, by omega, fun _ => ⟨by omega, by omega, ?_⟩⟩;unfold zA at hz;unfold Lil;split at hz
   ·injection hz with hz; subst hz; dsimp only; omega
   split at hz
   ·injection hz with hz; subst hz; dsimp only; omega
   split at hz
   ·injection hz with hz; subst hz; dsimp only; omega
   split at hz
   ·injection hz with hz; subst hz; dsimp only; omega
   ·simp at hz
  | none =>
   dsimp only;by_cases g : (tk s (tk s i).2.2.1).1 = 2
   ·have u6 := u5 g;rw [if_pos g];dsimp only;refine ⟨by omega, by omega, fun _ => ⟨by omega, by omega, ?_⟩⟩;unfold zB Lil;split <;> dsimp only <;> omega
   ·rw [if_neg g]; dsimp only; exact ⟨by omega, by omega, fun h => by omega⟩
 ·rw [if_neg h]; dsimp only; exact ⟨by omega, by omega, fun h => by omega⟩
theorem XP (p : AA) (C : Int) (i : Nat) (hp : p.at_ = (i : Int)) (hi : i <= p.s.length) (hs : p.s.length <= 1048576) {P : Int × Int} (hP : Sp p.pen P) (hb : InB P) :
  ((spA p.s i C P).1 = 0 /\ B5 p C = some (((0, 0), ((spA p.s i C P).2.1 : Int), false), p)) \/
  ((spA p.s i C P).1 = 1 /\ ∃ r, B5 p C = some (((0, 0), (-1 : Int) - ((spA p.s i C P).2.1 : Int), false), r)) \/
  ((spA p.s i C P).1 = 2 /\ ∃ z, Sp z (spA p.s i C P).2.2.2 /\ B5 p C = some ((z, ((spA p.s i C P).2.1 : Int), true), ⟨p.s, ((spA p.s i C P).2.2.1 : Int), p.f, p.pen, p.n, p.open_⟩)) := by
 obtain ⟨t1, t2, t3, _, t5⟩ := Kg p.s i hi;obtain ⟨u1, u2, u3, _, u5⟩ := Kg p.s (tk p.s i).2.2.1 t3;obtain ⟨p1, p2, p3, p4⟩ := hb;unfold B5;rw [Pn p i hp hi hs, ba];unfold spA;by_cases h : (tk p.s i).1 = 2
 ·simp only [if_pos h];have t6 := (t5 h).2;have hx := VJ (tk p.s i).2.2.2 (by omega);rw [show (!true) = false from rfl, bc];by_cases c1 : C = 72
  ·have e : zA C P (tk p.s i).2.2.2 = some ((tk p.s i).2.2.2, P.2) := by unfold zA; rw [if_pos c1]
   rw [e, show (C == 72) = true by simp [c1], bb];exact .inr (.inr ⟨rfl, (i2f (tk p.s i).2.2.2, p.pen.2), ⟨hx, hP.2⟩, rfl⟩)
  rw [show (C == 72) = false by simp [c1], bc];by_cases c2 : C = 86
  ·have e : zA C P (tk p.s i).2.2.2 = some (P.1, (tk p.s i).2.2.2) := by unfold zA; rw [if_neg c1, if_pos c2]
   rw [e, show (C == 86) = true by simp [c2], bb];exact .inr (.inr ⟨rfl, (p.pen.1, i2f (tk p.s i).2.2.2), ⟨hP.1, hx⟩, rfl⟩)
  rw [show (C == 86) = false by simp [c2], bc];by_cases c3 : C = 118
  ·have e : zA C P (tk p.s i).2.2.2 = some (P.1, P.2 + (tk p.s i).2.2.2) := by unfold zA; rw [if_neg c1, if_neg c2, if_pos c3]
   rw [e, show (C == 118) = true by simp [c3], bb];obtain ⟨r, e1, e2⟩ := Rt (z := p.pen) (w := (0, i2f (tk p.s i).2.2.2)) (p := P) (q := (0, (tk p.s i).2.2.2)) hP ⟨Gp, hx⟩ (by dsimp only; omega) (by dsimp only; omega);rw [e1, ba];refine .inr (.inr ⟨rfl, r, ?_, rfl⟩);simpa using e2
  rw [show (C == 118) = false by simp [c3], bc];by_cases c4 : C = 104
  ·have e : zA C P (tk p.s i).2.2.2 = some (P.1 + (tk p.s i).2.2.2, P.2) := by unfold zA; rw [if_neg c1, if_neg c2, if_neg c3, if_pos c4]
   rw [e, show (C == 104) = true by simp [c4], bb];obtain ⟨r, e1, e2⟩ := Rt (z := p.pen) (w := (i2f (tk p.s i).2.2.2, 0)) (p := P) (q := ((tk p.s i).2.2.2, 0)) hP ⟨hx, Gp⟩ (by dsimp only; omega) (by dsimp only; omega);rw [e1, ba];refine .inr (.inr ⟨rfl, r, ?_, rfl⟩);simpa using e2
  rw [show (C == 104) = false by simp [c4], bc];have e : zA C P (tk p.s i).2.2.2 = none := by unfold zA; rw [if_neg c1, if_neg c2, if_neg c3, if_neg c4]
  rw [e];have hn := Pn ⟨p.s, ((tk p.s i).2.2.1 : Int), p.f, p.pen, p.n, p.open_⟩ (tk p.s i).2.2.1 rfl t3 hs;dsimp only at hn ⊢;rw [hn, ba];by_cases g : (tk p.s (tk p.s i).2.2.1).1 = 2
  ·simp only [if_pos g];have u6 := (u5 g).2;have hy := VJ (tk p.s (tk p.s i).2.2.1).2.2.2 (by omega);rw [show (!true) = false from rfl, bc];obtain ⟨r, e1, e2⟩ := Rt (z := (i2f (tk p.s i).2.2.2, 0)) (w := (0, i2f (tk p.s (tk p.s i).2.2.1).2.2.2)) (p := ((tk p.s i).2.2.2, 0)) (q := (0, (tk p.s (tk p.s i).2.2.1).2.2.2)) ⟨hx, Gp⟩ ⟨Gp, hy⟩ (by dsimp only; omega) (by dsimp only; omega);have e2' : Sp r ((tk p.s i).2.2.2, (tk p.s (tk p.s i).2.2.1).2.2.2) := by simpa using e2
   rw [e1, ba];simp only [letJ];by_cases c5 : C = 109 \/ C = 108
   ·rw [show ((C == 109) || (C == 108)) = true by simp [c5], bb];obtain ⟨r2, e3, e4⟩ := Rt (z := r) (w := p.pen) e2' hP (by dsimp only; omega) (by dsimp only; omega);rw [e3, ba];refine .inr (.inr ⟨trivial, r2, ?_, rfl⟩);unfold zB; rw [if_pos c5]; exact e4
   ·rw [show ((C == 109) || (C == 108)) = false by simp; omega, bc];refine .inr (.inr ⟨trivial, r, ?_, rfl⟩);unfold zB; rw [if_neg c5]; exact e2'
  ·simp only [if_neg g];rw [show (!false) = true from rfl, bb];refine .inr (.inl ⟨trivial, ⟨p.s, ((tk p.s i).2.2.1 : Int), p.f, p.pen, p.n, p.open_⟩, ?_⟩);rw [w64 (by omega) (by omega)]
 ·simp only [if_neg h];rw [show (!false) = true from rfl, bb];exact .inl ⟨trivial, rfl⟩
structure StR (x : Am) (y : List (Int × Int) × Bool) : Prop where
 ne : x.Spots ≠ []
 sp : SpL x.Spots y.1
 cl : x.Closed = y.2
inductive FR : List Am -> FgW -> Prop where
 | nil : FR [] []
 | snoc {f : List Am} {L : FgW} {x : Am} {y : List (Int × Int) × Bool} (h : FR f L) (hx : StR x y) : FR (f ++ [x]) (L ++ [y])
theorem FR.len {f : List Am} {L : FgW} (h : FR f L) : f.length = L.length := by
 induction h with
 | nil => rfl
 | snoc h hx ih => simp [ih]
theorem FR.st {f : List Am} {L : FgW} (h : FR f L) : ∀ (i : Nat) (h1 : i < f.length) (h2 : i < L.length), StR f[i] L[i] := by
 induction h with
 | nil => intro i h1; simp at h1
 | @snoc f L x y h hx ih =>
  intro i h1 h2;have hl := h.len;rw [bk, List.length_singleton] at h1 h2;by_cases hi : i < f.length
  ·rw [List.getElem_append_left hi, List.getElem_append_left (by omega)];exact ih i hi (by omega)
  ·have : i = f.length := by omega
   subst this;rw [List.getElem_append_right (Nat.le_refl _), List.getElem_append_right (by omega)];simp only [hl, Nat.sub_self, List.getElem_cons_zero];exact hx
theorem Hw (f g : List Am) : Jl (f ++ g) = Jl f + Jl g := by unfold Jl; rw [List.map_append, List.sum_append]
theorem Hs (x : Am) : Jl [x] = x.Spots.length := by simp [Jl]
theorem FR.cnt {f : List Am} {L : FgW} (h : FR f L) : f.length <= Jl f := by
 induction h with
 | nil => simp
 | @snoc f L x y h hx ih =>
  rw [Hw, Hs, bk, List.length_singleton];have := List.length_pos_iff.2 hx.ne;omega
theorem FR.figW {f : List Am} {L : FgW} (h : FR f L) (hl : Jl f <= 500) : FigW f L where
 len := h.len
 st := fun i h1 h2 => ⟨(h.st i h1 h2).ne, (h.st i h1 h2).sp, (h.st i h1 h2).cl⟩
 tot := hl
 cnt := Nat.le_trans h.cnt hl
theorem P6 {α : Type} (m : List α) (x : α) (i : Int) (hi : i = (m.length : Int)) : lst (m ++ [x]) i = some x := by
 subst hi;unfold lst;rw [if_pos (by simp), AE (by simp)];simp
theorem Qb {α : Type} (m : List α) (x y : α) : (m ++ [x]).set m.length y = m ++ [y] := by simp
theorem Af6 {α : Type} (m : List α) (x : α) (h : m.length <= 1048576) : IntKind.wrap .i64 (((m ++ [x]).length : Int) - 1) = (m.length : Int) := by
 rw [bk, List.length_singleton, w64 (by omega) (by omega)]; omega

set_option linter.unusedSimpArgs false
set_option linter.unusedVariables false
set_option maxRecDepth 20000
open Fl
structure RdI (s : List By8) (L : FgW) (i N : Nat) (P : Int × Int) (f : List Am) (pen : Nat × Nat) (op : Bool) : Prop where
 fr : FR f L
 tot : Jl f = N
 lim : N <= 500
 pos : i <= s.length
 pen : Sp pen P
 inb : InB P
 opn : op = true -> f ≠ []
theorem FR.last {f : List Am} {L : FgW} (h : FR f L) (hne : f ≠ []) : ∃ m M x y, f = m ++ [x] /\ L = M ++ [y] /\ FR m M /\ StR x y := by
 cases h with
 | nil => exact absurd rfl hne
 | snoc h hx => exact ⟨_, _, _, _, rfl, rfl, h, hx⟩
theorem Zg (s : List By8) (hs : s.length <= 1048576) (C : Int) (i0 : Nat) :
  ∀ (n : Nat) (L : FgW) (i N k : Nat) (P : Int × Int) (f : List Am) (pen : Nat × Nat) (op : Bool), RdI s L i N P f pen op -> i0 <= i -> k <= N -> ((k = 0 /\ (C = 77 \/ C = 109)) \/ f ≠ []) ->
   s.length - i < n ->
   ∃ o, iter (Bk C) n (s, (i : Int), f, pen, (N : Int), op, decide (k = 0)) = some o /\
    ((∃ L i N P f pen op, RdI s L i N P f pen op /\ i0 <= i /\ o = ((0, 0), ⟨s, (i : Int), f, pen, (N : Int), op⟩)) \/ (∃ pl e r, e ≠ 0 /\ o = ((pl, e), r))) := by
 intro n L i N k P f pen op hI h0 hk hn h1;have hh := JP (b := Bk C) (fun x => s.length - x.2.1.toNat)
  (fun x => ∃ (L : FgW) (i N k : Nat) (P : Int × Int) (f : List Am) (pen : Nat × Nat) (op : Bool), RdI s L i N P f pen op /\ i0 <= i /\ k <= N /\ ((k = 0 /\ (C = 77 \/ C = 109)) \/ f ≠ []) /\ x = (s, (i : Int), f, pen, (N : Int), op, decide (k = 0)))
  (fun o => (∃ L i N P f pen op, RdI s L i N P f pen op /\ i0 <= i /\ o = ((0, 0), ⟨s, (i : Int), f, pen, (N : Int), op⟩)) \/ (∃ pl e r, e ≠ 0 /\ o = ((pl, e), r)))
  ?_ n (s, (i : Int), f, pen, (N : Int), op, decide (k = 0)) ⟨L, i, N, k, P, f, pen, op, hI, h0, hk, hn, rfl⟩ (by simpa using h1)
 ·exact hh
 clear hI h0 hk hn h1 L i N k P f pen op n;rintro _ ⟨L, i, N, k, P, f, pen, op, hI, h0, hk, hn, rfl⟩;obtain ⟨fr, tot, lim, pos, hpen, inb, opn⟩ := hI;obtain ⟨q1, q2, q3⟩ := Wo s i C P pos inb;rcases XP ⟨s, (i : Int), f, pen, (N : Int), op⟩ C i rfl pos hs hpen inb with ⟨k0, e⟩ | ⟨k1, r, e⟩ | ⟨k2, z, hz, e⟩
 ·dsimp only at k0 e;right;by_cases hk0 : k = 0
  ·subst hk0;refine ⟨((((spA s i C P).2.1 : Int), 37), ⟨s, (i : Int), f, pen, (N : Int), op⟩), fun rec => ?_, .inr ⟨_, _, _, by decide, rfl⟩⟩
   ·unfold Bk;dsimp only;rw [e, ba];dsimp only;rw [show ((!false) && (decide (0 = 0) || decide (((spA s i C P).2.1 : Int) < 0))) = true by simp, bb, w64 (by omega) (by omega), if_neg (by omega)]
  ·refine ⟨((0, 0), ⟨s, (i : Int), f, pen, (N : Int), op⟩), fun rec => ?_, .inl ⟨L, i, N, P, f, pen, op, ⟨fr, tot, lim, pos, hpen, inb, opn⟩, h0, rfl⟩⟩
   ·unfold Bk;dsimp only;rw [e, ba];dsimp only;rw [show ((!false) && (decide (k = 0) || decide (((spA s i C P).2.1 : Int) < 0))) = false by simp; omega, bc];rfl
 ·dsimp only at k1 e;right;refine ⟨((((spA s i C P).2.1 : Int), 37), r), fun rec => ?_, .inr ⟨_, _, _, by decide, rfl⟩⟩
  ·unfold Bk;dsimp only;rw [e, ba];dsimp only;rw [show ((!false) && (decide (k = 0) || decide ((-1 : Int) - ((spA s i C P).2.1 : Int) < 0))) = true by simp; omega, bb, w64 (by omega) (by omega), if_pos (by omega)];rw [show (-1 : Int) - (-1 - ((spA s i C P).2.1 : Int)) = ((spA s i C P).2.1 : Int) by omega]
 ·dsimp only at k2 hz e;obtain ⟨q4, q5, q6⟩ := q3 k2;have hsp := T5 hz (by unfold Lil at q6; omega) (by unfold Lil at q6; omega);have hbody : ∀ rec, Bk C rec (s, (i : Int), f, pen, (N : Int), op, decide (k = 0)) =
    if (inB (spA s i C P).2.2.2.1 && inB (spA s i C P).2.2.2.2) = false \/ N = 500 then some ((((spA s i C P).2.1 : Int), 5), ⟨s, ((spA s i C P).2.2.1 : Int), f, pen, (N : Int), op⟩)
    else (letJ (fun v : (List Am) × Bool => match v with
    | (a35, a37) =>
     (lst a35 (IntKind.wrap .i64 ((a35.length : Int) - (1 : Int)))).bind fun x46 =>
     (app 16 x46.Spots [z]).bind fun _ =>
     (some (List.set a35 (Int.toNat (IntKind.wrap .i64 ((a35.length : Int) - (1 : Int)))) (⟨(x46.Spots ++ [z]), x46.Closed⟩ : Am))).bind fun a48 =>
    rec (s, ((spA s i C P).2.2.1 : Int), a48, z, ((N + 1 : Nat) : Int), a37, false)) fun J38 =>
    cond (decide (k = 0) && ((C == (77 : Int)) || (C == (109 : Int))))
    ((app 32 f [(⟨([] : List (Nat × Nat)), false⟩ : Am)]).bind fun _ =>
     (some (f ++ [(⟨([] : List (Nat × Nat)), false⟩ : Am)])).bind fun a45 =>
    J38 (a45, true))
    (J38 (f, op))) := by
   intro rec;unfold Bk;dsimp only;rw [e, ba];dsimp only;rw [show ((!true) && (decide (k = 0) || decide (((spA s i C P).2.1 : Int) < 0))) = false by simp, bc, show (!true) = false from rfl, bc, hsp, ba, w64 (x := (N : Int) + 1) (by omega) (by omega)];simp only [letJ]
   cases hb : (inB (spA s i C P).2.2.2.1 && inB (spA s i C P).2.2.2.2) with
   | false => rw [show (!false) = true from rfl, bb, bb, if_pos (.inl rfl)]
   | true =>
    rw [show (!true) = false from rfl, bc];by_cases h5 : N = 500
    ·rw [show (((N : Int)) == 500) = true by simp; omega, bb, if_pos (.inr h5)]
    ·rw [show (((N : Int)) == 500) = false by simp; omega, bc, if_neg (by simp [h5])]; rfl
  by_cases hl : (inB (spA s i C P).2.2.2.1 && inB (spA s i C P).2.2.2.2) = false \/ N = 500
  ·right;refine ⟨_, fun rec => by rw [hbody, if_pos hl], .inr ⟨_, _, _, by decide, rfl⟩⟩
  ·left;have hb : (inB (spA s i C P).2.2.2.1 && inB (spA s i C P).2.2.2.2) = true := by
    cases h : (inB (spA s i C P).2.2.2.1 && inB (spA s i C P).2.2.2.2) with
    | false => exact absurd (.inl h) hl
    | true => rfl
   have hN : N < 500 := by
    have : N ≠ 500 := fun h => hl (.inr h);omega
   have hib : InB (spA s i C P).2.2.2 := (Uq _).1 hb;have hcnt := fr.cnt;have hd0 : decide (k + 1 = 0) = false := by simp
   by_cases hnew : k = 0 /\ (C = 77 \/ C = 109)
   ·obtain ⟨rfl, hM⟩ := hnew;have hst : StR ⟨[z], false⟩ ([(spA s i C P).2.2.2], false) := by
     refine ⟨by simp, ?_, rfl⟩
     exact ⟨rfl, fun j g1 g2 => by
      have : j = 0 := by simp at g1; omega
      subst this; exact hz, fun p hp => by rw [List.mem_singleton] at hp; rw [hp]; exact hib⟩
    refine ⟨(s, ((spA s i C P).2.2.1 : Int), f ++ [⟨[z], false⟩], z, ((N + 1 : Nat) : Int), true, decide (0 + 1 = 0)), fun rec => ?_, ⟨L ++ [([(spA s i C P).2.2.2], false)], (spA s i C P).2.2.1, N + 1, 0 + 1, (spA s i C P).2.2.2, f ++ [⟨[z], false⟩], z, true, ⟨.snoc fr hst, by rw [Hw, Hs, tot]; rfl, by omega, q5, hz, hib, fun _ => by simp⟩, by omega, by omega, .inr (by simp), rfl⟩, ?_⟩
    ·rw [hbody, if_neg hl];rw [show (decide ((0 : Nat) = 0) && ((C == 77) || (C == 109))) = true by simp [hM]];simp only [letJ, bb];rw [Cm (by simp; omega) (by simp; omega), ba, ba, Af6 f _ (by omega), P6 f _ _ rfl, ba, Cm (by simp) (by simp), ba, ba, Int.toNat_natCast, Qb];rfl
    ·dsimp only; omega
   ·have hne : f ≠ [] := hn.resolve_left hnew;obtain ⟨mm, M, x, y, rfl, rfl, hm, hst⟩ := fr.last hne;have hxl : x.Spots.length <= N := by rw [<- tot, Hw, Hs]; omega
    have hyl := hst.sp.len;have hst' : StR ⟨x.Spots ++ [z], x.Closed⟩ (y.1 ++ [(spA s i C P).2.2.2], y.2) := ⟨by simp, hst.sp.snoc hz hib, hst.cl⟩
    rw [bk, List.length_singleton] at hcnt
    refine ⟨(s, ((spA s i C P).2.2.1 : Int), mm ++ [⟨x.Spots ++ [z], x.Closed⟩], z, ((N + 1 : Nat) : Int), op, decide (k + 1 = 0)), fun rec => ?_, ⟨M ++ [(y.1 ++ [(spA s i C P).2.2.2], y.2)], (spA s i C P).2.2.1, N + 1, k + 1, (spA s i C P).2.2.2, mm ++ [⟨x.Spots ++ [z], x.Closed⟩], z, op, ⟨.snoc hm hst', by
       rw [Hw, Hs] at tot ⊢
       simp only [bk, List.length_singleton]; omega, by omega, q5, hz, hib, fun _ => by simp⟩, by omega, by omega, .inr (by simp), rfl⟩, ?_⟩
    ·rw [hbody, if_neg hl]
     rw [show (decide (k = 0) && ((C == 77) || (C == 109))) = false by
      cases hb : (decide (k = 0) && ((C == 77) || (C == 109))) with
      | false => rfl
      | true =>
       exfalso;simp only [Bool.and_eq_true, Bool.or_eq_true, beq_iff_eq, decide_eq_true_eq] at hb
       exact hnew hb]
     simp only [letJ, bc];rw [Af6 mm _ (by omega), P6 mm _ _ rfl, ba, Cm (by simp; omega) (by simp; omega), ba, ba, Int.toNat_natCast, Qb, hd0]
    ·dsimp only; omega
theorem Zf (s : List By8) (hs : s.length <= 1048576) :
  (∃ f L, EM s = some (f, 0, 0) /\ FR f L /\ Jl f <= 500) \/ (∃ pl e, e ≠ 0 /\ EM s = some ([], pl, e)) := by
 have hh := JP (b := CK s) (fun x => s.length - x.2.1.toNat)
  (fun x => ∃ (L : FgW) (i N : Nat) (P : Int × Int) (f : List Am) (pen : Nat × Nat) (op : Bool), RdI s L i N P f pen op /\ x = (s, (i : Int), f, pen, (N : Int), op))
  (fun o => (∃ f L, o = (f, 0, 0) /\ FR f L /\ Jl f <= 500) \/ (∃ pl e, e ≠ 0 /\ o = ([], pl, e)))
  ?_ FUEL (s, (0 : Int), ([] : List Am), ((0, 0) : Nat × Nat), (0 : Int), false) ⟨[], 0, 0, (0, 0), [], (0, 0), false, ⟨.nil, rfl, by omega, by omega, ⟨Gp, Gp⟩, by unfold InB; decide, fun h => by cases h⟩, rfl⟩ (by unfold FUEL; simp; omega)
 ·obtain ⟨o, e1, h⟩ := hh;unfold EM;rw [e1];rcases h with ⟨f, L, rfl, h1, h2⟩ | ⟨pl, e, h1, rfl⟩
  ·exact .inl ⟨f, L, rfl, h1, h2⟩
  ·exact .inr ⟨pl, e, h1, rfl⟩
 rintro _ ⟨L, i, N, P, f, pen, op, hI, rfl⟩;obtain ⟨fr, tot, lim, pos, hpen, inb, opn⟩ := hI;obtain ⟨t1, t2, t3, t4, _⟩ := Kg s i pos;have hlook := Ue ⟨s, (i : Int), f, pen, (N : Int), op⟩ i rfl pos hs;dsimp only at hlook;have hcnt := fr.cnt;by_cases h0 : (tk s i).1 = 0
 ·right;refine ⟨(f, 0, 0), fun rec => ?_, .inl ⟨f, L, rfl, fr, by omega⟩⟩
  ·unfold CK;dsimp only;rw [hlook, ba];dsimp only;rw [show (((tk s i).1 : Int) == 0) = true by simp [h0], bb]
 have b0 : (((tk s i).1 : Int) == 0) = false := by simp [h0]
 by_cases h1 : (tk s i).1 = 1
 case neg =>
  have b1 : (((tk s i).1 : Int) != 1) = true := by simp; omega
  right;refine ⟨([], ((tk s i).2.1 : Int), 37), fun rec => ?_, .inr ⟨_, _, by decide, rfl⟩⟩
  ·unfold CK;dsimp only;rw [hlook, ba];dsimp only;rw [b0, bc, b1, bb]
 have b1 : (((tk s i).1 : Int) != 1) = false := by simp [h1]
 obtain ⟨t6, t7⟩ := t4 h1;have hix := AE (l := s) t6;generalize hc : s[(tk s i).2.1] = c at hix;generalize hC : (c.toNat : Int) = C;have hP : ∀ rec, CK s rec (s, (i : Int), f, pen, (N : Int), op) =
   (letJ (fun v24 : Bool => cond v24
    (some (([] : List Am), ((tk s i).2.1 : Int), (37 : Int)))
    (cond ((C == (90 : Int)) || (C == (122 : Int)))
    ((lst f (IntKind.wrap .i64 ((f.length : Int) - (1 : Int)))).bind fun x28 =>
     (idx x28.Spots (0 : Int)).bind fun x29 =>
     (some (List.set f (Int.toNat (IntKind.wrap .i64 ((f.length : Int) - (1 : Int)))) (⟨x28.Spots, true⟩ : Am))).bind fun a30 =>
    rec (s, ((tk s i).2.2.1 : Int), a30, x29, (N : Int), false))
    ((BT (⟨s, ((tk s i).2.2.1 : Int), f, pen, (N : Int), op⟩ : AA) C).bind fun x31 =>
    cond (x31.1.2 != (0 : Int))
     (some (([] : List Am), x31.1.1, x31.1.2))
     (rec (x31.2.s, x31.2.at_, x31.2.f, x31.2.pen, x31.2.n, x31.2.open_))))) fun J23 => cond ((C != (77 : Int)) && (C != (109 : Int))) (J23 (!op)) (J23 false)) := by
  intro rec;unfold CK;dsimp only;rw [hlook, ba];dsimp only;rw [b0, bc, b1, bc, hix, ba, hC]
 by_cases hM : (C = 77 \/ C = 109) \/ op = true
 case neg =>
  have hop : op = false := by cases op with | false => rfl | true => exact absurd (.inr rfl) hM
  have hm1 : ¬ (C = 77 \/ C = 109) := fun h => hM (.inl h);subst hop;right;refine ⟨([], ((tk s i).2.1 : Int), 37), fun rec => ?_, .inr ⟨_, _, by decide, rfl⟩⟩
  ·rw [hP];simp only [letJ];rw [show ((C != 77) && (C != 109)) = true by simp; omega]; rfl
 have hP2 : ∀ rec, CK s rec (s, (i : Int), f, pen, (N : Int), op) =
    (cond ((C == (90 : Int)) || (C == (122 : Int)))
    ((lst f (IntKind.wrap .i64 ((f.length : Int) - (1 : Int)))).bind fun x28 =>
     (idx x28.Spots (0 : Int)).bind fun x29 =>
     (some (List.set f (Int.toNat (IntKind.wrap .i64 ((f.length : Int) - (1 : Int)))) (⟨x28.Spots, true⟩ : Am))).bind fun a30 =>
    rec (s, ((tk s i).2.2.1 : Int), a30, x29, (N : Int), false))
    ((BT (⟨s, ((tk s i).2.2.1 : Int), f, pen, (N : Int), op⟩ : AA) C).bind fun x31 =>
    cond (x31.1.2 != (0 : Int))
     (some (([] : List Am), x31.1.1, x31.1.2))
     (rec (x31.2.s, x31.2.at_, x31.2.f, x31.2.pen, x31.2.n, x31.2.open_)))) := by
  intro rec;rw [hP];simp only [letJ];by_cases hm1 : C = 77 \/ C = 109
  ·rw [show ((C != 77) && (C != 109)) = false by simp; omega, bc, bc]
  ·rw [show ((C != 77) && (C != 109)) = true by simp; omega, bb, hM.resolve_left hm1, show (!true) = false from rfl, bc]
 by_cases hZ : C = 90 \/ C = 122
 ·have bZ : ((C == (90 : Int)) || (C == (122 : Int))) = true := by simp [hZ]
  have hop : op = true := hM.resolve_left (by omega);obtain ⟨mm, M, x, y, rfl, rfl, hm, hst⟩ := fr.last (opn hop);have hx0 : 0 < x.Spots.length := List.length_pos_iff.2 hst.ne;have hy0 : 0 < y.1.length := by rw [<- hst.sp.len]; exact hx0
  have hxl : x.Spots.length <= N := by rw [<- tot, Hw, Hs]; omega
  rw [bk, List.length_singleton] at hcnt;have hMl := hm.len;left;have hst' : StR ⟨x.Spots, true⟩ (y.1, true) := ⟨hst.ne, hst.sp, rfl⟩
  refine ⟨(s, ((tk s i).2.2.1 : Int), mm ++ [⟨x.Spots, true⟩], x.Spots[0], (N : Int), false), fun rec => ?_, ⟨M ++ [(y.1, true)], (tk s i).2.2.1, N, y.1[0], mm ++ [⟨x.Spots, true⟩], x.Spots[0], false, ⟨.snoc hm hst', by rw [<- tot, Hw, Hw, Hs, Hs], lim, t3, hst.sp.sp 0 hx0 hy0, hst.sp.inb _ (bm _), by simp⟩, rfl⟩, ?_⟩
  ·rw [hP2, bZ, bb, Af6 mm _ (by omega), P6 mm _ _ rfl, ba, show (0 : Int) = ((0 : Nat) : Int) from rfl, AE hx0, ba, ba, Int.toNat_natCast, Qb]
  ·dsimp only; omega
 ·have bZ : ((C == (90 : Int)) || (C == (122 : Int))) = false := by simp; omega
  have hn : (0 = 0 /\ (C = 77 \/ C = 109)) \/ f ≠ [] := by
   rcases hM with h | h
   ·exact .inl ⟨rfl, h⟩
   ·exact .inr (opn h)
  obtain ⟨o, e1, hres⟩ := Zg s hs C (tk s i).2.2.1 FUEL L (tk s i).2.2.1 N 0 P f pen op ⟨fr, tot, lim, t3, hpen, inb, opn⟩ (Nat.le_refl _) (by omega) hn (by unfold FUEL; omega);have e1' : BT (⟨s, ((tk s i).2.2.1 : Int), f, pen, (N : Int), op⟩ : AA) C = some o := by
   unfold BT;dsimp only;rw [show true = decide ((0 : Nat) = 0) from rfl, e1]; rfl
  rcases hres with ⟨L', i', N', P', f', pen', op', hI', h0', rfl⟩ | ⟨pl, e, r, he, rfl⟩
  ·left;refine ⟨(s, (i' : Int), f', pen', (N' : Int), op'), fun rec => ?_, ⟨L', i', N', P', f', pen', op', hI', rfl⟩, ?_⟩
   ·rw [hP2, bZ, bc, e1', ba]; rfl
   ·have := hI'.pos;dsimp only; omega
  ·right;refine ⟨([], pl, e), fun rec => ?_, .inr ⟨pl, e, he, rfl⟩⟩
   ·rw [hP2, bZ, bc, e1', ba];dsimp only;rw [show (e != 0) = true by simpa using he, bb]
end Go.Proofs.YtmnbjcpikllknaaGreatDoor
