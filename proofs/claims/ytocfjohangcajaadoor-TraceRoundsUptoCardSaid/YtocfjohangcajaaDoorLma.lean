/- Turning and stretching leaves the rounds as they are. No condition. -/
import Derived.Test.YtocfjohangcajaaDoorLbx
set_option linter.unusedSimpArgs false
set_option linter.unusedVariables false
namespace Go.Proofs.YtocfjohangcajaaDoor
open Fl

theorem tri (a b : Int) : (a < 0 ∧ b < 0 ∧ 0 < a * b) ∨ (a < 0 ∧ b = 0 ∧ a * b = 0) ∨ (a < 0 ∧ 0 < b ∧ a * b < 0) ∨ (a = 0 ∧ b < 0 ∧ a * b = 0) ∨ (a = 0 ∧ b = 0 ∧ a * b = 0) ∨ (a = 0 ∧ 0 < b ∧ a * b = 0) ∨ (0 < a ∧ b < 0 ∧ a * b < 0) ∨ (0 < a ∧ b = 0 ∧ a * b = 0) ∨ (0 < a ∧ 0 < b ∧ 0 < a * b) := by
  rcases Int.lt_trichotomy a 0 with ha | ha | ha <;> rcases Int.lt_trichotomy b 0 with hb | hb | hb
  · exact .inl ⟨ha, hb, Int.mul_pos_of_neg_of_neg ha hb⟩
  · exact .inr (.inl ⟨ha, hb, by rw [hb, Int.mul_zero]⟩)
  · exact .inr (.inr (.inl ⟨ha, hb, Int.mul_neg_of_neg_of_pos ha hb⟩))
  · exact .inr (.inr (.inr (.inl ⟨ha, hb, by rw [ha, Int.zero_mul]⟩)))
  · exact .inr (.inr (.inr (.inr (.inl ⟨ha, hb, by rw [ha, Int.zero_mul]⟩))))
  · exact .inr (.inr (.inr (.inr (.inr (.inl ⟨ha, hb, by rw [ha, Int.zero_mul]⟩)))))
  · exact .inr (.inr (.inr (.inr (.inr (.inr (.inl ⟨ha, hb, Int.mul_neg_of_pos_of_neg ha hb⟩))))))
  · exact .inr (.inr (.inr (.inr (.inr (.inr (.inr (.inl ⟨ha, hb, by rw [hb, Int.mul_zero]⟩)))))))
  · exact .inr (.inr (.inr (.inr (.inr (.inr (.inr (.inr ⟨ha, hb, Int.mul_pos ha hb⟩)))))))
theorem tri_pos (a b : Int) (ha : 0 < a) : (b < 0 ∧ a * b < 0) ∨ (b = 0 ∧ a * b = 0) ∨ (0 < b ∧ 0 < a * b) := by
  rcases tri a b with h | h | h | h | h | h | h | h | h <;> omega
theorem tri_neg (a b : Int) (ha : a < 0) : (b < 0 ∧ 0 < a * b) ∨ (b = 0 ∧ a * b = 0) ∨ (0 < b ∧ a * b < 0) := by
  rcases tri a b with h | h | h | h | h | h | h | h | h <;> omega

/-- How often an edge goes round, by the signs. -/
def dEd (y1 y2 c : Int) : Int := if y1 ≤ 0 ∧ 0 < y2 ∧ 0 < c then 1 else if 0 < y1 ∧ y2 ≤ 0 ∧ c < 0 then -1 else 0
def kUp (y a : Int) : Int := if 0 < y then 0 else if 0 < a then 1 else 0
def kDn (y a : Int) : Int := if 0 < y then (if 0 < a then 1 else 0) else 1
theorem core_up (y1 y2 a b q c : Int) (hq : 0 < q) (hI : y2 * a - y1 * b = q * c) (h1 : c = 0 → ¬ (0 < y1 ∧ y2 ≤ 0)) (h2 : c = 0 → ¬ (y1 ≤ 0 ∧ 0 < y2)) (h3 : c = 0 → y1 ≤ 0 → y2 ≤ 0 → a ≤ 0 → ¬ 0 < b) (h4 : c = 0 → y1 ≤ 0 → y2 ≤ 0 → b ≤ 0 → ¬ 0 < a) :
    dEd a b c = dEd y1 y2 c + kUp y2 b - kUp y1 a := by
  have t3 := tri_pos q c hq
  have t1 := tri y2 a
  have t2 := tri y1 b
  generalize y2 * a = P1 at *
  generalize y1 * b = P2 at *
  generalize q * c = P3 at *
  unfold dEd kUp
  rcases t3 with t3 | t3 | t3 <;> rcases t1 with t1 | t1 | t1 | t1 | t1 | t1 | t1 | t1 | t1 <;> rcases t2 with t2 | t2 | t2 | t2 | t2 | t2 | t2 | t2 | t2 <;> omega
theorem core_dn (y1 y2 a b q c : Int) (hq : q < 0) (hI : y2 * a - y1 * b = q * c) (h1 : c = 0 → ¬ (0 < y1 ∧ y2 ≤ 0)) (h2 : c = 0 → ¬ (y1 ≤ 0 ∧ 0 < y2)) :
    dEd a b c = dEd y1 y2 c + kDn y2 b - kDn y1 a := by
  have t3 := tri_neg q c hq
  have t1 := tri y2 a
  have t2 := tri y1 b
  generalize y2 * a = P1 at *
  generalize y1 * b = P2 at *
  generalize q * c = P3 at *
  unfold dEd kDn
  rcases t3 with t3 | t3 | t3 <;> rcases t1 with t1 | t1 | t1 | t1 | t1 | t1 | t1 | t1 | t1 <;> rcases t2 with t2 | t2 | t2 | t2 | t2 | t2 | t2 | t2 | t2 <;> omega

def kZ (y x : Int) : Int := if 0 < y then 0 else if y = 0 ∧ x < 0 then 0 else 1
theorem zn_N {x1 y1 x2 y2 c : Int} (hN : c = 0 → ¬ (x1 * x2 ≤ 0 ∧ y1 * y2 ≤ 0)) : c = 0 → (0 < x1 ∧ 0 < x2) ∨ (x1 < 0 ∧ x2 < 0) ∨ (0 < y1 ∧ 0 < y2) ∨ (y1 < 0 ∧ y2 < 0) := by
  intro h
  have h2 := hN h
  have t3 := tri x1 x2
  have t4 := tri y1 y2
  generalize x1 * x2 = P5 at *
  generalize y1 * y2 = P6 at *
  rcases t3 with t | t | t | t | t | t | t | t | t <;> rcases t4 with s | s | s | s | s | s | s | s | s <;> omega
theorem zn_d (y1 y2 p c : Int) (hp : p < 0) : dEd (y1 * p) (y2 * p) c = if 0 ≤ y1 ∧ y2 < 0 ∧ 0 < c then 1 else if y1 < 0 ∧ 0 ≤ y2 ∧ c < 0 then -1 else 0 := by
  rw [Int.mul_comm y1 p, Int.mul_comm y2 p]
  have t5 := tri_neg p y1 hp
  have t6 := tri_neg p y2 hp
  generalize p * y1 = P1 at *
  generalize p * y2 = P2 at *
  unfold dEd
  rcases t5 with t5 | t5 | t5 <;> rcases t6 with t6 | t6 | t6 <;> omega
theorem core_zn (x1 y1 x2 y2 p : Int) (hp : p < 0) (hN : x1 * y2 - y1 * x2 = 0 → ¬ (x1 * x2 ≤ 0 ∧ y1 * y2 ≤ 0)) :
    dEd (y1 * p) (y2 * p) (x1 * y2 - y1 * x2) = dEd y1 y2 (x1 * y2 - y1 * x2) + kZ y2 x2 - kZ y1 x1 := by
  have hN' := zn_N hN
  rw [zn_d _ _ _ _ hp]
  clear hN
  have t1 := tri x1 y2
  have t2 := tri y1 x2
  generalize x1 * y2 = P3 at *
  generalize y1 * x2 = P4 at *
  unfold dEd kZ
  rcases t1 with t1 | t1 | t1 | t1 | t1 | t1 | t1 | t1 | t1 <;> rcases t2 with t2 | t2 | t2 | t2 | t2 | t2 | t2 | t2 | t2 <;> omega
theorem core_zp (y1 y2 p c : Int) (hp : 0 < p) : dEd (y1 * p) (y2 * p) c = dEd y1 y2 c := by
  rw [Int.mul_comm y1 p, Int.mul_comm y2 p]
  have t5 := tri_pos p y1 hp
  have t6 := tri_pos p y2 hp
  generalize p * y1 = P1 at *
  generalize p * y2 = P2 at *
  unfold dEd
  rcases t5 with t5 | t5 | t5 <;> rcases t6 with t6 | t6 | t6 <;> omega

/-! ## Vectors -/
def rot (u A : Int × Int) : Int × Int := (A.1 * u.1 - A.2 * u.2, A.1 * u.2 + A.2 * u.1)
def onE (A B : Int × Int) : Prop := crs A B = 0 ∧ A.1 * B.1 ≤ 0 ∧ A.2 * B.2 ≤ 0
theorem on_dot {A B : Int × Int} (h : crs A B = 0) : (A.1 * B.1 ≤ 0 ∧ A.2 * B.2 ≤ 0) ↔ A.1 * B.1 + A.2 * B.2 ≤ 0 := by
  have hp : (A.1 * B.1) * (A.2 * B.2) = (A.1 * B.2) * (A.1 * B.2) := by
    unfold crs at h
    have : A.2 * B.1 = A.1 * B.2 := by omega
    have e : (A.1 * B.1) * (A.2 * B.2) = (A.1 * B.2) * (A.2 * B.1) := by grind
    rw [e, this]
  have h0 : 0 ≤ (A.1 * B.2) * (A.1 * B.2) := by
    rcases Int.le_total 0 (A.1 * B.2) with h | h
    · exact Int.mul_nonneg h h
    · exact Int.mul_nonneg_of_nonpos_of_nonpos h h
  rw [← hp] at h0
  generalize A.1 * B.1 = P at *
  generalize A.2 * B.2 = Q at *
  rcases tri P Q with t | t | t | t | t | t | t | t | t <;> omega
theorem rot_crs (u A B : Int × Int) : crs (rot u A) (rot u B) = (u.1 * u.1 + u.2 * u.2) * crs A B := by unfold crs rot; grind
theorem rot_dot (u A B : Int × Int) : (rot u A).1 * (rot u B).1 + (rot u A).2 * (rot u B).2 = (u.1 * u.1 + u.2 * u.2) * (A.1 * B.1 + A.2 * B.2) := by unfold rot; grind
theorem norm_pos {u : Int × Int} (hu : ¬ (u.1 = 0 ∧ u.2 = 0)) : 0 < u.1 * u.1 + u.2 * u.2 := by
  rcases tri u.1 u.1 with t | t | t | t | t | t | t | t | t <;> rcases tri u.2 u.2 with s | s | s | s | s | s | s | s | s <;> omega
theorem rot_on {u : Int × Int} (hu : ¬ (u.1 = 0 ∧ u.2 = 0)) (A B : Int × Int) : onE (rot u A) (rot u B) ↔ onE A B := by
  have hn := norm_pos hu
  have t := tri_pos _ (crs A B) hn
  have s := tri_pos _ (A.1 * B.1 + A.2 * B.2) hn
  have e1 := rot_crs u A B
  have e2 := rot_dot u A B
  unfold onE
  constructor
  · rintro ⟨h1, h2⟩
    have h3 := (on_dot h1).1 h2
    have h4 : crs A B = 0 := by omega
    refine ⟨h4, (on_dot h4).2 ?_⟩
    omega
  · rintro ⟨h1, h2⟩
    have h3 := (on_dot h1).1 h2
    have h4 : crs (rot u A) (rot u B) = 0 := by omega
    refine ⟨h4, (on_dot h4).2 ?_⟩
    omega
def kU (u A : Int × Int) : Int := if 0 < u.2 then kUp A.2 (rot u A).2 else if u.2 < 0 then kDn A.2 (rot u A).2 else if 0 < u.1 then 0 else kZ A.2 A.1
/-- The turn of an edge. -/
theorem dEd_rot {u : Int × Int} (hu : ¬ (u.1 = 0 ∧ u.2 = 0)) {A B : Int × Int} (hN : ¬ onE A B) :
    dEd (rot u A).2 (rot u B).2 (crs (rot u A) (rot u B)) = dEd A.2 B.2 (crs A B) + kU u B - kU u A := by
  have hsc : ∀ a b : Int, dEd a b (crs (rot u A) (rot u B)) = dEd a b (crs A B) := by
    intro a b
    rw [rot_crs]
    have t := tri_pos _ (crs A B) (norm_pos hu)
    generalize (u.1 * u.1 + u.2 * u.2) * crs A B = Z at *
    unfold dEd
    omega
  rw [hsc]
  have hI : B.2 * (rot u A).2 - A.2 * (rot u B).2 = u.2 * crs A B := by unfold rot crs; grind
  have hN' : crs A B = 0 → ¬ (A.1 * B.1 ≤ 0 ∧ A.2 * B.2 ≤ 0) := fun h1 h2 => hN ⟨h1, h2⟩
  have z1 : crs A B = 0 → ¬ (0 < A.2 ∧ B.2 ≤ 0) := by
    intro h0 h1
    have h2 := hN' h0
    unfold crs at h0
    have t1 := tri A.1 B.2
    have t2 := tri A.2 B.1
    have t3 := tri A.1 B.1
    have t4 := tri A.2 B.2
    generalize A.1 * B.2 = P1 at *
    generalize A.2 * B.1 = P2 at *
    generalize A.1 * B.1 = P3 at *
    generalize A.2 * B.2 = P4 at *
    rcases t1 with t1 | t1 | t1 | t1 | t1 | t1 | t1 | t1 | t1 <;> rcases t2 with t2 | t2 | t2 | t2 | t2 | t2 | t2 | t2 | t2 <;> omega
  have z2 : crs A B = 0 → ¬ (A.2 ≤ 0 ∧ 0 < B.2) := by
    intro h0 h1
    have h2 := hN' h0
    unfold crs at h0
    have t1 := tri A.1 B.2
    have t2 := tri A.2 B.1
    have t3 := tri A.1 B.1
    have t4 := tri A.2 B.2
    generalize A.1 * B.2 = P1 at *
    generalize A.2 * B.1 = P2 at *
    generalize A.1 * B.1 = P3 at *
    generalize A.2 * B.2 = P4 at *
    rcases t1 with t1 | t1 | t1 | t1 | t1 | t1 | t1 | t1 | t1 <;> rcases t2 with t2 | t2 | t2 | t2 | t2 | t2 | t2 | t2 | t2 <;> omega
  unfold kU
  by_cases h1 : 0 < u.2
  · rw [if_pos h1, if_pos h1]
    have zz : ∀ A B : Int × Int, B.2 * (rot u A).2 - A.2 * (rot u B).2 = u.2 * crs A B → (crs A B = 0 → ¬ (A.1 * B.1 ≤ 0 ∧ A.2 * B.2 ≤ 0)) → crs A B = 0 → A.2 ≤ 0 → B.2 ≤ 0 → (rot u A).2 ≤ 0 → ¬ 0 < (rot u B).2 := by
      intro A B hI hN' h0 g1 g2 g3 g4
      rw [h0, Int.mul_zero] at hI
      have hA : A.2 = 0 := by
        have t1 := tri B.2 (rot u A).2
        have t2 := tri A.2 (rot u B).2
        generalize B.2 * (rot u A).2 = P1 at *
        generalize A.2 * (rot u B).2 = P2 at *
        generalize (rot u A).2 = a at *
        generalize (rot u B).2 = b at *
        rcases t1 with t1 | t1 | t1 | t1 | t1 | t1 | t1 | t1 | t1 <;> rcases t2 with t2 | t2 | t2 | t2 | t2 | t2 | t2 | t2 | t2 <;> omega
      have ea : (rot u A).2 = u.2 * A.1 := by unfold rot; simp only; rw [hA]; grind
      have hn := hN' h0
      rw [hA, Int.zero_mul] at hn
      have hx : ¬ A.1 * B.1 ≤ 0 := fun h => hn ⟨h, by omega⟩
      have t1 := tri_pos u.2 A.1 h1
      have t3 := tri A.1 B.1
      rw [ea] at g3
      have hA1 : A.1 < 0 := by
        generalize u.2 * A.1 = P1 at *
        generalize A.1 * B.1 = P3 at *
        rcases t3 with t3 | t3 | t3 | t3 | t3 | t3 | t3 | t3 | t3 <;> omega
      have hB1 : B.1 < 0 := by
        generalize A.1 * B.1 = P3 at *
        rcases t3 with t3 | t3 | t3 | t3 | t3 | t3 | t3 | t3 | t3 <;> omega
      have hcr : A.1 * B.2 = 0 := by
        unfold crs at h0
        rw [hA, Int.zero_mul] at h0; omega
      have hB2 : B.2 = 0 := by
        rcases Int.mul_eq_zero.1 hcr with h | h
        · omega
        · exact h
      have eb : (rot u B).2 = u.2 * B.1 := by unfold rot; simp only; rw [hB2]; grind
      have t4 := tri_pos u.2 B.1 h1
      rw [eb] at g4
      omega
    refine core_up _ _ _ _ u.2 _ h1 hI z1 z2 (zz A B hI hN') ?_
    intro h0 g1 g2 g3
    have e : crs B A = - crs A B := by unfold crs; grind
    refine zz B A ?_ ?_ (by omega) g2 g1 g3
    · rw [e, Int.mul_neg]; omega
    · intro _ h2
      refine hN' h0 ?_
      rw [Int.mul_comm A.1, Int.mul_comm A.2]; exact h2
  · rw [if_neg h1, if_neg h1]
    by_cases h2 : u.2 < 0
    · rw [if_pos h2, if_pos h2]
      exact core_dn _ _ _ _ u.2 _ h2 hI z1 z2
    · rw [if_neg h2, if_neg h2]
      have h3 : u.2 = 0 := by omega
      have ea : (rot u A).2 = A.2 * u.1 := by unfold rot; simp only; rw [h3]; grind
      have eb : (rot u B).2 = B.2 * u.1 := by unfold rot; simp only; rw [h3]; grind
      rw [ea, eb]
      by_cases h4 : 0 < u.1
      · rw [if_pos h4, if_pos h4, core_zp _ _ _ _ h4]; omega
      · rw [if_neg h4, if_neg h4]
        exact core_zn A.1 A.2 B.1 B.2 u.1 (by omega) hN'
end Go.Proofs.YtocfjohangcajaaDoor
