/- Area and Around on figures of whole numbers. No condition. -/
import Derived.Test.YtocfjohangcajaaDoorLar
import Derived.Test.YtocfjohangcajaaDoorLa
set_option linter.unusedSimpArgs false
set_option linter.unusedVariables false
namespace Go.Proofs.YtocfjohangcajaaDoor
open Fl

/-! ## Figures and their whole numbers -/
abbrev FgW := List (List (Int × Int) × Bool)
structure FigW (f : List T_trace_Stroke) (L : FgW) : Prop where
  len : f.length = L.length
  st : ∀ (i : Nat) (h1 : i < f.length) (h2 : i < L.length), f[i].Spots ≠ [] ∧ SpL f[i].Spots L[i].1 ∧ f[i].Closed = L[i].2
  tot : lens f ≤ 500
  cnt : f.length ≤ 500
theorem FigW.fig {f : List T_trace_Stroke} {L : FgW} (H : FigW f L) : Fig f where
  st := fun i h => ⟨(H.st i h (by rw [← H.len]; exact h)).1, _, (H.st i h (by rw [← H.len]; exact h)).2.1⟩
  tot := H.tot
  len := H.cnt
theorem FigW.ne {f : List T_trace_Stroke} {L : FgW} (H : FigW f L) (i : Nat) (h1 : i < f.length) (h2 : i < L.length) : L[i].1 ≠ [] := by
  obtain ⟨h, h3, _⟩ := H.st i h1 h2
  intro h4
  have := h3.len
  rw [h4] at this
  exact h (List.eq_nil_of_length_eq_zero this)
theorem FigW.small {f : List T_trace_Stroke} {L : FgW} (H : FigW f L) (i : Nat) (h1 : i < f.length) (h2 : i < L.length) : L[i].1.length ≤ 500 := by
  rw [← (H.st i h1 h2).2.1.len]
  exact H.fig.small i h1

/-! ## Around -/
def arS (p : Int × Int) (n : Int) (x : List (Int × Int) × Bool) : Option Int := if x.2 then arF p x.1 n x.1.length else some n
def arT (p : Int × Int) (L : FgW) : Nat → Option Int
  | 0 => some 0
  | i + 1 => (arT p L i).bind fun n => arS p n (L.getD i ([], false))
theorem arT_b (p : Int × Int) (f : List T_trace_Stroke) (L : FgW) (H : FigW f L) : ∀ (i : Nat) (m : Int), i ≤ f.length → arT p L i = some m → -(lens (f.take i) : Int) ≤ m ∧ m ≤ (lens (f.take i) : Int)
  | 0, m, _, h => by simp only [arT] at h; injection h with h; subst h; simp [lens]
  | i + 1, m, hi, h => by
    simp only [arT] at h
    have h2 : i < L.length := by rw [← H.len]; omega
    cases ha : arT p L i with
    | none => rw [ha] at h; simp at h
    | some k =>
      have := arT_b p f L H i k (by omega) ha
      have ht := lens_take f i (by omega)
      have hs := (H.st i (by omega) h2).2.1.len
      rw [ha, Option.bind_some, show L.getD i ([], false) = L[i] by simp [List.getD, h2]] at h
      unfold arS at h
      split at h
      · have := arF_b p _ k _ m h
        omega
      · injection h with h; omega

/-- Around, at a right figure and a right spot. -/
theorem around_W {f : List T_trace_Stroke} {L : FgW} (H : FigW f L) {z : Nat × Nat} {p : Int × Int} (hz : Sp z p) (hp : InB p) :
    F_trace_Around f z = some (match arT p L L.length with | some m => (m, false, 0) | none => (0, true, 0)) := by
  have hlen := H.len
  have hcnt := H.cnt
  have htot := H.tot
  have mono : ∀ j i : Nat, arT p L i = none → arT p L (i + j) = none := by
    intro j
    induction j with
    | zero => intro i h; exact h
    | succ j ih => intro i h; rw [← Nat.add_assoc, arT, ih i h]; rfl
  obtain ⟨o, h1, h2⟩ := iter_spec (b := F_trace_Around_l0 f z) (fun i x => ∃ m, arT p L i = some m ∧ x = (m, (i : Int)))
    (fun o => o = match arT p L L.length with | some m => .inl m | none => .inr ((0 : Int), true, (0 : Int))) f.length (x0 := ((0 : Int), (0 : Int))) ⟨0, rfl, rfl⟩
    (fun i x rec hi ⟨m, hm, hx⟩ => by
      subst hx
      have hi' : i < L.length := by omega
      obtain ⟨hne, hsp, hcl⟩ := H.st i hi hi'
      have hmb := arT_b p f L H i m (by omega) hm
      have hle := lens_le f i
      have hstep : arT p L (i + 1) = arS p m L[i] := by rw [arT, hm, Option.bind_some, show L.getD i ([], false) = L[i] by simp [List.getD, hi']]
      have hb : F_trace_Around_l0 f z rec (m, (i : Int)) = match arS p m L[i] with | none => some (.inr ((0 : Int), true, (0 : Int))) | some d => rec (d, ((i + 1 : Nat) : Int)) := by
        unfold F_trace_Around_l0
        simp only [letJ]
        rw [decide_eq_true (by omega), cond_true, idx_some hi, Option.bind_some, w64 (x := (i : Int) + 1) (by omega) (by omega)]
        unfold arS
        cases hc : L[i].2 with
        | true =>
          rw [if_pos rfl, around_l1 hz hp f[i] hsp (H.ne i hi hi') (H.small i hi hi') (by rw [hcl, hc]) m (by omega), Option.bind_some]
          cases arF p L[i].1 m L[i].1.length <;> simp
        | false =>
          rw [if_neg (by simp), around_l1_open f[i] hne (by rw [hcl, hc]) m, Option.bind_some]
          simp
      cases he : arS p m L[i] with
      | none =>
        right
        rw [he] at hb hstep
        refine ⟨_, hb, ?_⟩
        have := mono (L.length - (i + 1)) (i + 1) hstep
        rw [show i + 1 + (L.length - (i + 1)) = L.length by omega] at this
        rw [this]
      | some d =>
        left
        rw [he] at hb hstep
        exact ⟨_, hb, d, hstep, rfl⟩)
    (fun x rec ⟨m, hm, hx⟩ => ⟨.inl m, by
      subst hx
      unfold F_trace_Around_l0
      simp only [letJ]
      rw [decide_eq_false (by omega), cond_false], by rw [← hlen, hm]⟩) (n := FUEL) (by unfold FUEL; omega)
  unfold F_trace_Around
  rw [right_ok H.fig, Option.bind_some]
  simp only [letJ, Bool.not_true, cond_false, spot_in hz hp, Option.bind_some, h1, h2]
  cases arT p L L.length <;> rfl

/-! ## Area -/
def aF (ps : List (Int × Int)) (s : Int) : Nat → Int
  | 0 => s
  | i + 1 => aF ps s i + crs (ps.getD i (0, 0)) (ps.getD ((i + 1) % ps.length) (0, 0))
theorem crs_b {a b : Int × Int} (ha : InB a) (hb : InB b) : (crs a b).natAbs ≤ 2000000000000 := by
  obtain ⟨a1, a2, a3, a4⟩ := ha
  obtain ⟨b1, b2, b3, b4⟩ := hb
  have m1 := abs_mul_le (a := a.1) (b := b.2) (m := 1000000) (n := 1000000) (by omega) (by omega)
  have m2 := abs_mul_le (a := a.2) (b := b.1) (m := 1000000) (n := 1000000) (by omega) (by omega)
  unfold crs
  omega
theorem aF_b {ps : List (Int × Int)} (H : ∀ p ∈ ps, InB p) (hne : ps ≠ []) (s : Int) : ∀ i : Nat, i ≤ ps.length → (aF ps s i - s).natAbs ≤ i * 2000000000000
  | 0, _ => by simp [aF]
  | i + 1, h => by
    have ih := aF_b H hne s i (by omega)
    have hl0 : ps.length ≠ 0 := fun h => hne (List.eq_nil_of_length_eq_zero h)
    have hi : i < ps.length := by omega
    have hj : (i + 1) % ps.length < ps.length := Nat.mod_lt _ (by omega)
    have ga : ps.getD i (0, 0) = ps[i] := by simp [List.getD, hi]
    have gb : ps.getD ((i + 1) % ps.length) (0, 0) = ps[(i + 1) % ps.length] := by simp [List.getD, hj]
    have := crs_b (H ps[i] (List.getElem_mem _)) (H ps[(i + 1) % ps.length] (List.getElem_mem _))
    rw [aF, ga, gb]
    omega

theorem area_l1 (t : T_trace_Stroke) {ps : List (Int × Int)} (H : SpL t.Spots ps) (hne : ps ≠ []) (hl : ps.length ≤ 500) (hc : t.Closed = true) {a : Nat} {s : Int} (ha : isI a s) (hs : s.natAbs ≤ 1000000000000000) :
    ∃ r, iter (F_trace_Area_l1 t) FUEL (a, (0 : Int)) = some r ∧ isI r (aF ps s ps.length) := by
  have hL : t.Spots.length = ps.length := H.len
  have hl0 : ps.length ≠ 0 := fun h => hne (List.eq_nil_of_length_eq_zero h)
  obtain ⟨o, h1, h2⟩ := iter_spec (b := F_trace_Area_l1 t) (fun i x => ∃ r, isI r (aF ps s i) ∧ x = (r, (i : Int)))
    (fun o => isI o (aF ps s ps.length)) ps.length (x0 := (a, (0 : Int))) ⟨a, ha, rfl⟩
    (fun i x rec hi ⟨r, hr, hx⟩ => by
      subst hx
      have hi' : i < t.Spots.length := by omega
      have hj : (i + 1) % ps.length < ps.length := Nat.mod_lt _ (by omega)
      have hj' : (i + 1) % ps.length < t.Spots.length := by omega
      have ia := H.inb ps[i] (List.getElem_mem _)
      have ib := H.inb ps[(i + 1) % ps.length] (List.getElem_mem _)
      obtain ⟨a1, a2, a3, a4⟩ := ia
      obtain ⟨b1, b2, b3, b4⟩ := ib
      have hb1 := aF_b H.inb hne s i (by omega)
      have hb2 := aF_b H.inb hne s (i + 1) (by omega)
      have ga : ps.getD i (0, 0) = ps[i] := by simp [List.getD, hi]
      have gb : ps.getD ((i + 1) % ps.length) (0, 0) = ps[(i + 1) % ps.length] := by simp [List.getD, hj]
      have hstep : aF ps s (i + 1) = aF ps s i + crs ps[i] ps[(i + 1) % ps.length] := by rw [aF, ga, gb]
      have sa := H.sp i hi' hi
      have sb := H.sp _ hj' hj
      obtain ⟨rc, e3, sc⟩ := cross_I sa sb (by omega) (by omega) (by omega) (by omega)
      obtain ⟨r9, e9, s9⟩ := fadd_I hr sc (by rw [← hstep]; omega)
      left
      refine ⟨(r9, ((i + 1 : Nat) : Int)), ?_, r9, by rw [hstep]; exact s9, rfl⟩
      unfold F_trace_Area_l1
      simp only [letJ]
      rw [decide_eq_true (by omega), cond_true, idx_some hi', Option.bind_some, hc, cond_true, hL, nzI_some hl0, Option.bind_some, w64 (x := (i : Int) + 1) (by omega) (by omega)]
      rw [show ((i : Int) + 1) = ((i + 1 : Nat) : Int) by omega, tmod_nat, idx_some hj', Option.bind_some, e3, Option.bind_some, e9, Option.bind_some])
    (fun x rec ⟨r, hr, hx⟩ => ⟨r, by
      subst hx
      unfold F_trace_Area_l1
      simp only [letJ]
      rw [decide_eq_false (by omega), cond_false], hr⟩) (n := FUEL) (by unfold FUEL; omega)
  exact ⟨o, h1, h2⟩
theorem area_l1_open (t : T_trace_Stroke) (hl : t.Spots.length ≤ 500) (hc : t.Closed = false) (a : Nat) : iter (F_trace_Area_l1 t) FUEL (a, (0 : Int)) = some a := by
  obtain ⟨o, h1, h2⟩ := iter_spec (b := F_trace_Area_l1 t) (fun i x => x = (a, (i : Int))) (fun o => o = a) t.Spots.length (x0 := (a, (0 : Int))) rfl
    (fun i x rec hi hx => .inl ⟨(a, ((i + 1 : Nat) : Int)), by
      subst hx
      unfold F_trace_Area_l1
      simp only [letJ]
      rw [decide_eq_true (by omega), cond_true, idx_some hi, Option.bind_some, hc, cond_false, w64 (x := (i : Int) + 1) (by omega) (by omega)]; rfl, rfl⟩)
    (fun x rec hx => ⟨a, by
      subst hx
      unfold F_trace_Area_l1
      simp only [letJ]
      rw [decide_eq_false (by omega), cond_false], rfl⟩) (n := FUEL) (by unfold FUEL; omega)
  rw [h1, h2]

def aS (s : Int) (x : List (Int × Int) × Bool) : Int := if x.2 then aF x.1 s x.1.length else s
def aT (L : FgW) : Nat → Int
  | 0 => 0
  | i + 1 => aS (aT L i) (L.getD i ([], false))
theorem aT_b (f : List T_trace_Stroke) (L : FgW) (H : FigW f L) : ∀ (i : Nat), i ≤ f.length → (aT L i).natAbs ≤ lens (f.take i) * 2000000000000
  | 0, _ => by simp [aT]
  | i + 1, hi => by
    have h2 : i < L.length := by rw [← H.len]; omega
    have ih := aT_b f L H i (by omega)
    have ht := lens_take f i (by omega)
    obtain ⟨hne, hsp, hcl⟩ := H.st i (by omega) h2
    have hs := hsp.len
    rw [aT, show L.getD i ([], false) = L[i] by simp [List.getD, h2], ht]
    unfold aS
    split
    · have := aF_b hsp.inb (H.ne i (by omega) h2) (aT L i) _ (Nat.le_refl _)
      rw [hs]
      omega
    · exact Nat.le_trans ih (Nat.mul_le_mul_right _ (Nat.le_add_right _ _))
/-- Area, at a right figure. -/
theorem area_W {f : List T_trace_Stroke} {L : FgW} (H : FigW f L) : ∃ r, F_trace_Area f = some (r, 0) ∧ isI r (aT L L.length) := by
  have hlen := H.len
  have hcnt := H.cnt
  have htot := H.tot
  obtain ⟨o, h1, h2⟩ := iter_spec (b := F_trace_Area_l0 f) (fun i x => ∃ r, isI r (aT L i) ∧ x = (r, (i : Int)))
    (fun o => isI o (aT L L.length)) f.length (x0 := ((0 : Nat), (0 : Int))) ⟨0, zero_I, rfl⟩
    (fun i x rec hi ⟨r, hr, hx⟩ => by
      subst hx
      have hi' : i < L.length := by omega
      obtain ⟨hne, hsp, hcl⟩ := H.st i hi hi'
      have hb := aT_b f L H i (by omega)
      have hle := lens_le f i
      have hstep : aT L (i + 1) = aS (aT L i) L[i] := by rw [aT, show L.getD i ([], false) = L[i] by simp [List.getD, hi']]
      left
      have hsm := H.small i hi hi'
      have key : ∃ r2, iter (F_trace_Area_l1 f[i]) FUEL (r, (0 : Int)) = some r2 ∧ isI r2 (aT L (i + 1)) := by
        rw [hstep]
        unfold aS
        cases hc : L[i].2 with
        | true =>
          rw [if_pos rfl]
          exact area_l1 f[i] hsp (H.ne i hi hi') hsm (by rw [hcl, hc]) hr (by omega)
        | false =>
          rw [if_neg (by simp)]
          exact ⟨r, area_l1_open f[i] (by rw [hsp.len]; exact hsm) (by rw [hcl, hc]) r, hr⟩
      obtain ⟨r2, e2, s2⟩ := key
      refine ⟨(r2, ((i + 1 : Nat) : Int)), ?_, r2, s2, rfl⟩
      unfold F_trace_Area_l0
      simp only [letJ]
      rw [decide_eq_true (by omega), cond_true, idx_some hi, Option.bind_some, w64 (x := (i : Int) + 1) (by omega) (by omega), e2, Option.bind_some]; rfl)
    (fun x rec ⟨r, hr, hx⟩ => ⟨r, by
      subst hx
      unfold F_trace_Area_l0
      simp only [letJ]
      rw [decide_eq_false (by omega), cond_false], by rw [← hlen]; exact hr⟩) (n := FUEL) (by unfold FUEL; omega)
  refine ⟨o, ?_, h2⟩
  unfold F_trace_Area
  rw [right_ok H.fig, Option.bind_some]
  simp only [letJ, Bool.not_true, cond_false, h1, Option.bind_some]

/-! ## Signs of products -/
theorem mul_sgn_le {a c : Int} (h : a < c) : a * c ≤ 0 ↔ a ≤ 0 ∧ 0 ≤ c := by
  constructor
  · intro hm
    constructor
    · apply Classical.byContradiction; intro ha
      have := Int.mul_pos (a := a) (b := c) (by omega) (by omega)
      omega
    · apply Classical.byContradiction; intro hc
      have := Int.mul_pos_of_neg_of_neg (a := a) (b := c) (by omega) (by omega)
      omega
  · intro ⟨h1, h2⟩
    exact Int.mul_nonpos_of_nonpos_of_nonneg h1 h2
theorem mul_pos_iff {c d : Int} (h : 0 < d) : 0 < c * d ↔ 0 < c := by
  constructor
  · intro hm
    apply Classical.byContradiction; intro hc
    have := Int.mul_nonpos_of_nonpos_of_nonneg (a := c) (b := d) (by omega) (by omega)
    omega
  · intro hc
    exact Int.mul_pos hc h
theorem mul_zero_iff {c d : Int} (h : 0 < d) : c * d = 0 ↔ c = 0 := by
  rw [Int.mul_eq_zero]
  constructor
  · rintro (h1 | h1) <;> omega
  · intro h1; exact .inl h1
theorem sq_nonneg (c : Int) : 0 ≤ c * c := by
  rcases Int.le_total 0 c with h | h
  · exact Int.mul_nonneg h h
  · exact Int.mul_nonneg_of_nonpos_of_nonpos h h
theorem sq_le (c : Int) : c * c ≤ 0 ↔ c = 0 := by
  have := sq_nonneg c
  constructor
  · intro h
    have : c * c = 0 := by omega
    rcases Int.mul_eq_zero.1 this with h | h <;> exact h
  · intro h; subst h; decide

/-! ## A box's edges -/
/-- Upward. -/
theorem edg_up {c y t u v : Int} (h : y < t) : edg (u, v) (c, y) (c, t) = if u = c ∧ y ≤ v ∧ v ≤ t then none else if y ≤ v ∧ v < t ∧ u < c then some 1 else some 0 := by
  have hc : crs (c - u, y - v) (c - u, t - v) = (c - u) * (t - y) := by unfold crs; grind
  unfold edg
  simp only [hc, mul_zero_iff (show 0 < t - y by omega), mul_pos_iff (show 0 < t - y by omega), sq_le, mul_sgn_le (show y - v < t - v by omega)]
  by_cases h1 : u = c ∧ y ≤ v ∧ v ≤ t
  · rw [if_pos h1, if_pos (by omega)]
  · rw [if_neg h1, if_neg (by omega)]
    by_cases h2 : y ≤ v ∧ v < t ∧ u < c
    · rw [if_pos h2, if_pos (by omega)]
    · rw [if_neg h2, if_neg (by omega), if_neg (by omega)]
/-- Downward. -/
theorem edg_down {c y t u v : Int} (h : y < t) : edg (u, v) (c, t) (c, y) = if u = c ∧ y ≤ v ∧ v ≤ t then none else if y ≤ v ∧ v < t ∧ u < c then some (-1) else some 0 := by
  have hc : crs (c - u, t - v) (c - u, y - v) = -((c - u) * (t - y)) := by unfold crs; grind
  have hz : (-((c - u) * (t - y)) = 0) = (c - u = 0) := by
    have := mul_zero_iff (c := c - u) (show 0 < t - y by omega)
    apply propext; constructor
    · intro h; exact this.1 (by omega)
    · intro h; have := this.2 h; omega
  have hp : (-((c - u) * (t - y)) < 0) = (0 < c - u) := by
    have := mul_pos_iff (c := c - u) (show 0 < t - y by omega)
    apply propext; constructor
    · intro h; exact this.1 (by omega)
    · intro h; have := this.2 h; omega
  have hm : (t - v) * (y - v) ≤ 0 ↔ y - v ≤ 0 ∧ 0 ≤ t - v := by rw [Int.mul_comm]; exact mul_sgn_le (by omega)
  unfold edg
  simp only [hc, hz, hp, sq_le, hm]
  by_cases h1 : u = c ∧ y ≤ v ∧ v ≤ t
  · rw [if_pos h1, if_pos (by omega)]
  · rw [if_neg h1, if_neg (by omega), if_neg (by omega)]
    by_cases h2 : y ≤ v ∧ v < t ∧ u < c
    · rw [if_pos h2, if_pos (by omega)]
    · rw [if_neg h2, if_neg (by omega)]
/-- Rightward. -/
theorem edg_right {x r c u v : Int} (h : x < r) : edg (u, v) (x, c) (r, c) = if v = c ∧ x ≤ u ∧ u ≤ r then none else some 0 := by
  have hc : crs (x - u, c - v) (r - u, c - v) = -((c - v) * (r - x)) := by unfold crs; grind
  have hz : (-((c - v) * (r - x)) = 0) = (c - v = 0) := by
    have := mul_zero_iff (c := c - v) (show 0 < r - x by omega)
    apply propext; constructor
    · intro h; exact this.1 (by omega)
    · intro h; have := this.2 h; omega
  unfold edg
  simp only [hc, hz, sq_le, mul_sgn_le (show x - u < r - u by omega)]
  by_cases h1 : v = c ∧ x ≤ u ∧ u ≤ r
  · rw [if_pos h1, if_pos (by omega)]
  · rw [if_neg h1, if_neg (by omega), if_neg (by omega), if_neg (by omega)]
/-- Leftward. -/
theorem edg_left {x r c u v : Int} (h : x < r) : edg (u, v) (r, c) (x, c) = if v = c ∧ x ≤ u ∧ u ≤ r then none else some 0 := by
  have hc : crs (r - u, c - v) (x - u, c - v) = (c - v) * (r - x) := by unfold crs; grind
  have hm : (r - u) * (x - u) ≤ 0 ↔ x - u ≤ 0 ∧ 0 ≤ r - u := by rw [Int.mul_comm]; exact mul_sgn_le (by omega)
  unfold edg
  simp only [hc, mul_zero_iff (show 0 < r - x by omega), sq_le, hm]
  by_cases h1 : v = c ∧ x ≤ u ∧ u ≤ r
  · rw [if_pos h1, if_pos (by omega)]
  · rw [if_neg h1, if_neg (by omega), if_neg (by omega), if_neg (by omega)]

/-! ## Boxes -/
theorem arF4 (p a b c d : Int × Int) (n : Int) : arF p [a, b, c, d] n 4 = ((((some n).bind fun m => (edg p a b).map (m + ·)).bind fun m => (edg p b c).map (m + ·)).bind fun m => (edg p c d).map (m + ·)).bind (fun m => (edg p d a).map (m + ·)) := by
  simp only [arF, List.length_cons, List.length_nil, Nat.reduceAdd, Nat.reduceMod, List.getD_cons_zero, List.getD_cons_succ]
theorem arF8 (p a b c d : Int × Int) (n : Int) : arF p [a, b, c, d, a, b, c, d] n 8 = (((((((((some n).bind fun m => (edg p a b).map (m + ·)).bind fun m => (edg p b c).map (m + ·)).bind fun m => (edg p c d).map (m + ·)).bind (fun m => (edg p d a).map (m + ·))).bind
    fun m => (edg p a b).map (m + ·)).bind fun m => (edg p b c).map (m + ·)).bind fun m => (edg p c d).map (m + ·)).bind (fun m => (edg p d a).map (m + ·))) := by
  simp only [arF, List.length_cons, List.length_nil, Nat.reduceAdd, Nat.reduceMod, List.getD_cons_zero, List.getD_cons_succ]
theorem arT_one (p : Int × Int) (l : List (Int × Int)) : arT p [(l, true)] 1 = arF p l 0 l.length := rfl
theorem arT_two (p : Int × Int) (l q : List (Int × Int)) : arT p [(l, true), (q, false)] 2 = arF p l 0 l.length := by
  show (arF p l 0 l.length).bind some = _
  cases arF p l 0 l.length <;> rfl
theorem aF8 (a b c d : Int × Int) : aF [a, b, c, d, a, b, c, d] 0 8 = 0 + crs a b + crs b c + crs c d + crs d a + crs a b + crs b c + crs c d + crs d a := by
  simp only [aF, List.length_cons, List.length_nil, Nat.reduceAdd, Nat.reduceMod, List.getD_cons_zero, List.getD_cons_succ]
def bxS (x y r t u v : Int) (k : Int) : Option Int := if x < u ∧ u < r ∧ y < v ∧ v < t then some k else if u < x ∨ r < u ∨ v < y ∨ t < v then some 0 else none
section
variable {x y r t u v : Int} (hx : x < r) (hy : y < t)
include hx hy
theorem box4 (n : Int) : ((((some n).bind fun m => (edg (u, v) (x, y) (r, y)).map (m + ·)).bind fun m => (edg (u, v) (r, y) (r, t)).map (m + ·)).bind fun m => (edg (u, v) (r, t) (x, t)).map (m + ·)).bind (fun m => (edg (u, v) (x, t) (x, y)).map (m + ·))
    = (bxS x y r t u v 1).map (n + ·) := by
  rw [edg_right hx, edg_up hy, edg_left hx, edg_down hy]
  unfold bxS
  by_cases hin : x < u ∧ u < r ∧ y < v ∧ v < t
  · rw [if_neg (by omega), if_neg (by omega), if_pos (by omega), if_neg (by omega), if_neg (by omega), if_neg (by omega), if_pos hin]
    simp
  · by_cases hout : u < x ∨ r < u ∨ v < y ∨ t < v
    · by_cases hs : y ≤ v ∧ v < t ∧ u < x
      · rw [if_neg (by omega), if_neg (by omega), if_pos (by omega), if_neg (by omega), if_neg (by omega), if_pos hs, if_neg hin, if_pos hout]; simp; omega
      · rw [if_neg (by omega), if_neg (by omega), if_neg (by omega), if_neg (by omega), if_neg (by omega), if_neg hs, if_neg hin, if_pos hout]; simp
    · rw [if_neg hin, if_neg hout]
      by_cases h1 : v = y ∧ x ≤ u ∧ u ≤ r
      · rw [if_pos h1]; rfl
      · by_cases h2 : u = r ∧ y ≤ v ∧ v ≤ t
        · rw [if_neg h1, if_pos h2]; rfl
        · by_cases h3 : v = t ∧ x ≤ u ∧ u ≤ r
          · rw [if_neg h1, if_neg h2, if_pos h3]
            split <;> rfl
          · have h4 : u = x ∧ y ≤ v ∧ v ≤ t := by omega
            rw [if_neg h1, if_neg h2, if_neg h3, if_pos h4]
            split <;> rfl
theorem back4 (n : Int) : ((((some n).bind fun m => (edg (u, v) (x, y) (x, t)).map (m + ·)).bind fun m => (edg (u, v) (x, t) (r, t)).map (m + ·)).bind fun m => (edg (u, v) (r, t) (r, y)).map (m + ·)).bind (fun m => (edg (u, v) (r, y) (x, y)).map (m + ·))
    = (bxS x y r t u v (-1)).map (n + ·) := by
  rw [edg_up hy, edg_right hx, edg_down hy, edg_left hx]
  unfold bxS
  by_cases hin : x < u ∧ u < r ∧ y < v ∧ v < t
  · rw [if_neg (by omega), if_neg (by omega), if_neg (by omega), if_neg (by omega), if_pos (by omega), if_neg (by omega), if_pos hin]
    simp; try omega
  · by_cases hout : u < x ∨ r < u ∨ v < y ∨ t < v
    · by_cases hs : y ≤ v ∧ v < t ∧ u < x
      · rw [if_neg (by omega), if_pos hs, if_neg (by omega), if_neg (by omega), if_pos (by omega), if_neg (by omega), if_neg hin, if_pos hout]; simp; omega
      · rw [if_neg (by omega), if_neg hs, if_neg (by omega), if_neg (by omega), if_neg (by omega), if_neg (by omega), if_neg hin, if_pos hout]; simp
    · rw [if_neg hin, if_neg hout]
      by_cases h4 : u = x ∧ y ≤ v ∧ v ≤ t
      · rw [if_pos h4]; rfl
      · by_cases h3 : v = t ∧ x ≤ u ∧ u ≤ r
        · rw [if_neg h4, if_pos h3]; split <;> rfl
        · by_cases h2 : u = r ∧ y ≤ v ∧ v ≤ t
          · rw [if_neg h4, if_neg h3, if_pos h2]
            split <;> rfl
          · have h1 : v = y ∧ x ≤ u ∧ u ≤ r := by omega
            rw [if_neg h4, if_neg h3, if_neg h2, if_pos h1]
            split <;> split <;> rfl
theorem box_round : arT (u, v) [([(x, y), (r, y), (r, t), (x, t)], true)] 1 = bxS x y r t u v 1 := by
  have h := box4 (u := u) (v := v) hx hy 0
  rw [arT_one]
  show arF _ _ 0 4 = _
  rw [arF4, h]; cases bxS x y r t u v 1 <;> simp
theorem back_round : arT (u, v) [([(x, y), (x, t), (r, t), (r, y)], true)] 1 = bxS x y r t u v (-1) := by
  have h := back4 (u := u) (v := v) hx hy 0
  rw [arT_one]
  show arF _ _ 0 4 = _
  rw [arF4, h]; cases bxS x y r t u v (-1) <;> simp
theorem two_round (q : List (Int × Int)) : arT (u, v) [([(x, y), (r, y), (r, t), (x, t), (x, y), (r, y), (r, t), (x, t)], true), (q, false)] 2 = bxS x y r t u v 2 := by
  have h2 := fun n => box4 (u := u) (v := v) hx hy n
  rw [arT_two]
  show arF _ _ 0 8 = _
  rw [arF8, h2]
  have hb : (bxS x y r t u v 1 = some 1 ∧ bxS x y r t u v 2 = some 2) ∨ (bxS x y r t u v 1 = some 0 ∧ bxS x y r t u v 2 = some 0) ∨ (bxS x y r t u v 1 = none ∧ bxS x y r t u v 2 = none) := by
    unfold bxS
    by_cases hin : x < u ∧ u < r ∧ y < v ∧ v < t
    · left; exact ⟨if_pos hin, if_pos hin⟩
    · right
      rw [if_neg hin, if_neg hin]
      by_cases hout : u < x ∨ r < u ∨ v < y ∨ t < v
      · left; exact ⟨if_pos hout, if_pos hout⟩
      · right; exact ⟨if_neg hout, if_neg hout⟩
  rcases hb with ⟨h3, h4⟩ | ⟨h3, h4⟩ | ⟨h3, h4⟩ <;> rw [h4, h3]
  · rw [Option.map_some, h2 (0 + 1), h3]; rfl
  · rw [Option.map_some, h2 (0 + 0), h3]; rfl
  · rfl
end

/-! ## Lists -/
theorem SpL.nil : SpL [] [] := ⟨rfl, fun i h => absurd h (by simp), fun p h => by cases h⟩
theorem SpL.cons {z : Nat × Nat} {p : Int × Int} {zs : List (Nat × Nat)} {ps : List (Int × Int)} (h1 : Sp z p) (h2 : InB p) (H : SpL zs ps) : SpL (z :: zs) (p :: ps) where
  len := by simp [H.len]
  sp := fun i h3 h4 => by
    cases i with
    | zero => exact h1
    | succ i => exact H.sp i (by simpa using h3) (by simpa using h4)
  inb := fun q hq => by
    rcases List.mem_cons.1 hq with h | h
    · subst h; exact h2
    · exact H.inb q h
theorem FigW.one {l : List (Nat × Nat)} {ps : List (Int × Int)} (c : Bool) (hne : l ≠ []) (h : SpL l ps) (hl : l.length ≤ 500) : FigW [⟨l, c⟩] [(ps, c)] where
  len := rfl
  st := fun i h1 h2 => by
    have : i = 0 := by simp at h1; exact h1
    subst this; exact ⟨hne, h, rfl⟩
  tot := by simp [lens]; exact hl
  cnt := by simp
theorem FigW.two {l m : List (Nat × Nat)} {ps qs : List (Int × Int)} (c d : Bool) (hne : l ≠ []) (hne2 : m ≠ []) (h : SpL l ps) (h' : SpL m qs) (hl : l.length + m.length ≤ 500) : FigW [⟨l, c⟩, ⟨m, d⟩] [(ps, c), (qs, d)] where
  len := rfl
  st := fun i h1 h2 => by
    have : i = 0 ∨ i = 1 := by simp at h1; omega
    rcases this with h3 | h3 <;> subst h3
    · exact ⟨hne, h, rfl⟩
    · exact ⟨hne2, h', rfl⟩
  tot := by simp [lens]; omega
  cnt := by simp
theorem sp_of (a b : Int) (ha : InB (a, b)) : Sp (i2f a, i2f b) (a, b) := by
  obtain ⟨h1, h2, h3, h4⟩ := ha
  simp only at h1 h2 h3 h4
  exact ⟨i2f_I a (by omega), i2f_I b (by omega)⟩
theorem four_I : isI 4616189618054758400 4 := ⟨false, 4503599627370496, -50, by decide, by decide⟩
theorem cond_of {α : Type} {b : Bool} {x y z : α} (h1 : b = true → x = z) (h2 : b = false → y = z) : cond b x y = z := by cases b; exact h2 rfl; exact h1 rfl

theorem area_two (x y w h : Int) (q : List (Int × Int)) : aT [([(x, y), (x + w, y), (x + w, y + h), (x, y + h), (x, y), (x + w, y), (x + w, y + h), (x, y + h)], true), (q, false)] 2 = 4 * w * h := by
  show aF [(x, y), (x + w, y), (x + w, y + h), (x, y + h), (x, y), (x + w, y), (x + w, y + h), (x, y + h)] 0 8 = _
  rw [aF8]
  unfold crs
  grind

/-- The law of the boxes. -/
theorem traceBoxes (p0 p1 p2 p3 p4 p5 : Int) : F_lecternlaw10_TraceBoxes p0 p1 p2 p3 p4 p5 = some true := by
  unfold F_lecternlaw10_TraceBoxes F_lecternlaw10_fits F_lecternlaw10_spot
  rw [awake_t]
  simp only [Option.bind_some, letJ, Bool.not_true, cond_false, cond_true]
  refine cond_of (fun _ => rfl) fun hg1 => ?_
  simp only [Bool.or_eq_false_iff, Bool.not_eq_false', Bool.and_eq_true, decide_eq_true_eq, decide_eq_false_iff_not] at hg1
  obtain ⟨⟨⟨⟨⟨⟨⟨a1, a2⟩, a3⟩, a4⟩, a5⟩, a6⟩, a7⟩, a8⟩ := hg1
  rw [w64 (x := p0 + p2) (by omega) (by omega), w64 (x := p1 + p3) (by omega) (by omega)]
  refine cond_of (fun _ => rfl) fun hg2 => ?_
  simp only [Bool.or_eq_false_iff, Bool.not_eq_false', Bool.and_eq_true, decide_eq_true_eq, decide_eq_false_iff_not] at hg2
  obtain ⟨⟨⟨b1, b2⟩, b3⟩, b4⟩ := hg2
  refine cond_of (fun _ => rfl) fun hg3 => ?_
  simp only [Bool.or_eq_false_iff, Bool.not_eq_false', Bool.and_eq_true, decide_eq_true_eq, decide_eq_false_iff_not] at hg3
  obtain ⟨⟨⟨c1, c2⟩, c3⟩, c4⟩ := hg3
  have i1 : InB (p0, p1) := ⟨a1, a2, a3, a4⟩
  have i2 : InB (p0 + p2, p1) := ⟨b1, b2, a3, a4⟩
  have i3 : InB (p0 + p2, p1 + p3) := ⟨b1, b2, b3, b4⟩
  have i4 : InB (p0, p1 + p3) := ⟨a1, a2, b3, b4⟩
  have i5 : InB (p4, p5) := ⟨c1, c2, c3, c4⟩
  have s1 := sp_of _ _ i1
  have s2 := sp_of _ _ i2
  have s3 := sp_of _ _ i3
  have s4 := sp_of _ _ i4
  have s5 := sp_of _ _ i5
  have L1 := SpL.cons s1 i1 (.cons s2 i2 (.cons s3 i3 (.cons s4 i4 .nil)))
  have L2 := SpL.cons s1 i1 (.cons s2 i2 (.cons s3 i3 (.cons s4 i4 L1)))
  have L3 := SpL.cons s1 i1 (.cons s4 i4 (.cons s3 i3 (.cons s2 i2 .nil)))
  have hx : p0 < p0 + p2 := by omega
  have hy : p1 < p1 + p3 := by omega
  have r1 := around_W (FigW.one true (by simp) L1 (by simp)) s5 i5
  have r2 := around_W (FigW.two true false (by simp) (by simp) L2 L3 (by simp)) s5 i5
  have r3 := around_W (FigW.one true (by simp) L3 (by simp)) s5 i5
  obtain ⟨r4, e4, k4⟩ := area_W (FigW.two true false (by simp) (by simp) L2 L3 (by simp))
  simp only [List.length_cons, List.length_nil, Nat.reduceAdd] at r1 r2 r3 k4
  rw [box_round hx hy] at r1
  rw [two_round hx hy] at r2
  rw [back_round hx hy] at r3
  rw [area_two] at k4
  have w0 : IntKind.wrap .i64 (2 * 1) = 2 := w64 (by omega) (by omega)
  have w1 : IntKind.wrap .i64 (2 * 0) = 0 := w64 (by omega) (by omega)
  have w2 : IntKind.wrap .i64 (0 - 1) = -1 := w64 (by omega) (by omega)
  have w3 : IntKind.wrap .i64 (0 - 0) = 0 := w64 (by omega) (by omega)
  obtain ⟨f1, g1, k1⟩ := fmul_I four_I (i2f_I p2 (by omega)) (by omega)
  have hm := abs_mul_le (a := 4 * p2) (b := p3) (m := 4000000) (n := 1000000) (by omega) (by omega)
  obtain ⟨f2, g2, k2⟩ := fmul_I k1 (i2f_I p3 (by omega)) (by omega)
  have hf := feq_I k4 k2
  rw [decide_eq_true rfl] at hf
  have q1 : app 16 ([] : List (Nat × Nat)) [(i2f p0, i2f p1), (i2f (p0 + p2), i2f p1), (i2f (p0 + p2), i2f (p1 + p3)), (i2f p0, i2f (p1 + p3))] = some _ := app_some (by simp) (by simp)
  have q2 : app 16 (([] : List (Nat × Nat)) ++ [(i2f p0, i2f p1), (i2f (p0 + p2), i2f p1), (i2f (p0 + p2), i2f (p1 + p3)), (i2f p0, i2f (p1 + p3))]) [(i2f p0, i2f p1), (i2f (p0 + p2), i2f p1), (i2f (p0 + p2), i2f (p1 + p3)), (i2f p0, i2f (p1 + p3))] = some _ := app_some (by simp) (by simp)
  rw [q1, Option.bind_some, q2, Option.bind_some]
  simp only [List.nil_append, List.cons_append] at *
  simp only [r1, r2, r3, e4, g1, g2, hf, Option.bind_some, w0, w1, w2, w3]
  unfold bxS
  by_cases hin : p0 < p4 ∧ p4 < p0 + p2 ∧ p1 < p5 ∧ p5 < p1 + p3
  · obtain ⟨h1, h2, h3, h4⟩ := hin
    simp [h1, h2, h3, h4]
  · by_cases hout : p4 < p0 ∨ p0 + p2 < p4 ∨ p5 < p1 ∨ p1 + p3 < p5
    · have hb : ((((decide (p0 < p4)) && (decide (p4 < p0 + p2))) && (decide (p1 < p5))) && (decide (p5 < p1 + p3))) = false := by simp; omega
      have hc : ((((decide (p4 < p0)) || (decide (p0 + p2 < p4))) || (decide (p5 < p1))) || (decide (p1 + p3 < p5))) = true := by simp; omega
      simp only [if_neg hin, if_pos hout, hb, hc]; rfl
    · have hb : ((((decide (p0 < p4)) && (decide (p4 < p0 + p2))) && (decide (p1 < p5))) && (decide (p5 < p1 + p3))) = false := by simp; omega
      have hc : ((((decide (p4 < p0)) || (decide (p0 + p2 < p4))) || (decide (p5 < p1))) || (decide (p1 + p3 < p5))) = false := by simp; omega
      simp only [if_neg hin, if_neg hout, hb, hc]; rfl
end Go.Proofs.YtocfjohangcajaaDoor
