/- Area and Around on figures of whole numbers. No condition. -/
import Derived.Test.YtocfjohangcajaaDoorLar
set_option linter.unusedSimpArgs false
set_option linter.unusedVariables false
namespace Go.Proofs.YtocfjohangcajaaDoor
open Fl

/-! ## Figures and their whole numbers -/
abbrev FgW := List (List (Int × Int) × Bool)
structure FigW (f : List T_trace_Stroke) (L : FgW) : Prop where
  len : f.length = L.length
  st : ∀ (i : Nat) (h1 : i < f.length) (h2 : i < L.length), f[i].Spots ≠ [] ∧ SpL f[i].Spots L[i].1 ∧ f[i].Closed = L[i].2
  tot : lens f ≤ 500
  cnt : f.length ≤ 500
theorem FigW.fig {f : List T_trace_Stroke} {L : FgW} (H : FigW f L) : Fig f where
  st := fun i h => ⟨(H.st i h (by rw [← H.len]; exact h)).1, _, (H.st i h (by rw [← H.len]; exact h)).2.1⟩
  tot := H.tot
  len := H.cnt
theorem FigW.ne {f : List T_trace_Stroke} {L : FgW} (H : FigW f L) (i : Nat) (h1 : i < f.length) (h2 : i < L.length) : L[i].1 ≠ [] := by
  obtain ⟨h, h3, _⟩ := H.st i h1 h2
  intro h4
  have := h3.len
  rw [h4] at this
  exact h (List.eq_nil_of_length_eq_zero this)
theorem FigW.small {f : List T_trace_Stroke} {L : FgW} (H : FigW f L) (i : Nat) (h1 : i < f.length) (h2 : i < L.length) : L[i].1.length ≤ 500 := by
  rw [← (H.st i h1 h2).2.1.len]
  exact H.fig.small i h1

/-! ## Around -/
def arS (p : Int × Int) (n : Int) (x : List (Int × Int) × Bool) : Option Int := if x.2 then arF p x.1 n x.1.length else some n
def arT (p : Int × Int) (L : FgW) : Nat → Option Int
  | 0 => some 0
  | i + 1 => (arT p L i).bind fun n => arS p n (L.getD i ([], false))
theorem arT_b (p : Int × Int) (f : List T_trace_Stroke) (L : FgW) (H : FigW f L) : ∀ (i : Nat) (m : Int), i ≤ f.length → arT p L i = some m → -(lens (f.take i) : Int) ≤ m ∧ m ≤ (lens (f.take i) : Int)
  | 0, m, _, h => by simp only [arT] at h; injection h with h; subst h; simp [lens]
  | i + 1, m, hi, h => by
    simp only [arT] at h
    have h2 : i < L.length := by rw [← H.len]; omega
    cases ha : arT p L i with
    | none => rw [ha] at h; simp at h
    | some k =>
      have := arT_b p f L H i k (by omega) ha
      have ht := lens_take f i (by omega)
      have hs := (H.st i (by omega) h2).2.1.len
      rw [ha, Option.bind_some, show L.getD i ([], false) = L[i] by simp [List.getD, h2]] at h
      unfold arS at h
      split at h
      · have := arF_b p _ k _ m h
        omega
      · injection h with h; omega

/-- Around, at a right figure and a right spot. -/
theorem around_W {f : List T_trace_Stroke} {L : FgW} (H : FigW f L) {z : Nat × Nat} {p : Int × Int} (hz : Sp z p) (hp : InB p) :
    F_trace_Around f z = some (match arT p L L.length with | some m => (m, false, 0) | none => (0, true, 0)) := by
  have hlen := H.len
  have hcnt := H.cnt
  have htot := H.tot
  have mono : ∀ j i : Nat, arT p L i = none → arT p L (i + j) = none := by
    intro j
    induction j with
    | zero => intro i h; exact h
    | succ j ih => intro i h; rw [← Nat.add_assoc, arT, ih i h]; rfl
  obtain ⟨o, h1, h2⟩ := iter_spec (b := F_trace_Around_l0 f z) (fun i x => ∃ m, arT p L i = some m ∧ x = (m, (i : Int)))
    (fun o => o = match arT p L L.length with | some m => .inl m | none => .inr ((0 : Int), true, (0 : Int))) f.length (x0 := ((0 : Int), (0 : Int))) ⟨0, rfl, rfl⟩
    (fun i x rec hi ⟨m, hm, hx⟩ => by
      subst hx
      have hi' : i < L.length := by omega
      obtain ⟨hne, hsp, hcl⟩ := H.st i hi hi'
      have hmb := arT_b p f L H i m (by omega) hm
      have hle := lens_le f i
      have hstep : arT p L (i + 1) = arS p m L[i] := by rw [arT, hm, Option.bind_some, show L.getD i ([], false) = L[i] by simp [List.getD, hi']]
      have hb : F_trace_Around_l0 f z rec (m, (i : Int)) = match arS p m L[i] with | none => some (.inr ((0 : Int), true, (0 : Int))) | some d => rec (d, ((i + 1 : Nat) : Int)) := by
        unfold F_trace_Around_l0
        simp only [letJ]
        rw [decide_eq_true (by omega), cond_true, idx_some hi, Option.bind_some, w64 (x := (i : Int) + 1) (by omega) (by omega)]
        unfold arS
        cases hc : L[i].2 with
        | true =>
          rw [if_pos rfl, around_l1 hz hp f[i] hsp (H.ne i hi hi') (H.small i hi hi') (by rw [hcl, hc]) m (by omega), Option.bind_some]
          cases arF p L[i].1 m L[i].1.length <;> simp
        | false =>
          rw [if_neg (by simp), around_l1_open f[i] hne (by rw [hcl, hc]) m, Option.bind_some]
          simp
      cases he : arS p m L[i] with
      | none =>
        right
        rw [he] at hb hstep
        refine ⟨_, hb, ?_⟩
        have := mono (L.length - (i + 1)) (i + 1) hstep
        rw [show i + 1 + (L.length - (i + 1)) = L.length by omega] at this
        rw [this]
      | some d =>
        left
        rw [he] at hb hstep
        exact ⟨_, hb, d, hstep, rfl⟩)
    (fun x rec ⟨m, hm, hx⟩ => ⟨.inl m, by
      subst hx
      unfold F_trace_Around_l0
      simp only [letJ]
      rw [decide_eq_false (by omega), cond_false], by rw [← hlen, hm]⟩) (n := FUEL) (by unfold FUEL; omega)
  unfold F_trace_Around
  rw [right_ok H.fig, Option.bind_some]
  simp only [letJ, Bool.not_true, cond_false, spot_in hz hp, Option.bind_some, h1, h2]
  cases arT p L L.length <;> rfl

/-! ## Area -/
def aF (ps : List (Int × Int)) (s : Int) : Nat → Int
  | 0 => s
  | i + 1 => aF ps s i + crs (ps.getD i (0, 0)) (ps.getD ((i + 1) % ps.length) (0, 0))
theorem crs_b {a b : Int × Int} (ha : InB a) (hb : InB b) : (crs a b).natAbs ≤ 2000000000000 := by
  obtain ⟨a1, a2, a3, a4⟩ := ha
  obtain ⟨b1, b2, b3, b4⟩ := hb
  have m1 := abs_mul_le (a := a.1) (b := b.2) (m := 1000000) (n := 1000000) (by omega) (by omega)
  have m2 := abs_mul_le (a := a.2) (b := b.1) (m := 1000000) (n := 1000000) (by omega) (by omega)
  unfold crs
  omega
theorem aF_b {ps : List (Int × Int)} (H : ∀ p ∈ ps, InB p) (hne : ps ≠ []) (s : Int) : ∀ i : Nat, i ≤ ps.length → (aF ps s i - s).natAbs ≤ i * 2000000000000
  | 0, _ => by simp [aF]
  | i + 1, h => by
    have ih := aF_b H hne s i (by omega)
    have hl0 : ps.length ≠ 0 := fun h => hne (List.eq_nil_of_length_eq_zero h)
    have hi : i < ps.length := by omega
    have hj : (i + 1) % ps.length < ps.length := Nat.mod_lt _ (by omega)
    have ga : ps.getD i (0, 0) = ps[i] := by simp [List.getD, hi]
    have gb : ps.getD ((i + 1) % ps.length) (0, 0) = ps[(i + 1) % ps.length] := by simp [List.getD, hj]
    have := crs_b (H ps[i] (List.getElem_mem _)) (H ps[(i + 1) % ps.length] (List.getElem_mem _))
    rw [aF, ga, gb]
    omega

theorem area_l1 (t : T_trace_Stroke) {ps : List (Int × Int)} (H : SpL t.Spots ps) (hne : ps ≠ []) (hl : ps.length ≤ 500) (hc : t.Closed = true) {a : Nat} {s : Int} (ha : isI a s) (hs : s.natAbs ≤ 1000000000000000) :
    ∃ r, iter (F_trace_Area_l1 t) FUEL (a, (0 : Int)) = some r ∧ isI r (aF ps s ps.length) := by
  have hL : t.Spots.length = ps.length := H.len
  have hl0 : ps.length ≠ 0 := fun h => hne (List.eq_nil_of_length_eq_zero h)
  obtain ⟨o, h1, h2⟩ := iter_spec (b := F_trace_Area_l1 t) (fun i x => ∃ r, isI r (aF ps s i) ∧ x = (r, (i : Int)))
    (fun o => isI o (aF ps s ps.length)) ps.length (x0 := (a, (0 : Int))) ⟨a, ha, rfl⟩
    (fun i x rec hi ⟨r, hr, hx⟩ => by
      subst hx
      have hi' : i < t.Spots.length := by omega
      have hj : (i + 1) % ps.length < ps.length := Nat.mod_lt _ (by omega)
      have hj' : (i + 1) % ps.length < t.Spots.length := by omega
      have ia := H.inb ps[i] (List.getElem_mem _)
      have ib := H.inb ps[(i + 1) % ps.length] (List.getElem_mem _)
      obtain ⟨a1, a2, a3, a4⟩ := ia
      obtain ⟨b1, b2, b3, b4⟩ := ib
      have hb1 := aF_b H.inb hne s i (by omega)
      have hb2 := aF_b H.inb hne s (i + 1) (by omega)
      have ga : ps.getD i (0, 0) = ps[i] := by simp [List.getD, hi]
      have gb : ps.getD ((i + 1) % ps.length) (0, 0) = ps[(i + 1) % ps.length] := by simp [List.getD, hj]
      have hstep : aF ps s (i + 1) = aF ps s i + crs ps[i] ps[(i + 1) % ps.length] := by rw [aF, ga, gb]
      have sa := H.sp i hi' hi
      have sb := H.sp _ hj' hj
      obtain ⟨rc, e3, sc⟩ := cross_I sa sb (by omega) (by omega) (by omega) (by omega)
      obtain ⟨r9, e9, s9⟩ := fadd_I hr sc (by rw [← hstep]; omega)
      left
      refine ⟨(r9, ((i + 1 : Nat) : Int)), ?_, r9, by rw [hstep]; exact s9, rfl⟩
      unfold F_trace_Area_l1
      simp only [letJ]
      rw [decide_eq_true (by omega), cond_true, idx_some hi', Option.bind_some, hc, cond_true, hL, nzI_some hl0, Option.bind_some, w64 (x := (i : Int) + 1) (by omega) (by omega)]
      rw [show ((i : Int) + 1) = ((i + 1 : Nat) : Int) by omega, tmod_nat, idx_some hj', Option.bind_some, e3, Option.bind_some, e9, Option.bind_some])
    (fun x rec ⟨r, hr, hx⟩ => ⟨r, by
      subst hx
      unfold F_trace_Area_l1
      simp only [letJ]
      rw [decide_eq_false (by omega), cond_false], hr⟩) (n := FUEL) (by unfold FUEL; omega)
  exact ⟨o, h1, h2⟩
theorem area_l1_open (t : T_trace_Stroke) (hl : t.Spots.length ≤ 500) (hc : t.Closed = false) (a : Nat) : iter (F_trace_Area_l1 t) FUEL (a, (0 : Int)) = some a := by
  obtain ⟨o, h1, h2⟩ := iter_spec (b := F_trace_Area_l1 t) (fun i x => x = (a, (i : Int))) (fun o => o = a) t.Spots.length (x0 := (a, (0 : Int))) rfl
    (fun i x rec hi hx => .inl ⟨(a, ((i + 1 : Nat) : Int)), by
      subst hx
      unfold F_trace_Area_l1
      simp only [letJ]
      rw [decide_eq_true (by omega), cond_true, idx_some hi, Option.bind_some, hc, cond_false, w64 (x := (i : Int) + 1) (by omega) (by omega)]; rfl, rfl⟩)
    (fun x rec hx => ⟨a, by
      subst hx
      unfold F_trace_Area_l1
      simp only [letJ]
      rw [decide_eq_false (by omega), cond_false], rfl⟩) (n := FUEL) (by unfold FUEL; omega)
  rw [h1, h2]

def aS (s : Int) (x : List (Int × Int) × Bool) : Int := if x.2 then aF x.1 s x.1.length else s
def aT (L : FgW) : Nat → Int
  | 0 => 0
  | i + 1 => aS (aT L i) (L.getD i ([], false))
theorem aT_b (f : List T_trace_Stroke) (L : FgW) (H : FigW f L) : ∀ (i : Nat), i ≤ f.length → (aT L i).natAbs ≤ lens (f.take i) * 2000000000000
  | 0, _ => by simp [aT]
  | i + 1, hi => by
    have h2 : i < L.length := by rw [← H.len]; omega
    have ih := aT_b f L H i (by omega)
    have ht := lens_take f i (by omega)
    obtain ⟨hne, hsp, hcl⟩ := H.st i (by omega) h2
    have hs := hsp.len
    rw [aT, show L.getD i ([], false) = L[i] by simp [List.getD, h2], ht]
    unfold aS
    split
    · have := aF_b hsp.inb (H.ne i (by omega) h2) (aT L i) _ (Nat.le_refl _)
      rw [hs]
      omega
    · exact Nat.le_trans ih (Nat.mul_le_mul_right _ (Nat.le_add_right _ _))
/-- Area, at a right figure. -/
theorem area_W {f : List T_trace_Stroke} {L : FgW} (H : FigW f L) : ∃ r, F_trace_Area f = some (r, 0) ∧ isI r (aT L L.length) := by
  have hlen := H.len
  have hcnt := H.cnt
  have htot := H.tot
  obtain ⟨o, h1, h2⟩ := iter_spec (b := F_trace_Area_l0 f) (fun i x => ∃ r, isI r (aT L i) ∧ x = (r, (i : Int)))
    (fun o => isI o (aT L L.length)) f.length (x0 := ((0 : Nat), (0 : Int))) ⟨0, zero_I, rfl⟩
    (fun i x rec hi ⟨r, hr, hx⟩ => by
      subst hx
      have hi' : i < L.length := by omega
      obtain ⟨hne, hsp, hcl⟩ := H.st i hi hi'
      have hb := aT_b f L H i (by omega)
      have hle := lens_le f i
      have hstep : aT L (i + 1) = aS (aT L i) L[i] := by rw [aT, show L.getD i ([], false) = L[i] by simp [List.getD, hi']]
      left
      have hsm := H.small i hi hi'
      have key : ∃ r2, iter (F_trace_Area_l1 f[i]) FUEL (r, (0 : Int)) = some r2 ∧ isI r2 (aT L (i + 1)) := by
        rw [hstep]
        unfold aS
        cases hc : L[i].2 with
        | true =>
          rw [if_pos rfl]
          exact area_l1 f[i] hsp (H.ne i hi hi') hsm (by rw [hcl, hc]) hr (by omega)
        | false =>
          rw [if_neg (by simp)]
          exact ⟨r, area_l1_open f[i] (by rw [hsp.len]; exact hsm) (by rw [hcl, hc]) r, hr⟩
      obtain ⟨r2, e2, s2⟩ := key
      refine ⟨(r2, ((i + 1 : Nat) : Int)), ?_, r2, s2, rfl⟩
      unfold F_trace_Area_l0
      simp only [letJ]
      rw [decide_eq_true (by omega), cond_true, idx_some hi, Option.bind_some, w64 (x := (i : Int) + 1) (by omega) (by omega), e2, Option.bind_some]; rfl)
    (fun x rec ⟨r, hr, hx⟩ => ⟨r, by
      subst hx
      unfold F_trace_Area_l0
      simp only [letJ]
      rw [decide_eq_false (by omega), cond_false], by rw [← hlen]; exact hr⟩) (n := FUEL) (by unfold FUEL; omega)
  refine ⟨o, ?_, h2⟩
  unfold F_trace_Area
  rw [right_ok H.fig, Option.bind_some]
  simp only [letJ, Bool.not_true, cond_false, h1, Option.bind_some]
end Go.Proofs.YtocfjohangcajaaDoor
