/- What Area and Around compute, in whole numbers. No condition. -/
import Derived.Test.YtocfjohangcajaaDoorFw
set_option linter.unusedSimpArgs false
set_option linter.unusedVariables false
namespace Go.Proofs.YtocfjohangcajaaDoor
open Fl

/-- A spot within the limits. -/
def InB (p : Int × Int) : Prop := -1000000 ≤ p.1 ∧ p.1 ≤ 1000000 ∧ -1000000 ≤ p.2 ∧ p.2 ≤ 1000000
theorem spot_in {z : Nat × Nat} {p : Int × Int} (h : Sp z p) (hb : InB p) : F_trace_spot z = some true := by
  obtain ⟨b1, b2, b3, b4⟩ := hb
  rw [spot_I h (by omega) (by omega)]
  unfold inB
  rw [decide_eq_true b1, decide_eq_true b2, decide_eq_true b3, decide_eq_true b4]; rfl
/-- Spots and their whole numbers. -/
structure SpL (zs : List (Nat × Nat)) (ps : List (Int × Int)) : Prop where
  len : zs.length = ps.length
  sp : ∀ (i : Nat) (h1 : i < zs.length) (h2 : i < ps.length), Sp zs[i] ps[i]
  inb : ∀ p ∈ ps, InB p
theorem SpL.good {zs : List (Nat × Nat)} {ps : List (Int × Int)} (H : SpL zs ps) (i : Nat) (h : i < zs.length) : F_trace_spot zs[i] = some true :=
  spot_in (H.sp i h (by rw [← H.len]; exact h)) (H.inb _ (List.getElem_mem _))

theorem contains_no {zs : List (Nat × Nat)} {ps : List (Int × Int)} (H : SpL zs ps) (hl : zs.length ≤ 1000000) : F_slices_ContainsFunc_complex128_complex128 zs F_trace_right_1 = some false := by
  unfold F_slices_ContainsFunc_complex128_complex128 F_slices_IndexFunc_complex128_complex128
  obtain ⟨o, h1, h2⟩ := iter_spec (b := F_slices_IndexFunc_complex128_complex128_l0 zs F_trace_right_1) (fun i x => x = (i : Int)) (fun o => o = .inl ()) zs.length (x0 := (0 : Int)) rfl
    (fun i x rec hi hx => .inl ⟨((i + 1 : Nat) : Int), by
      subst hx
      unfold F_slices_IndexFunc_complex128_complex128_l0
      rw [decide_eq_true (by omega), cond_true, idx_some hi, Option.bind_some]
      simp only [F_trace_right_1, H.good i hi, Option.bind_some, Bool.not_true, cond_false]
      rw [w64 (by omega) (by omega)]; rfl, rfl⟩)
    (fun x rec hx => ⟨.inl (), by
      subst hx
      unfold F_slices_IndexFunc_complex128_complex128_l0
      rw [decide_eq_false (by omega), cond_false], rfl⟩) (n := FUEL) (by unfold FUEL; omega)
  simp only [letJ, h1, h2, Option.bind_some]; rfl

def lens (f : List T_trace_Stroke) : Nat := (f.map fun t => t.Spots.length).sum
theorem lens_take (f : List T_trace_Stroke) (i : Nat) (h : i < f.length) : lens (f.take (i + 1)) = lens (f.take i) + f[i].Spots.length := by
  unfold lens
  rw [List.take_add_one, List.getElem?_eq_getElem h, Option.toList_some, List.map_append, List.sum_append]; simp
theorem lens_le (f : List T_trace_Stroke) (i : Nat) : lens (f.take i) ≤ lens f := by
  conv => rhs; rw [← List.take_append_drop i f]
  unfold lens
  rw [List.map_append, List.sum_append]; omega
/-- A right figure of whole numbers. -/
structure Fig (f : List T_trace_Stroke) : Prop where
  st : ∀ (i : Nat) (h : i < f.length), f[i].Spots ≠ [] ∧ ∃ ps, SpL f[i].Spots ps
  tot : lens f ≤ 500
  len : f.length ≤ 500
theorem Fig.small {f : List T_trace_Stroke} (H : Fig f) (i : Nat) (h : i < f.length) : f[i].Spots.length ≤ 500 := by
  have h1 := lens_take f i h
  have h2 := lens_le f (i + 1)
  have := H.tot; omega
theorem right_ok {f : List T_trace_Stroke} (H : Fig f) : F_trace_right f = some true := by
  have hlen := H.len
  have htot := H.tot
  unfold F_trace_right
  obtain ⟨o, h1, h2⟩ := iter_spec (b := F_trace_right_l0 f) (fun i x => x = ((lens (f.take i) : Int), (i : Int))) (fun o => o = .inl (lens f : Int)) f.length (x0 := ((0 : Int), (0 : Int))) (by simp [lens])
    (fun i x rec hi hx => .inl ⟨((lens (f.take (i + 1)) : Int), ((i + 1 : Nat) : Int)), by
      subst hx
      obtain ⟨hne, ps, hsp⟩ := H.st i hi
      have hs := H.small i hi
      have hz : (f[i].Spots.length : Int) ≠ 0 := by
        have : f[i].Spots.length ≠ 0 := fun h => hne (List.eq_nil_of_length_eq_zero h)
        omega
      have hb : ((f[i].Spots.length : Int) == 0) = false := by simpa using hz
      have hle := lens_le f i
      unfold F_trace_right_l0
      simp only [letJ]
      rw [decide_eq_true (by omega), cond_true, idx_some hi, Option.bind_some]
      rw [hb, cond_false, contains_no hsp (by omega), Option.bind_some, cond_false, w64 (x := (lens (f.take i) : Int) + _) (by omega) (by omega), w64 (x := (i : Int) + 1) (by omega) (by omega), lens_take f i hi]
      simp, rfl⟩)
    (fun x rec hx => ⟨.inl (lens f : Int), by
      subst hx
      unfold F_trace_right_l0
      simp only [letJ]
      rw [decide_eq_false (by omega), cond_false, List.take_length], rfl⟩) (n := FUEL) (by unfold FUEL; omega)
  simp only [letJ, h1, h2, Option.bind_some]
  rw [decide_eq_true (by omega)]

/-! ## Around -/
/-- What an edge does: none: the spot is on it; else how often it is gone round by it. -/
def edg (p a b : Int × Int) : Option Int :=
  if crs (a.1 - p.1, a.2 - p.2) (b.1 - p.1, b.2 - p.2) = 0 ∧ (a.1 - p.1) * (b.1 - p.1) ≤ 0 ∧ (a.2 - p.2) * (b.2 - p.2) ≤ 0 then none
  else if a.2 - p.2 ≤ 0 ∧ 0 < b.2 - p.2 ∧ 0 < crs (a.1 - p.1, a.2 - p.2) (b.1 - p.1, b.2 - p.2) then some 1
  else if 0 < a.2 - p.2 ∧ b.2 - p.2 ≤ 0 ∧ crs (a.1 - p.1, a.2 - p.2) (b.1 - p.1, b.2 - p.2) < 0 then some (-1)
  else some 0
theorem edg_b {p a b : Int × Int} {d : Int} (h : edg p a b = some d) : -1 ≤ d ∧ d ≤ 1 := by
  unfold edg at h
  split at h
  · simp at h
  · split at h
    · injection h with h; omega
    · split at h <;> (injection h with h; omega)
/-- The first i edges. -/
def arF (p : Int × Int) (ps : List (Int × Int)) (n : Int) : Nat → Option Int
  | 0 => some n
  | i + 1 => (arF p ps n i).bind fun m => (edg p (ps.getD i (0, 0)) (ps.getD ((i + 1) % ps.length) (0, 0))).map (m + ·)
theorem arF_b (p : Int × Int) (ps : List (Int × Int)) (n : Int) : ∀ (i : Nat) (m : Int), arF p ps n i = some m → n - i ≤ m ∧ m ≤ n + i
  | 0, m, h => by simp only [arF] at h; injection h with h; omega
  | i + 1, m, h => by
    simp only [arF] at h
    cases ha : arF p ps n i with
    | none => rw [ha] at h; simp at h
    | some k =>
      have := arF_b p ps n i k ha
      rw [ha] at h
      simp only [Option.bind_some] at h
      cases he : edg p (ps.getD i (0, 0)) (ps.getD ((i + 1) % ps.length) (0, 0)) with
      | none => rw [he] at h; simp at h
      | some d =>
        have := edg_b he
        rw [he] at h
        simp at h
        omega

theorem tmod_nat (a b : Nat) : ((a : Int).tmod (b : Int)) = ((a % b : Nat) : Int) := by
  rw [Int.tmod_eq_emod_of_nonneg (by omega)]; simp

theorem nzI_some {n : Nat} (h : n ≠ 0) : nzI (n : Int) = some (n : Int) := by unfold nzI; rw [if_neg (by omega)]
theorem around_l1 {z : Nat × Nat} {p : Int × Int} (hz : Sp z p) (hp : InB p) (t : T_trace_Stroke) {ps : List (Int × Int)} (H : SpL t.Spots ps) (hne : ps ≠ []) (hl : ps.length ≤ 500) (hc : t.Closed = true) (n : Int) (hn : -1000000 ≤ n ∧ n ≤ 1000000) :
    iter (F_trace_Around_l1 z t) FUEL (n, (0 : Int)) = some (match arF p ps n ps.length with | some m => .inl m | none => .inr ((0 : Int), true, (0 : Int))) := by
  have hL : t.Spots.length = ps.length := H.len
  have hl0 : ps.length ≠ 0 := fun h => hne (List.eq_nil_of_length_eq_zero h)
  have mono : ∀ j i : Nat, arF p ps n i = none → arF p ps n (i + j) = none := by
    intro j
    induction j with
    | zero => intro i h; exact h
    | succ j ih => intro i h; rw [← Nat.add_assoc, arF, ih i h]; rfl
  obtain ⟨o, h1, h2⟩ := iter_spec (b := F_trace_Around_l1 z t) (fun i x => ∃ m, arF p ps n i = some m ∧ x = (m, (i : Int)))
    (fun o => o = match arF p ps n ps.length with | some m => .inl m | none => .inr ((0 : Int), true, (0 : Int))) ps.length (x0 := (n, (0 : Int))) ⟨n, rfl, rfl⟩
    (fun i x rec hi ⟨m, hm, hx⟩ => by
      subst hx
      have hi' : i < t.Spots.length := by omega
      have hj : (i + 1) % ps.length < ps.length := Nat.mod_lt _ (by omega)
      have hj' : (i + 1) % ps.length < t.Spots.length := by omega
      obtain ⟨p1, p2, p3, p4⟩ := hp
      obtain ⟨a1, a2, a3, a4⟩ := H.inb ps[i] (List.getElem_mem _)
      obtain ⟨b1, b2, b3, b4⟩ := H.inb ps[(i + 1) % ps.length] (List.getElem_mem _)
      have hmb := arF_b p ps n i m hm
      have ga : ps.getD i (0, 0) = ps[i] := by simp [List.getD, hi]
      have gb : ps.getD ((i + 1) % ps.length) (0, 0) = ps[(i + 1) % ps.length] := by simp [List.getD, hj]
      have hstep : arF p ps n (i + 1) = (edg p ps[i] ps[(i + 1) % ps.length]).map (m + ·) := by rw [arF, hm, ga, gb]; rfl
      have sa := H.sp i hi' hi
      have sb := H.sp _ hj' hj
      generalize ps[i] = A at *
      generalize ps[(i + 1) % ps.length] = B at *
      obtain ⟨ru, e1, su⟩ := csub_I sa hz (by omega) (by omega)
      obtain ⟨rv, e2, sv⟩ := csub_I sb hz (by omega) (by omega)
      obtain ⟨rc, e3, sc⟩ := cross_I su sv (by simp only; omega) (by simp only; omega) (by simp only; omega) (by simp only; omega)
      have m1 := abs_mul_le (a := A.1 - p.1) (b := B.1 - p.1) (m := 2000000) (n := 2000000) (by omega) (by omega)
      have m2 := abs_mul_le (a := A.2 - p.2) (b := B.2 - p.2) (m := 2000000) (n := 2000000) (by omega) (by omega)
      obtain ⟨r7, e7, s7⟩ := fmul_I su.1 sv.1 (by simp only; omega)
      obtain ⟨r8, e8, s8⟩ := fmul_I su.2 sv.2 (by simp only; omega)
      have hb : F_trace_Around_l1 z t rec (m, (i : Int)) = match edg p A B with | none => some (.inr ((0 : Int), true, (0 : Int))) | some d => rec (m + d, ((i + 1 : Nat) : Int)) := by
        unfold F_trace_Around_l1
        simp only [letJ]
        rw [decide_eq_true (by omega), cond_true, idx_some hi', Option.bind_some, hc, Bool.not_true, cond_false, e1, Option.bind_some, hL, nzI_some hl0, Option.bind_some, w64 (x := (i : Int) + 1) (by omega) (by omega)]
        rw [show ((i : Int) + 1) = ((i + 1 : Nat) : Int) by omega, tmod_nat, idx_some hj', Option.bind_some, e2, Option.bind_some, e3, Option.bind_some]
        simp only [e7, e8, Option.bind_some, feq_I sc zero_I, fle_I s7 zero_I, fle_I s8 zero_I, fle_I su.2 zero_I, fgt_I sv.2 zero_I, fgt_I sc zero_I, fgt_I su.2 zero_I, fle_I sv.2 zero_I, flt_I sc zero_I]
        rw [w64 (x := m + 1) (by omega) (by omega), w64 (x := m - 1) (by omega) (by omega)]
        unfold edg
        generalize crs (A.1 - p.1, A.2 - p.2) (B.1 - p.1, B.2 - p.2) = C
        generalize (A.1 - p.1) * (B.1 - p.1) = M1
        generalize (A.2 - p.2) * (B.2 - p.2) = M2
        generalize A.2 - p.2 = Y1
        generalize B.2 - p.2 = Y2
        by_cases c1 : C = 0
        · have n1 : ¬ 0 < C := by omega
          have n2 : ¬ C < 0 := by omega
          by_cases c2 : M1 ≤ 0
          · by_cases c3 : M2 ≤ 0
            · simp [c1, c2, c3]
            · simp [c1, c2, c3]
          · simp [c1, c2]
        · by_cases c4 : Y1 ≤ 0
          · have c4' : ¬ 0 < Y1 := by omega
            by_cases c5 : 0 < Y2
            · by_cases c6 : 0 < C
              · simp [c1, c4, c5, c6]
              · simp [c1, c4, c4', c5, c6]
            · simp [c1, c4, c4', c5]
          · have c4' : 0 < Y1 := by omega
            by_cases c5 : Y2 ≤ 0
            · by_cases c6 : C < 0
              · simp [c1, c4, c4', c5, c6]; rfl
              · simp [c1, c4, c4', c5, c6]
            · simp [c1, c4, c4', c5]
      cases he : edg p A B with
      | none =>
        right
        rw [he] at hb hstep
        refine ⟨_, hb, ?_⟩
        have hno : arF p ps n (i + 1) = none := hstep
        have := mono (ps.length - (i + 1)) (i + 1) hno
        rw [show i + 1 + (ps.length - (i + 1)) = ps.length by omega] at this
        rw [this]
      | some d =>
        left
        rw [he] at hb hstep
        exact ⟨_, hb, m + d, hstep, rfl⟩)
    (fun x rec ⟨m, hm, hx⟩ => ⟨.inl m, by
      subst hx
      unfold F_trace_Around_l1
      simp only [letJ]
      rw [decide_eq_false (by omega), cond_false], by rw [hm]⟩) (n := FUEL) (by unfold FUEL; omega)
  rw [h1, h2]
/-- A stroke that is not closed. -/
theorem around_l1_open {z : Nat × Nat} (t : T_trace_Stroke) (hne : t.Spots ≠ []) (hc : t.Closed = false) (n : Int) : iter (F_trace_Around_l1 z t) FUEL (n, (0 : Int)) = some (.inl n) := by
  have hl0 : 0 < t.Spots.length := List.length_pos_iff.2 hne
  have hF : FUEL = (FUEL - 1) + 1 := by unfold FUEL; rfl
  rw [hF]
  show F_trace_Around_l1 z t (iter (F_trace_Around_l1 z t) (FUEL - 1)) (n, (0 : Int)) = _
  unfold F_trace_Around_l1
  simp only [letJ]
  rw [decide_eq_true (by omega), cond_true, show (0 : Int) = ((0 : Nat) : Int) from rfl, idx_some hl0, Option.bind_some, hc]; rfl
end Go.Proofs.YtocfjohangcajaaDoor
