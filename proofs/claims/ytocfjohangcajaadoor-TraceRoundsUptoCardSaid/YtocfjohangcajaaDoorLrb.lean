/- TraceRounds: the reference's Around and Area, and the law. No condition. -/
import Derived.Test.YtocfjohangcajaaDoorLmb
set_option linter.unusedSimpArgs false
set_option linter.unusedVariables false
namespace Go.Proofs.YtocfjohangcajaaDoor
open Fl

/-! ## Quarters -/
def Qf (x y : Int) : Int := if 0 < x ∧ 0 ≤ y then 0 else if x ≤ 0 ∧ 0 < y then 1 else if x < 0 then 2 else 3
def psi (x y : Int) : Int := if y = 0 ∧ 0 < x then 4 else Qf x y
theorem Qf_cases (x y : Int) : (Qf x y = 0 ∧ 0 < x ∧ 0 ≤ y) ∨ (Qf x y = 1 ∧ x ≤ 0 ∧ 0 < y) ∨ (Qf x y = 2 ∧ x < 0 ∧ y ≤ 0) ∨ (Qf x y = 3 ∧ 0 ≤ x ∧ y < 0) ∨ (Qf x y = 3 ∧ x = 0 ∧ y = 0) := by
  unfold Qf; omega
theorem psi_b (x y : Int) : 0 ≤ psi x y ∧ psi x y ≤ 4 := by
  unfold psi Qf; omega
/-- One edge's quarters. -/
def qTurn (qa qb c : Int) : Int := if (qb - qa + 4) % 4 = 3 ∨ ((qb - qa + 4) % 4 = 2 ∧ c < 0) then (qb - qa + 4) % 4 - 4 else (qb - qa + 4) % 4
theorem on_ref {A B : Int × Int} : onE A B ↔ ((A.1 = 0 ∧ A.2 = 0) ∨ (B.1 = 0 ∧ B.2 = 0)) ∨ (crs A B = 0 ∧ A.1 * B.1 + A.2 * B.2 < 0) := by
  unfold onE crs
  have t1 := tri A.1 B.2
  have t2 := tri A.2 B.1
  have t3 := tri A.1 B.1
  have t4 := tri A.2 B.2
  generalize A.1 * B.2 = P1 at *
  generalize A.2 * B.1 = P2 at *
  generalize A.1 * B.1 = P3 at *
  generalize A.2 * B.2 = P4 at *
  rcases t1 with t1 | t1 | t1 | t1 | t1 | t1 | t1 | t1 | t1 <;> rcases t2 with t2 | t2 | t2 | t2 | t2 | t2 | t2 | t2 | t2 <;> omega
set_option maxHeartbeats 8000000 in
theorem core_q (x1 y1 x2 y2 : Int) (hA : ¬ (x1 = 0 ∧ y1 = 0)) (hB : ¬ (x2 = 0 ∧ y2 = 0)) (hN : x1 * y2 - y1 * x2 = 0 → ¬ (x1 * x2 ≤ 0 ∧ y1 * y2 ≤ 0)) :
    qTurn (Qf x1 y1) (Qf x2 y2) (x1 * y2 - y1 * x2) = 4 * dEd y1 y2 (x1 * y2 - y1 * x2) + psi x2 y2 - psi x1 y1 := by
  have hN' := zn_N hN
  clear hN
  have t1 := tri x1 y2
  have t2 := tri y1 x2
  have qa := Qf_cases x1 y1
  have qb := Qf_cases x2 y2
  unfold psi
  generalize x1 * y2 = P3 at *
  generalize y1 * x2 = P4 at *
  generalize Qf x1 y1 = q1 at *
  generalize Qf x2 y2 = q2 at *
  unfold qTurn dEd
  rcases qa with qa | qa | qa | qa | qa <;> rcases qb with qb | qb | qb | qb | qb <;> (obtain ⟨rfl, qa⟩ := qa; obtain ⟨rfl, qb⟩ := qb; rcases t1 with t1 | t1 | t1 | t1 | t1 | t1 | t1 | t1 | t1 <;> first | (exfalso; omega) | (rcases t2 with t2 | t2 | t2 | t2 | t2 | t2 | t2 | t2 | t2 <;> omega))

/-! ## The reference's Around -/
theorem quarter_eq (z : T_lecternref10_Spot) : F_lecternref10_quarter z = some (Qf z.X z.Y) := by
  unfold F_lecternref10_quarter Qf
  by_cases h1 : 0 < z.X ∧ 0 ≤ z.Y
  · rw [if_pos h1, decide_eq_true h1.1, decide_eq_true h1.2]; rfl
  · rw [if_neg h1]
    have e1 : (decide (0 < z.X) && decide (0 ≤ z.Y)) = false := by simp only [Bool.and_eq_false_iff, decide_eq_false_iff_not]; omega
    rw [e1, cond_false]
    by_cases h2 : z.X ≤ 0 ∧ 0 < z.Y
    · rw [if_pos h2, decide_eq_true h2.1, decide_eq_true h2.2]; rfl
    · rw [if_neg h2]
      have e2 : (decide (z.X ≤ 0) && decide (0 < z.Y)) = false := by simp only [Bool.and_eq_false_iff, decide_eq_false_iff_not]; omega
      rw [e2, cond_false]
      by_cases h3 : z.X < 0
      · rw [if_pos h3, decide_eq_true h3]; rfl
      · rw [if_neg h3, decide_eq_false h3]; rfl
theorem Qf_b (x y : Int) : 0 ≤ Qf x y ∧ Qf x y ≤ 3 := by unfold Qf; omega
def psiV (A : Int × Int) : Int := psi A.1 A.2
set_option maxHeartbeats 2000000 in
/-- One edge, in the reference's words. -/
theorem edge_step {A B : Int × Int} (hA : A.1.natAbs ≤ 2000000 ∧ A.2.natAbs ≤ 2000000) (hB : B.1.natAbs ≤ 2000000 ∧ B.2.natAbs ≤ 2000000) (a : Int) (ha : a.natAbs ≤ 1000000) (F : Int → Option (Int ⊕ (Int × Bool))) (R : Option (Int ⊕ (Int × Bool))) :
    ((F_lecternref10_Cross ⟨A.1, A.2⟩ ⟨B.1, B.2⟩).bind fun c =>
      cond (((A.1 == 0) && ((A.2 == 0) && true)) || ((B.1 == 0) && ((B.2 == 0) && true)) || ((c == 0) && decide (IntKind.wrap .i64 (IntKind.wrap .i64 (A.1 * B.1) + IntKind.wrap .i64 (A.2 * B.2)) < 0))) R
        ((F_lecternref10_quarter ⟨B.1, B.2⟩).bind fun qb => (F_lecternref10_quarter ⟨A.1, A.2⟩).bind fun qa =>
          cond (((Int.tmod (IntKind.wrap .i64 (IntKind.wrap .i64 (qb - qa) + 4)) 4) == 3) || (((Int.tmod (IntKind.wrap .i64 (IntKind.wrap .i64 (qb - qa) + 4)) 4) == 2) && decide (c < 0)))
            (F (IntKind.wrap .i64 (a + IntKind.wrap .i64 (Int.tmod (IntKind.wrap .i64 (IntKind.wrap .i64 (qb - qa) + 4)) 4 - 4))))
            (F (IntKind.wrap .i64 (a + Int.tmod (IntKind.wrap .i64 (IntKind.wrap .i64 (qb - qa) + 4)) 4)))))
      = if onE A B then R else F (a + (4 * dEd A.2 B.2 (crs A B) + psiV B - psiV A)) := by
  have m1 := abs_mul_le (a := A.1) (b := B.2) (m := 2000000) (n := 2000000) hA.1 hB.2
  have m2 := abs_mul_le (a := A.2) (b := B.1) (m := 2000000) (n := 2000000) hA.2 hB.1
  have m3 := abs_mul_le (a := A.1) (b := B.1) (m := 2000000) (n := 2000000) hA.1 hB.1
  have m4 := abs_mul_le (a := A.2) (b := B.2) (m := 2000000) (n := 2000000) hA.2 hB.2
  have hc : F_lecternref10_Cross ⟨A.1, A.2⟩ ⟨B.1, B.2⟩ = some (crs A B) := by
    unfold F_lecternref10_Cross crs
    dsimp only
    rw [w64 (x := A.1 * B.2) (by omega) (by omega), w64 (x := A.2 * B.1) (by omega) (by omega), w64 (by omega) (by omega)]
  rw [hc, Option.bind_some, w64 (x := A.1 * B.1) (by omega) (by omega), w64 (x := A.2 * B.2) (by omega) (by omega), w64 (x := A.1 * B.1 + A.2 * B.2) (by omega) (by omega)]
  have hon := @on_ref A B
  by_cases ho : onE A B
  · rw [if_pos ho]
    have h := hon.1 ho
    have e : (((A.1 == 0) && ((A.2 == 0) && true)) || ((B.1 == 0) && ((B.2 == 0) && true)) || ((crs A B == 0) && decide (A.1 * B.1 + A.2 * B.2 < 0))) = true := by
      simp only [Bool.or_eq_true, Bool.and_eq_true, beq_iff_eq, decide_eq_true_eq, and_true]; exact h
    rw [e, cond_true]
  · rw [if_neg ho]
    have h := fun g => ho (hon.2 g)
    have e : (((A.1 == 0) && ((A.2 == 0) && true)) || ((B.1 == 0) && ((B.2 == 0) && true)) || ((crs A B == 0) && decide (A.1 * B.1 + A.2 * B.2 < 0))) = false := by
      rw [Bool.eq_false_iff]
      intro g
      simp only [Bool.or_eq_true, Bool.and_eq_true, beq_iff_eq, decide_eq_true_eq, and_true] at g
      exact h g
    rw [e, cond_false, quarter_eq, Option.bind_some, quarter_eq, Option.bind_some]
    dsimp only
    have b1 := Qf_b A.1 A.2
    have b2 := Qf_b B.1 B.2
    have hq := core_q A.1 A.2 B.1 B.2 (fun g => h (.inl (.inl g))) (fun g => h (.inl (.inr g))) (fun g1 g2 => ho ⟨g1, g2⟩)
    have hcc : A.1 * B.2 - A.2 * B.1 = crs A B := rfl
    rw [hcc] at hq
    unfold psiV
    rw [← hq]
    clear hq hon h ho e m1 m2 m3 m4 hc hcc hA hB
    generalize crs A B = c at *
    generalize Qf A.1 A.2 = qa at *
    generalize Qf B.1 B.2 = qb at *
    rw [w64 (x := qb - qa) (by omega) (by omega), w64 (x := qb - qa + 4) (by omega) (by omega), Int.tmod_eq_emod_of_nonneg (by omega), w64 (x := (qb - qa + 4) % 4 - 4) (by omega) (by omega), w64 (x := a + ((qb - qa + 4) % 4 - 4)) (by omega) (by omega), w64 (x := a + (qb - qa + 4) % 4) (by omega) (by omega)]
    unfold qTurn
    by_cases g : (qb - qa + 4) % 4 = 3 ∨ ((qb - qa + 4) % 4 = 2 ∧ c < 0)
    · have e2 : (((qb - qa + 4) % 4 == 3) || (((qb - qa + 4) % 4 == 2) && decide (c < 0))) = true := by simpa using g
      rw [if_pos g, e2, cond_true]
    · have e2 : (((qb - qa + 4) % 4 == 3) || (((qb - qa + 4) % 4 == 2) && decide (c < 0))) = false := by
        rw [Bool.eq_false_iff]; intro g2; exact g (by simpa using g2)
      rw [if_neg g, e2, cond_false]
theorem ref_l1 (l : T_lecternlaw10_Line) {p : Int × Int} (hp : InB p) (H : InL (prs l.Parts)) (hne : prs l.Parts ≠ []) (hl : (prs l.Parts).length ≤ 500) (hc : l.Closed = true) (n : Int) (hn : -10000 ≤ n ∧ n ≤ 10000) :
    iter (F_lecternref10_Around_l1 ⟨p.1, p.2⟩ (mkS l)) FUEL (4 * n, (0 : Int)) = some (match arF p (prs l.Parts) n (prs l.Parts).length with | some m => .inl (4 * m) | none => .inr ((0 : Int), true)) := by
  have hL : (mkS l).Spots.length = (prs l.Parts).length := by simp [mkS]
  have hC : (mkS l).Closed = true := hc
  have hS : ∀ (i : Nat) (h : i < (mkS l).Spots.length) (h2 : i < (prs l.Parts).length), (mkS l).Spots[i] = sS (prs l.Parts)[i] := fun i h h2 => by simp [mkS]
  generalize mkS l = t at *
  generalize prs l.Parts = ps at *
  have hl0 : ps.length ≠ 0 := fun h => hne (List.eq_nil_of_length_eq_zero h)
  have mono : ∀ j i : Nat, arF p ps n i = none → arF p ps n (i + j) = none := by
    intro j
    induction j with
    | zero => intro i h; exact h
    | succ j ih => intro i h; rw [← Nat.add_assoc, arF, ih i h]; rfl
  obtain ⟨o, h1, h2⟩ := iter_spec (b := F_lecternref10_Around_l1 ⟨p.1, p.2⟩ t) (fun i x => ∃ m, arF p ps n i = some m ∧ x = (4 * m + psiV (vec p (ps.getD (i % ps.length) (0, 0))) - psiV (vec p (ps.getD 0 (0, 0))), (i : Int)))
    (fun o => o = match arF p ps n ps.length with | some m => .inl (4 * m) | none => .inr ((0 : Int), true)) ps.length (x0 := (4 * n, (0 : Int))) ⟨n, rfl, by rw [Nat.zero_mod]; congr 1; omega⟩
    (fun i x rec hi ⟨m, hm, hx⟩ => by
      subst hx
      have hi' : i < t.Spots.length := by omega
      have hj : (i + 1) % ps.length < ps.length := Nat.mod_lt _ (by omega)
      have hj' : (i + 1) % ps.length < t.Spots.length := by omega
      have hmb := arF_b p ps n i m hm
      have ga : ps.getD i (0, 0) = ps[i] := by simp [List.getD, hi]
      have gb : ps.getD ((i + 1) % ps.length) (0, 0) = ps[(i + 1) % ps.length] := by simp [List.getD, hj]
      have hstep : arF p ps n (i + 1) = (edg p ps[i] ps[(i + 1) % ps.length]).map (m + ·) := by rw [arF, hm, ga, gb]; rfl
      rw [Nat.mod_eq_of_lt hi, ga]
      have ia := H ps[i] (List.getElem_mem _)
      have ib := H ps[(i + 1) % ps.length] (List.getElem_mem _)
      have sa := hS i hi' hi
      have sb := hS _ hj' hj
      have hbb : ∀ i : Nat, ps.getD ((i + 1) % ps.length) (0, 0) = ps.getD ((i + 1) % ps.length) (0, 0) := fun _ => rfl
      generalize ps[i] = A at *
      generalize hB : ps[(i + 1) % ps.length] = B at *
      obtain ⟨p1, p2, p3, p4⟩ := hp
      obtain ⟨a1, a2, a3, a4⟩ := ia
      obtain ⟨b1, b2, b3, b4⟩ := ib
      have y1 := psi_b (vec p A).1 (vec p A).2
      have y2 := psi_b (vec p (ps.getD 0 (0, 0))).1 (vec p (ps.getD 0 (0, 0))).2
      have hy1 : psiV (vec p A) = psi (vec p A).1 (vec p A).2 := rfl
      have hy2 : psiV (vec p (ps.getD 0 (0, 0))) = psi (vec p (ps.getD 0 (0, 0))).1 (vec p (ps.getD 0 (0, 0))).2 := rfl
      have hes := edge_step (A := vec p A) (B := vec p B) (by unfold vec; constructor <;> (dsimp only; omega)) (by unfold vec; constructor <;> (dsimp only; omega)) (4 * m + psiV (vec p A) - psiV (vec p (ps.getD 0 (0, 0)))) (by rw [hy1, hy2]; omega) (fun v => rec (v, ((i + 1 : Nat) : Int))) (some (.inr ((0 : Int), true)))
      have hb : F_lecternref10_Around_l1 ⟨p.1, p.2⟩ t rec (4 * m + psiV (vec p A) - psiV (vec p (ps.getD 0 (0, 0))), (i : Int)) = if onE (vec p A) (vec p B) then some (.inr ((0 : Int), true)) else rec (4 * m + psiV (vec p A) - psiV (vec p (ps.getD 0 (0, 0))) + (4 * dEd (vec p A).2 (vec p B).2 (crs (vec p A) (vec p B)) + psiV (vec p B) - psiV (vec p A)), ((i + 1 : Nat) : Int)) := by
        rw [← hes]
        unfold F_lecternref10_Around_l1
        simp only [letJ]
        rw [decide_eq_true (by omega), hC, Bool.and_self, cond_true, idx_some hi', Option.bind_some, hL, nzI_some hl0, Option.bind_some, w64 (x := (i : Int) + 1) (by omega) (by omega)]
        rw [show ((i : Int) + 1) = ((i + 1 : Nat) : Int) by omega, tmod_nat, idx_some hj', Option.bind_some, sa, sb]
        unfold sS vec
        dsimp only
        rw [w64 (x := A.1 - p.1) (by omega) (by omega), w64 (x := A.2 - p.2) (by omega) (by omega), w64 (x := B.1 - p.1) (by omega) (by omega), w64 (x := B.2 - p.2) (by omega) (by omega)]
      have hee := edg_eq p A B
      by_cases ho : onE (vec p A) (vec p B)
      · right
        rw [if_pos ho] at hb
        rw [hee.1 ho] at hstep
        refine ⟨_, hb, ?_⟩
        have hno : arF p ps n (i + 1) = none := hstep
        have := mono (ps.length - (i + 1)) (i + 1) hno
        rw [show i + 1 + (ps.length - (i + 1)) = ps.length by omega] at this
        rw [this]
      · left
        rw [if_neg ho] at hb
        rw [hee.2 ho] at hstep
        refine ⟨_, hb, m + dEd (vec p A).2 (vec p B).2 (crs (vec p A) (vec p B)), hstep, ?_⟩
        rw [gb]
        congr 1
        omega)
    (fun x rec ⟨m, hm, hx⟩ => ⟨.inl (4 * m), by
      subst hx
      unfold F_lecternref10_Around_l1
      simp only [letJ]
      rw [decide_eq_false (by omega), Bool.false_and, cond_false, Nat.mod_self]
      congr 2
      omega, by rw [hm]⟩) (n := FUEL) (by unfold FUEL; omega)
  rw [h1, h2]

theorem ref_l1_open (l : T_lecternlaw10_Line) (z : T_lecternref10_Spot) (hc : l.Closed = false) (a : Int) : iter (F_lecternref10_Around_l1 z (mkS l)) FUEL (a, (0 : Int)) = some (.inl a) := by
  have hC : (mkS l).Closed = false := hc
  have hF : FUEL = (FUEL - 1) + 1 := by unfold FUEL; rfl
  rw [hF]
  show F_lecternref10_Around_l1 z (mkS l) (iter (F_lecternref10_Around_l1 z (mkS l)) (FUEL - 1)) (a, (0 : Int)) = _
  unfold F_lecternref10_Around_l1
  simp only [letJ]
  rw [hC, Bool.and_false, cond_false]
theorem wl_get (p : List T_lecternlaw10_Line) (i : Nat) (h : i < p.length) : (wl p).getD i ([], false) = (prs p[i].Parts, p[i].Closed) := by
  simp [wl, List.getD, h]
theorem ref_W {p : List T_lecternlaw10_Line} (ho : okFig p = true) {q : Int × Int} (hq : InB q) :
    F_lecternref10_Around (p.map mkS) ⟨q.1, q.2⟩ = some (match arT q (wl p) p.length with | some m => (m, false) | none => (0, true)) := by
  have HF := figW_of ho
  obtain ⟨h1, h2, h3⟩ := okFig_spec ho
  have hcnt := HF.cnt
  rw [List.length_map] at hcnt
  have mono : ∀ j i : Nat, arT q (wl p) i = none → arT q (wl p) (i + j) = none := by
    intro j
    induction j with
    | zero => intro i h; exact h
    | succ j ih => intro i h; rw [← Nat.add_assoc, arT, ih i h]; rfl
  have hbd : ∀ i m, i ≤ p.length → arT q (wl p) i = some m → -500 ≤ m ∧ m ≤ 500 := by
    intro i m hi hm
    have := arT_b q (p.map mkF) (wl p) HF i m (by rw [List.length_map]; exact hi) hm
    have h4 := lens_le (p.map mkF) i
    omega
  obtain ⟨o, e1, e2⟩ := iter_spec (b := F_lecternref10_Around_l0 (p.map mkS) ⟨q.1, q.2⟩) (fun i x => ∃ m, arT q (wl p) i = some m ∧ x = (4 * m, (i : Int)))
    (fun o => o = match arT q (wl p) p.length with | some m => .inl (4 * m) | none => .inr ((0 : Int), true)) p.length (x0 := ((0 : Int), (0 : Int))) ⟨0, rfl, rfl⟩
    (fun i x rec hi ⟨m, hm, hx⟩ => by
      subst hx
      have hi' : i < (p.map mkS).length := by simpa using hi
      have hb := hbd i m (by omega) hm
      have hstep : arT q (wl p) (i + 1) = arS q m (prs p[i].Parts, p[i].Closed) := by rw [arT, hm, Option.bind_some, wl_get p i hi]
      have hsm : (prs p[i].Parts).length ≤ 500 := by
        have hif : i < (p.map mkF).length := by simpa using hi
        have g1 := lens_take (p.map mkF) i hif
        have g2 := lens_le (p.map mkF) (i + 1)
        have e : (p.map mkF)[i].Spots.length = (prs p[i].Parts).length := by simp [mkF]
        rw [e] at g1
        omega
      have hbody : F_lecternref10_Around_l0 (p.map mkS) ⟨q.1, q.2⟩ rec (4 * m, (i : Int)) = match arS q m (prs p[i].Parts, p[i].Closed) with | none => some (.inr ((0 : Int), true)) | some d => rec (4 * d, ((i + 1 : Nat) : Int)) := by
        unfold F_lecternref10_Around_l0
        simp only [letJ]
        rw [decide_eq_true (by omega), cond_true, idx_some hi', Option.bind_some, List.getElem_map, w64 (x := (i : Int) + 1) (by omega) (by omega)]
        unfold arS
        dsimp only
        cases hc : p[i].Closed with
        | true =>
          rw [if_pos rfl, ref_l1 p[i] hq (h1 _ (List.getElem_mem _)) (h2 _ (List.getElem_mem _)) hsm hc m (by omega), Option.bind_some]
          cases arF q (prs p[i].Parts) m (prs p[i].Parts).length <;> simp
        | false =>
          rw [if_neg (by simp), ref_l1_open p[i] _ hc, Option.bind_some]
          simp
      cases he : arS q m (prs p[i].Parts, p[i].Closed) with
      | none =>
        right
        rw [he] at hbody hstep
        refine ⟨_, hbody, ?_⟩
        have := mono (p.length - (i + 1)) (i + 1) hstep
        rw [show i + 1 + (p.length - (i + 1)) = p.length by omega] at this
        rw [this]
      | some d =>
        left
        rw [he] at hbody hstep
        exact ⟨_, hbody, d, hstep, rfl⟩)
    (fun x rec ⟨m, hm, hx⟩ => ⟨.inl (4 * m), by
      subst hx
      unfold F_lecternref10_Around_l0
      simp only [letJ]
      rw [decide_eq_false (by simp), cond_false], by rw [hm]⟩) (n := FUEL) (by unfold FUEL; omega)
  unfold F_lecternref10_Around
  simp only [letJ, e1, e2, Option.bind_some]
  cases hm : arT q (wl p) p.length with
  | none => rfl
  | some m =>
    have hb := hbd _ m (Nat.le_refl _) hm
    dsimp only
    have e : Int.tdiv (4 * m) 4 = m := Int.mul_tdiv_cancel_left m (by decide)
    rw [e, w64 (by omega) (by omega)]

/-! ## The reference's Area -/
theorem rarea_l1 (l : T_lecternlaw10_Line) (H : InL (prs l.Parts)) (hne : prs l.Parts ≠ []) (hl : (prs l.Parts).length ≤ 500) (a : Int) (ha : a.natAbs ≤ 1000000000000000) :
    iter (F_lecternref10_Area_l1 (mkS l)) FUEL (a, (0 : Int)) = some (aS a (prs l.Parts, l.Closed)) := by
  have hL : (mkS l).Spots.length = (prs l.Parts).length := by simp [mkS]
  have hC : (mkS l).Closed = l.Closed := rfl
  have hS : ∀ (i : Nat) (h : i < (mkS l).Spots.length) (h2 : i < (prs l.Parts).length), (mkS l).Spots[i] = sS (prs l.Parts)[i] := fun i h h2 => by simp [mkS]
  generalize mkS l = t at *
  generalize prs l.Parts = ps at *
  generalize l.Closed = c at *
  have hl0 : ps.length ≠ 0 := fun h => hne (List.eq_nil_of_length_eq_zero h)
  obtain ⟨o, h1, h2⟩ := iter_spec (b := F_lecternref10_Area_l1 t) (fun i x => x = ((if c then aF ps a i else a), (i : Int))) (fun o => o = aS a (ps, c)) ps.length (x0 := (a, (0 : Int))) (by cases c <;> rfl)
    (fun i x rec hi hx => .inl ⟨((if c then aF ps a (i + 1) else a), ((i + 1 : Nat) : Int)), by
      subst hx
      have hi' : i < t.Spots.length := by omega
      have hj : (i + 1) % ps.length < ps.length := Nat.mod_lt _ (by omega)
      have hj' : (i + 1) % ps.length < t.Spots.length := by omega
      have ga : ps.getD i (0, 0) = ps[i] := by simp [List.getD, hi]
      have gb : ps.getD ((i + 1) % ps.length) (0, 0) = ps[(i + 1) % ps.length] := by simp [List.getD, hj]
      have hb1 := aF_b H hne a i (by omega)
      have hb2 := aF_b H hne a (i + 1) (by omega)
      have hstep : aF ps a (i + 1) = aF ps a i + crs ps[i] ps[(i + 1) % ps.length] := by rw [aF, ga, gb]
      have ia := H ps[i] (List.getElem_mem _)
      have ib := H ps[(i + 1) % ps.length] (List.getElem_mem _)
      unfold F_lecternref10_Area_l1
      simp only [letJ]
      rw [decide_eq_true (by omega), cond_true, hC, w64 (x := (i : Int) + 1) (by omega) (by omega)]
      cases c with
      | false => rfl
      | true =>
        rw [cond_true, idx_some hi', Option.bind_some, hL, nzI_some hl0, Option.bind_some]
        rw [show ((i : Int) + 1) = ((i + 1 : Nat) : Int) by omega, tmod_nat, idx_some hj', Option.bind_some, hS i hi' hi, hS _ hj' hj]
        obtain ⟨a1, a2, a3, a4⟩ := ia
        obtain ⟨b1, b2, b3, b4⟩ := ib
        generalize ps[i] = A at *
        generalize ps[(i + 1) % ps.length] = B at *
        have m1 := abs_mul_le (a := A.1) (b := B.2) (m := 1000000) (n := 1000000) (by omega) (by omega)
        have m2 := abs_mul_le (a := A.2) (b := B.1) (m := 1000000) (n := 1000000) (by omega) (by omega)
        have hcr : F_lecternref10_Cross (sS A) (sS B) = some (crs A B) := by
          unfold F_lecternref10_Cross crs sS
          dsimp only
          rw [w64 (x := A.1 * B.2) (by omega) (by omega), w64 (x := A.2 * B.1) (by omega) (by omega), w64 (by omega) (by omega)]
        rw [hcr, Option.bind_some]
        simp only [if_true]
        rw [hstep, w64 (x := aF ps a i + crs A B) (by omega) (by omega)], rfl⟩)
    (fun x rec hx => ⟨_, by
      subst hx
      unfold F_lecternref10_Area_l1
      simp only [letJ]
      rw [decide_eq_false (by omega), cond_false], by unfold aS; rfl⟩) (n := FUEL) (by unfold FUEL; omega)
  rw [h1, h2]
theorem rarea_W {p : List T_lecternlaw10_Line} (ho : okFig p = true) : F_lecternref10_Area (p.map mkS) = some (aT (wl p) p.length) := by
  have HF := figW_of ho
  obtain ⟨h1, h2, h3⟩ := okFig_spec ho
  have hcnt := HF.cnt
  rw [List.length_map] at hcnt
  obtain ⟨o, e1, e2⟩ := iter_spec (b := F_lecternref10_Area_l0 (p.map mkS)) (fun i x => x = (aT (wl p) i, (i : Int))) (fun o => o = aT (wl p) p.length) p.length (x0 := ((0 : Int), (0 : Int))) rfl
    (fun i x rec hi hx => .inl ⟨(aT (wl p) (i + 1), ((i + 1 : Nat) : Int)), by
      subst hx
      have hi' : i < (p.map mkS).length := by simpa using hi
      have hb := aT_b (p.map mkF) (wl p) HF i (by rw [List.length_map]; omega)
      have hle := lens_le (p.map mkF) i
      have hsm : (prs p[i].Parts).length ≤ 500 := by
        have hif : i < (p.map mkF).length := by simpa using hi
        have g1 := lens_take (p.map mkF) i hif
        have g2 := lens_le (p.map mkF) (i + 1)
        have e : (p.map mkF)[i].Spots.length = (prs p[i].Parts).length := by simp [mkF]
        rw [e] at g1
        omega
      unfold F_lecternref10_Area_l0
      simp only [letJ]
      rw [decide_eq_true (by omega), cond_true, idx_some hi', Option.bind_some, List.getElem_map, rarea_l1 p[i] (h1 _ (List.getElem_mem _)) (h2 _ (List.getElem_mem _)) hsm _ (by omega), Option.bind_some, w64 (x := (i : Int) + 1) (by omega) (by omega), aT, wl_get p i hi]
      rfl, rfl⟩)
    (fun x rec hx => ⟨_, by
      subst hx
      unfold F_lecternref10_Area_l0
      simp only [letJ]
      rw [decide_eq_false (by simp), cond_false], rfl⟩) (n := FUEL) (by unfold FUEL; omega)
  unfold F_lecternref10_Area
  simp only [letJ, e1, e2, Option.bind_some]

/-- The law of the rounds. -/
theorem traceRounds (p : List T_lecternlaw10_Line) (H : InOk p) (p1 p2 : Int) (g1 : -9223372036854775808 ≤ p1 ∧ p1 ≤ 9223372036854775807) (g2 : -9223372036854775808 ≤ p2 ∧ p2 ≤ 9223372036854775807) : F_lecternlaw10_TraceRounds p p1 p2 = some true := by
  have hsp := spot_int p1 p2 g1.1 g1.2 g2.1 g2.2
  unfold F_lecternlaw10_TraceRounds F_lecternlaw10_fits F_lecternlaw10_spot
  rw [awake_t]
  simp only [Option.bind_some, letJ, Bool.not_true, cond_false, figure_eq p H]
  cases ho : okFig p with
  | false =>
    have ea : F_trace_Area (p.map mkF) = some (0, 1) := by unfold F_trace_Area; rw [right_eq p H, ho]; rfl
    have er : F_trace_Around (p.map mkF) (i2f p1, i2f p2) = some (0, false, 1) := by unfold F_trace_Around; rw [right_eq p H, ho]; rfl
    rw [ea, Option.bind_some, er, Option.bind_some]
    have h0 := feq_I zero_I zero_I
    rw [decide_eq_true rfl] at h0
    simp [h0]
  | true =>
    have HF := figW_of ho
    obtain ⟨ra, ea, ka⟩ := area_W HF
    have hwl : (wl p).length = p.length := by simp [wl]
    rw [hwl] at ka
    have hAb := aT_b _ _ HF _ (Nat.le_refl _)
    have htot := HF.tot
    rw [List.take_length, List.length_map] at hAb
    have hne := fne_I ka (i2f_I (aT (wl p) p.length) (by omega)) rfl
    rw [ea, Option.bind_some]
    by_cases hin : (inB p1 && inB p2) = true
    · have hI := (inB_iff (p1, p2)).1 hin
      have sq := sp_of _ _ hI
      have r1 := around_W HF sq hI
      have r2 := ref_W ho hI
      dsimp only at r1 r2
      obtain ⟨c1, c2, c3, c4⟩ := hI
      dsimp only at c1 c2 c3 c4
      rw [r1, Option.bind_some, hwl, rarea_W ho, Option.bind_some, hne]
      rw [decide_eq_true c1, decide_eq_true c2, decide_eq_true c3, decide_eq_true c4]
      simp only [Bool.not_true, cond_false, Bool.and_self, bne_self_eq_false, r2, Option.bind_some]
      cases arT (p1, p2) (wl p) p.length <;> simp
    · have hf : (inB p1 && inB p2) = false := by simpa using hin
      have er : F_trace_Around (p.map mkF) (i2f p1, i2f p2) = some (0, false, 1) := by
        unfold F_trace_Around
        rw [right_eq p H, ho]
        simp only [letJ, Option.bind_some, Bool.not_true, cond_false, hsp, hf, Bool.not_false, cond_true]
      have hb : (((decide (-1000000 ≤ p1) && decide (p1 ≤ 1000000)) && decide (-1000000 ≤ p2)) && decide (p2 ≤ 1000000)) = false := by
        rw [← hf]; unfold inB; simp only [Bool.and_assoc]
      rw [er, Option.bind_some, rarea_W ho, Option.bind_some, hne, hb]
      simp

theorem i64_of {n : Int} (h : okI .i64 n) : -9223372036854775808 ≤ n ∧ n ≤ 9223372036854775807 := by
  unfold okI at h
  have e1 : IntKind.min .i64 = -9223372036854775808 := by decide
  have e2 : IntKind.max .i64 = 9223372036854775807 := by decide
  rw [e1, e2] at h
  exact h
theorem traceRounds_calls (p : List T_lecternlaw10_Line) (p1 p2 : Int) (o : okLines p) (o1 : okI .i64 p1) (o2 : okI .i64 p2) (t : szLines p ≤ 1048576) (h : Heap) :
    CallsA Tryd.prog 6 [.sl 2 (List.map c_T_lecternlaw10_Line p) 0, .int .i64 p1, .int .i64 p2] h fun d _ => d = .bool true :=
  (F_lecternlaw10_TraceRounds_w p p1 p2 (G := fun b => b = true) h ⟨true, traceRounds p (inOk_of p o t) p1 p2 (i64_of o1) (i64_of o2), rfl⟩).mono fun d h' ⟨r, hr, hd⟩ => by subst hr; exact hd
end Go.Proofs.YtocfjohangcajaaDoor
