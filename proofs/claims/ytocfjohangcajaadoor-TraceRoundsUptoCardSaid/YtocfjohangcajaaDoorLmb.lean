/- TraceMoves: rounds and areas of turned figures, what Turn makes, and the law. No condition. -/
import Derived.Test.YtocfjohangcajaaDoorLma
import Derived.Test.YtocfjohangcajaaDoorLcs
import Derived.Test.YtocfjohangcajaaDoorLbx
set_option linter.unusedSimpArgs false
set_option linter.unusedVariables false
namespace Go.Proofs.YtocfjohangcajaaDoor
open Fl

instance (A B : Int × Int) : Decidable (onE A B) := by unfold onE; infer_instance
def mvP (u s A : Int × Int) : Int × Int := ((rot u A).1 + s.1, (rot u A).2 + s.2)
def mvS (u s : Int × Int) (x : List (Int × Int) × Bool) : List (Int × Int) × Bool := (x.1.map (mvP u s), x.2)
def vec (p a : Int × Int) : Int × Int := (a.1 - p.1, a.2 - p.2)
theorem edg_eq (p a b : Int × Int) : (onE (vec p a) (vec p b) → edg p a b = none) ∧ (¬ onE (vec p a) (vec p b) → edg p a b = some (dEd (vec p a).2 (vec p b).2 (crs (vec p a) (vec p b)))) := by
  constructor
  · intro h
    unfold edg
    exact if_pos h
  · intro h
    have e : edg p a b = if onE (vec p a) (vec p b) then none else if (vec p a).2 ≤ 0 ∧ 0 < (vec p b).2 ∧ 0 < crs (vec p a) (vec p b) then some 1 else if 0 < (vec p a).2 ∧ (vec p b).2 ≤ 0 ∧ crs (vec p a) (vec p b) < 0 then some (-1) else some 0 := rfl
    rw [e, if_neg h]
    show (if (vec p a).2 ≤ 0 ∧ 0 < (vec p b).2 ∧ 0 < crs (vec p a) (vec p b) then some 1 else if 0 < (vec p a).2 ∧ (vec p b).2 ≤ 0 ∧ crs (vec p a) (vec p b) < 0 then some (-1) else some 0) = _
    unfold dEd
    split
    · rfl
    · split <;> rfl
theorem vec_mv (u s p a : Int × Int) : vec (mvP u s p) (mvP u s a) = rot u (vec p a) := by
  unfold vec mvP rot
  simp only [Prod.mk.injEq]
  constructor <;> grind
theorem edg_mv {u : Int × Int} (hu : ¬ (u.1 = 0 ∧ u.2 = 0)) (s p a b : Int × Int) : edg (mvP u s p) (mvP u s a) (mvP u s b) = (edg p a b).map fun d => d + kU u (vec p b) - kU u (vec p a) := by
  by_cases h : onE (vec p a) (vec p b)
  · rw [(edg_eq p a b).1 h, (edg_eq _ _ _).1 (by rw [vec_mv, vec_mv]; exact (rot_on hu _ _).2 h)]; rfl
  · rw [(edg_eq p a b).2 h, (edg_eq _ _ _).2 (by rw [vec_mv, vec_mv]; exact fun h2 => h ((rot_on hu _ _).1 h2)), vec_mv, vec_mv, dEd_rot hu h]; rfl
theorem getD_map (f : Int × Int → Int × Int) (ps : List (Int × Int)) (i : Nat) (h : i < ps.length) : (ps.map f).getD i (0, 0) = f (ps.getD i (0, 0)) := by
  simp [List.getD, h]
theorem arF_mv {u : Int × Int} (hu : ¬ (u.1 = 0 ∧ u.2 = 0)) (s p : Int × Int) (ps : List (Int × Int)) (hne : ps ≠ []) (n : Int) : ∀ i : Nat, i ≤ ps.length →
    arF (mvP u s p) (ps.map (mvP u s)) n i = (arF p ps n i).map fun d => d + kU u (vec p (ps.getD (i % ps.length) (0, 0))) - kU u (vec p (ps.getD 0 (0, 0)))
  | 0, _ => by
    simp only [arF, Nat.zero_mod, Option.map_some]
    congr 1; omega
  | i + 1, h => by
    have hl0 : 0 < ps.length := List.length_pos_iff.2 hne
    have hj : (i + 1) % ps.length < ps.length := Nat.mod_lt _ hl0
    have ih := arF_mv hu s p ps hne n i (by omega)
    rw [arF, ih, List.length_map, getD_map _ _ _ (by omega), getD_map _ _ _ hj, edg_mv hu, arF, Nat.mod_eq_of_lt (by omega)]
    cases arF p ps n i with
    | none => rfl
    | some m =>
      simp only [Option.map_some, Option.bind_some]
      cases edg p (ps.getD i (0, 0)) (ps.getD ((i + 1) % ps.length) (0, 0)) with
      | none => rfl
      | some d =>
        simp only [Option.map_some]
        congr 1; omega
theorem arF_turn {u : Int × Int} (hu : ¬ (u.1 = 0 ∧ u.2 = 0)) (s p : Int × Int) (ps : List (Int × Int)) (hne : ps ≠ []) (n : Int) :
    arF (mvP u s p) (ps.map (mvP u s)) n ps.length = arF p ps n ps.length := by
  rw [arF_mv hu s p ps hne n _ (Nat.le_refl _), Nat.mod_self]
  cases arF p ps n ps.length with
  | none => rfl
  | some m => simp only [Option.map_some]; congr 1; omega
theorem arT_turn {u : Int × Int} (hu : ¬ (u.1 = 0 ∧ u.2 = 0)) (s p : Int × Int) (L : FgW) (hne : ∀ x ∈ L, x.1 ≠ []) : ∀ i : Nat, i ≤ L.length → arT (mvP u s p) (L.map (mvS u s)) i = arT p L i
  | 0, _ => rfl
  | i + 1, h => by
    have hi : i < L.length := by omega
    rw [arT, arT_turn hu s p L hne i (by omega), arT]
    have e1 : (L.map (mvS u s)).getD i ([], false) = mvS u s L[i] := by simp [List.getD, hi]
    have e2 : L.getD i ([], false) = L[i] := by simp [List.getD, hi]
    rw [e1, e2]
    congr 1
    funext n
    unfold arS mvS
    dsimp only
    rw [List.length_map, arF_turn hu s p _ (hne _ (List.getElem_mem _)) n]

/-! ## Areas -/
theorem crs_mv (u s a b : Int × Int) : crs (mvP u s a) (mvP u s b) = (u.1 * u.1 + u.2 * u.2) * crs a b + crs s (rot u b) - crs s (rot u a) := by unfold crs mvP rot; grind
theorem aF_mv (u s : Int × Int) (ps : List (Int × Int)) (hne : ps ≠ []) (a : Int) : ∀ i : Nat, i ≤ ps.length →
    aF (ps.map (mvP u s)) ((u.1 * u.1 + u.2 * u.2) * a) i = (u.1 * u.1 + u.2 * u.2) * aF ps a i + crs s (rot u (ps.getD (i % ps.length) (0, 0))) - crs s (rot u (ps.getD 0 (0, 0)))
  | 0, _ => by simp only [aF, Nat.zero_mod]; omega
  | i + 1, h => by
    have hl0 : 0 < ps.length := List.length_pos_iff.2 hne
    have hj : (i + 1) % ps.length < ps.length := Nat.mod_lt _ hl0
    have ih := aF_mv u s ps hne a i (by omega)
    rw [aF, ih, List.length_map, getD_map _ _ _ (by omega), getD_map _ _ _ hj, crs_mv, aF, Nat.mod_eq_of_lt (show i < ps.length by omega), Int.mul_add]
    omega
theorem aF_turn (u s : Int × Int) (ps : List (Int × Int)) (hne : ps ≠ []) (a : Int) : aF (ps.map (mvP u s)) ((u.1 * u.1 + u.2 * u.2) * a) ps.length = (u.1 * u.1 + u.2 * u.2) * aF ps a ps.length := by
  rw [aF_mv u s ps hne a _ (Nat.le_refl _), Nat.mod_self]; omega
theorem aT_turn (u s : Int × Int) (L : FgW) (hne : ∀ x ∈ L, x.1 ≠ []) : ∀ i : Nat, i ≤ L.length → aT (L.map (mvS u s)) i = (u.1 * u.1 + u.2 * u.2) * aT L i
  | 0, _ => by simp [aT]
  | i + 1, h => by
    have hi : i < L.length := by omega
    rw [aT, aT_turn u s L hne i (by omega), aT]
    have e1 : (L.map (mvS u s)).getD i ([], false) = mvS u s L[i] := by simp [List.getD, hi]
    have e2 : L.getD i ([], false) = L[i] := by simp [List.getD, hi]
    rw [e1, e2]
    unfold aS mvS
    dsimp only
    split
    · rw [List.length_map, aF_turn u s _ (hne _ (List.getElem_mem _))]
    · rfl

theorem fge_I {x y : Nat} {a b : Int} (hx : isI x a) (hy : isI y b) : fge x y = decide (b ≤ a) := by
  unfold fge; rw [ord_I hx hy]
  rcases cmp_cases a b with ⟨h, e⟩ | ⟨h, e⟩ | ⟨h, e⟩ <;> rw [e]
  · rw [decide_eq_false (by omega)]; rfl
  · rw [decide_eq_true (by omega)]; rfl
  · rw [decide_eq_true (by omega)]; rfl
theorem cmul_I {z w : Nat × Nat} {p q : Int × Int} (h : Sp z p) (g : Sp w q) (h1 : p.1.natAbs ≤ 10000000) (h2 : p.2.natAbs ≤ 10000000) (h3 : q.1.natAbs ≤ 10000000) (h4 : q.2.natAbs ≤ 10000000) :
    ∃ r, cmul z w = some r ∧ Sp r (rot q p) := by
  have b1 := abs_mul_le h1 h3
  have b2 := abs_mul_le h2 h4
  have b3 := abs_mul_le h1 h4
  have b4 := abs_mul_le h2 h3
  obtain ⟨r1, e1, i1⟩ := fmul_I h.1 g.1 (by omega)
  obtain ⟨r2, e2, i2⟩ := fmul_I h.2 g.2 (by omega)
  obtain ⟨r3, e3, i3⟩ := fmul_I h.1 g.2 (by omega)
  obtain ⟨r4, e4, i4⟩ := fmul_I h.2 g.1 (by omega)
  obtain ⟨r5, e5, i5⟩ := fsub_I i1 i2 (by omega)
  obtain ⟨r6, e6, i6⟩ := fadd_I i3 i4 (by omega)
  exact ⟨(r5, r6), by simp only [cmul, e1, e2, e3, e4, e5, e6, Option.bind_some, Option.map_some], i5, i6⟩
theorem cadd_I {z w : Nat × Nat} {p q : Int × Int} (h : Sp z p) (g : Sp w q) (h1 : (p.1 + q.1).natAbs ≤ 9007199254740992) (h2 : (p.2 + q.2).natAbs ≤ 9007199254740992) : ∃ r, cadd z w = some r ∧ Sp r (p.1 + q.1, p.2 + q.2) := by
  obtain ⟨r, e1, e2⟩ := fadd_I h.1 g.1 h1
  obtain ⟨s, e3, e4⟩ := fadd_I h.2 g.2 h2
  exact ⟨(r, s), by simp [cadd, e1, e3], e2, e4⟩
theorem rot_b {u A : Int × Int} (h1 : u.1.natAbs ≤ 900) (h2 : u.2.natAbs ≤ 900) (hA : InB A) : (rot u A).1.natAbs ≤ 1800000000 ∧ (rot u A).2.natAbs ≤ 1800000000 := by
  obtain ⟨a1, a2, a3, a4⟩ := hA
  have b1 := abs_mul_le (a := A.1) (b := u.1) (m := 1000000) (n := 900) (by omega) h1
  have b2 := abs_mul_le (a := A.2) (b := u.2) (m := 1000000) (n := 900) (by omega) h2
  have b3 := abs_mul_le (a := A.1) (b := u.2) (m := 1000000) (n := 900) (by omega) h2
  have b4 := abs_mul_le (a := A.2) (b := u.1) (m := 1000000) (n := 900) (by omega) h1
  unfold rot
  dsimp only
  omega
theorem inB_iff (p : Int × Int) : (inB p.1 && inB p.2) = true ↔ InB p := by
  unfold inB InB
  simp only [Bool.and_eq_true, decide_eq_true_eq]
  omega
/-- A moved spot. -/
theorem mv_I {z zu zs : Nat × Nat} {p u s : Int × Int} (h : Sp z p) (hp : InB p) (hu : Sp zu u) (h1 : u.1.natAbs ≤ 900) (h2 : u.2.natAbs ≤ 900) (hs : Sp zs s) (h3 : s.1.natAbs ≤ 1000) (h4 : s.2.natAbs ≤ 1000) :
    ∃ r q, cmul z zu = some r ∧ cadd r zs = some q ∧ Sp q (mvP u s p) ∧ (mvP u s p).1.natAbs ≤ 1800001000 ∧ (mvP u s p).2.natAbs ≤ 1800001000 := by
  have hb := rot_b h1 h2 hp
  obtain ⟨a1, a2, a3, a4⟩ := hp
  obtain ⟨r, e1, i1⟩ := cmul_I h hu (by omega) (by omega) (by omega) (by omega)
  obtain ⟨q, e2, i2⟩ := cadd_I i1 hs (by omega) (by omega)
  refine ⟨r, q, e1, e2, i2, ?_, ?_⟩
  · unfold mvP; dsimp only; omega
  · unfold mvP; dsimp only; omega

theorem SpL.snoc {zs : List (Nat × Nat)} {ps : List (Int × Int)} (H : SpL zs ps) {z : Nat × Nat} {p : Int × Int} (h1 : Sp z p) (h2 : InB p) : SpL (zs ++ [z]) (ps ++ [p]) where
  len := by simp [H.len]
  sp := fun i h3 h4 => by
    have hl := H.len
    rw [List.length_append, List.length_singleton] at h3 h4
    by_cases hi : i < zs.length
    · rw [List.getElem_append_left hi, List.getElem_append_left (by omega)]; exact H.sp i hi (by omega)
    · have hz : i = zs.length := by omega
      subst hz
      rw [List.getElem_append_right (Nat.le_refl _), List.getElem_append_right (by omega)]
      simpa using h1
  inb := fun q hq => by
    rw [List.mem_append, List.mem_singleton] at hq
    rcases hq with hq | rfl
    · exact H.inb q hq
    · exact h2

section
variable {zu zs : Nat × Nat} {u s : Int × Int} (hu : Sp zu u) (h1 : u.1.natAbs ≤ 900) (h2 : u.2.natAbs ≤ 900) (hs : Sp zs s) (h3 : s.1.natAbs ≤ 1000) (h4 : s.2.natAbs ≤ 1000)
include hu h1 h2 hs h3 h4
theorem turn_l1 (t : T_trace_Stroke) {ps : List (Int × Int)} (H : SpL t.Spots ps) (hl : ps.length ≤ 500) (c : Bool) :
    ∃ o, iter (F_trace_Turn_l1 zu zs t) FUEL ([], c, (0 : Int)) = some o ∧ (o = .inr ([], 5) ∨ ∃ ws, o = .inl (ws, c) ∧ SpL ws (ps.map (mvP u s))) := by
  have hL := H.len
  refine iter_spec (b := F_trace_Turn_l1 zu zs t) (fun i x => ∃ ws, x = (ws, c, (i : Int)) ∧ SpL ws ((ps.take i).map (mvP u s))) _ ps.length (x0 := ([], c, (0 : Int))) ⟨[], rfl, by simpa using SpL.nil⟩ ?_ ?_ (n := FUEL) (by unfold FUEL; omega)
  · rintro i x rec hi ⟨ws, rfl, hw⟩
    have hi' : i < t.Spots.length := by omega
    obtain ⟨r, q, e1, e2, e3, b1, b2⟩ := mv_I (H.sp i hi' hi) (H.inb _ (List.getElem_mem _)) hu h1 h2 hs h3 h4
    have hwl : ws.length ≤ 500 := by rw [hw.len, List.length_map, List.length_take]; omega
    unfold F_trace_Turn_l1
    dsimp only
    rw [decide_eq_true (by omega), cond_true, idx_some hi', Option.bind_some, e1, Option.bind_some, e2, Option.bind_some, spot_I e3 (by omega) (by omega), Option.bind_some]
    cases hb : (inB (mvP u s ps[i]).1 && inB (mvP u s ps[i]).2) with
    | false =>
      right
      exact ⟨.inr ([], 5), rfl, .inl rfl⟩
    | true =>
      left
      have hin := (inB_iff _).1 hb
      refine ⟨(ws ++ [q], c, ((i + 1 : Nat) : Int)), ?_, ws ++ [q], rfl, ?_⟩
      · rw [Bool.not_true, cond_false, app_some (by simp; omega) (by simp; omega), Option.bind_some, w64 (by omega) (by omega)]; rfl
      · rw [map_take _ _ _ hi]
        exact hw.snoc e3 hin
  · rintro x rec ⟨ws, rfl, hw⟩
    refine ⟨.inl (ws, c), ?_, .inr ⟨ws, rfl, ?_⟩⟩
    · unfold F_trace_Turn_l1
      dsimp only
      rw [decide_eq_false (by omega), cond_false]
    · rw [List.take_length] at hw; exact hw
theorem turn_l0 {f : List T_trace_Stroke} {L : FgW} (H : FigW f L) :
    ∃ o, iter (F_trace_Turn_l0 f zu zs) FUEL ([], (0 : Int)) = some o ∧ (o = .inr ([], 5) ∨ ∃ g, o = .inl g ∧ FigW g (L.map (mvS u s))) := by
  have hlen := H.len
  have hcnt := H.cnt
  have htot := H.tot
  refine iter_spec (b := F_trace_Turn_l0 f zu zs) (fun i x => ∃ g, x = (g, (i : Int)) ∧ FigW g ((L.take i).map (mvS u s)) ∧ lens g = lens (f.take i)) _ f.length (x0 := ([], (0 : Int))) ⟨[], rfl, ⟨by simp, fun i h => absurd h (by simp), by simp [lens], by simp⟩, by simp [lens]⟩ ?_ ?_ (n := FUEL) (by unfold FUEL; omega)
  · rintro i x rec hi ⟨g, rfl, hg, hgl⟩
    have hi' : i < L.length := by omega
    obtain ⟨hne, hsp, hcl⟩ := H.st i hi hi'
    have hglen : g.length = i := by rw [hg.len, List.length_map, List.length_take]; omega
    obtain ⟨o, e1, e2⟩ := turn_l1 hu h1 h2 hs h3 h4 f[i] hsp (H.small i hi hi') f[i].Closed
    unfold F_trace_Turn_l0
    simp only [letJ]
    rw [decide_eq_true (by omega), cond_true, idx_some hi, Option.bind_some, e1, Option.bind_some]
    rcases e2 with rfl | ⟨ws, rfl, hw⟩
    · right
      exact ⟨.inr ([], 5), rfl, .inl rfl⟩
    · left
      refine ⟨(g ++ [⟨ws, f[i].Closed⟩], ((i + 1 : Nat) : Int)), ?_, g ++ [⟨ws, f[i].Closed⟩], rfl, ?_, ?_⟩
      · dsimp only
        rw [app_some (by simp; omega) (by simp; omega), Option.bind_some, w64 (by omega) (by omega)]; rfl
      · have hwl : ws.length = f[i].Spots.length := by rw [hw.len, List.length_map, hsp.len]
        have hle := lens_le f (i + 1)
        have hst := lens_take f i hi
        rw [map_take _ _ _ hi']
        refine ⟨by rw [List.length_append, List.length_append, hg.len]; rfl, ?_, ?_, ?_⟩
        · intro j g1 g2
          have hml : ((L.take i).map (mvS u s)).length = i := by rw [← hg.len]; exact hglen
          rw [List.length_append, List.length_singleton] at g1 g2
          by_cases hj : j < i
          · rw [List.getElem_append_left (by omega), List.getElem_append_left (by omega)]
            exact hg.st j (by omega) (by omega)
          · have hj2 : j = i := by omega
            subst hj2
            rw [List.getElem_append_right (by omega), List.getElem_append_right (by omega)]
            simp only [hglen, hml, Nat.sub_self, List.getElem_cons_zero]
            refine ⟨?_, hw, hcl⟩
            intro h5
            apply hne
            apply List.eq_nil_of_length_eq_zero
            rw [← hwl]
            have h6 : ws = [] := h5
            rw [h6]; rfl
        · have e : lens (g ++ [⟨ws, f[i].Closed⟩]) = lens g + ws.length := by unfold lens; rw [List.map_append, List.sum_append]; simp
          rw [e]; omega
        · rw [List.length_append, hglen]; simp; omega
      · have hwl : ws.length = f[i].Spots.length := by rw [hw.len, List.length_map, hsp.len]
        have e : lens (g ++ [⟨ws, f[i].Closed⟩]) = lens g + ws.length := by unfold lens; rw [List.map_append, List.sum_append]; simp
        rw [e, lens_take f i hi, hgl, hwl]
  · rintro x rec ⟨g, rfl, hg, hgl⟩
    refine ⟨.inl g, ?_, .inr ⟨g, rfl, ?_⟩⟩
    · unfold F_trace_Turn_l0
      simp only [letJ]
      rw [decide_eq_false (by omega), cond_false]
    · rw [hlen, List.take_length] at hg; exact hg
theorem turn_W {f : List T_trace_Stroke} {L : FgW} (H : FigW f L) : F_trace_Turn f zu zs = some ([], 5) ∨ ∃ g, F_trace_Turn f zu zs = some (g, 0) ∧ FigW g (L.map (mvS u s)) := by
  obtain ⟨o, e1, e2⟩ := turn_l0 hu h1 h2 hs h3 h4 H
  have i1 : InB u := by unfold InB; omega
  have i2 : InB s := by unfold InB; omega
  unfold F_trace_Turn
  rw [right_ok H.fig, Option.bind_some]
  simp only [letJ, Bool.not_true, cond_false, spot_in hu i1, spot_in hs i2, Option.bind_some, e1]
  rcases e2 with rfl | ⟨g, rfl, hg⟩
  · left; rfl
  · right; exact ⟨g, rfl, hg⟩
end

theorem fne_I {x y : Nat} {a b : Int} (hx : isI x a) (hy : isI y b) (h : a = b) : fne x y = false := by
  unfold fne; rw [ord_I hx hy]
  rcases cmp_cases a b with ⟨h2, e⟩ | ⟨h2, e⟩ | ⟨h2, e⟩ <;> rw [e]
  · omega
  · rfl
  · omega
theorem mmillion_I : isI 13920209183539462144 (-1000000) := ⟨true, 8589934592000000, -33, by decide, by decide⟩
theorem f2i_I {x : Nat} {a : Int} (hx : isI x a) (h : a.natAbs ≤ 9007199254740992) : f2i .i64 x = some a := by
  have hd : (FloatKind.f64.decode x).toInt .zero = some a := toInt_I hx
  unfold f2i
  rw [hd]
  have e1 : IntKind.min .i64 = -9223372036854775808 := by decide
  have e2 : IntKind.max .i64 = 9223372036854775807 := by decide
  simp only [e1, e2]
  rw [if_pos (by omega)]
theorem from_I {z : Nat × Nat} {p : Int × Int} (h : Sp z p) (h1 : p.1.natAbs ≤ 9007199254740992) (h2 : p.2.natAbs ≤ 9007199254740992) :
    F_lecternref10_From z = some (if (inB p.1 && inB p.2) = true then (⟨p.1, p.2⟩, true) else (⟨0, 0⟩, false)) := by
  have hb : ((((decide (-1000000 ≤ p.1)) && (decide (p.1 ≤ 1000000))) && (decide (-1000000 ≤ p.2))) && (decide (p.2 ≤ 1000000))) = (inB p.1 && inB p.2) := by
    unfold inB; simp only [Bool.and_assoc]
  unfold F_lecternref10_From
  rw [fge_I h.1 mmillion_I, fle_I h.1 million_I, fge_I h.2 mmillion_I, fle_I h.2 million_I, hb]
  cases hc : (inB p.1 && inB p.2) with
  | false => rfl
  | true =>
    simp only [letJ, Bool.not_true, cond_false, f2i_I h.1 h1, f2i_I h.2 h2, Option.bind_some, feq_I (i2f_I p.1 h1) h.1, feq_I (i2f_I p.2 h2) h.2, decide_true, cond_true, if_true]

theorem len_sum2 {α : Type} (f : α → Nat) : ∀ l : List α, (∀ x ∈ l, 1 ≤ f x) → l.length ≤ (l.map f).sum
  | [], _ => by simp
  | x :: l, h => by
    have h1 := h x (List.mem_cons_self ..)
    have h2 := len_sum2 f l (fun y hy => h y (List.mem_cons_of_mem _ hy))
    simp only [List.map_cons, List.sum_cons, List.length_cons]; omega
def wl (p : List T_lecternlaw10_Line) : FgW := p.map fun l => (prs l.Parts, l.Closed)
theorem figW_of {p : List T_lecternlaw10_Line} (h : okFig p = true) : FigW (p.map mkF) (wl p) := by
  obtain ⟨h1, h2, h3⟩ := okFig_spec h
  have hsp : ∀ ps : List (Int × Int), InL ps → SpL (ps.map sF) ps := by
    intro ps hi
    refine ⟨by simp, ?_, hi⟩
    intro i g1 g2
    rw [List.getElem_map]
    exact sp_of _ _ (hi _ (List.getElem_mem _))
  refine ⟨by simp [wl], ?_, h3, ?_⟩
  · intro i g1 g2
    rw [List.length_map] at g1
    simp only [wl, List.getElem_map]
    refine ⟨?_, hsp _ (h1 _ (List.getElem_mem _)), rfl⟩
    intro h4
    apply h2 _ (List.getElem_mem g1)
    simpa [mkF] using h4
  · rw [List.length_map]
    have := len_sum2 (fun l : T_lecternlaw10_Line => (prs l.Parts).length) p (fun l hl => List.length_pos_iff.2 (h2 l hl))
    have e : lens (p.map mkF) = (p.map fun l : T_lecternlaw10_Line => (prs l.Parts).length).sum := by
      unfold lens
      rw [List.map_map]
      congr 1
      apply List.map_congr_left
      intro l _
      simp [mkF]
    omega
theorem wl_ne {p : List T_lecternlaw10_Line} (h : okFig p = true) : ∀ x ∈ wl p, x.1 ≠ [] := by
  obtain ⟨h1, h2, h3⟩ := okFig_spec h
  intro x hx
  unfold wl at hx
  rw [List.mem_map] at hx
  obtain ⟨l, hl, rfl⟩ := hx
  exact h2 l hl
theorem tmod_b (a : Int) : (Int.tmod a 1000).natAbs ≤ 1000 := by
  have h1 := Int.natAbs_tmod a 1000
  have h2 : a.natAbs % (1000 : Int).natAbs < 1000 := Nat.mod_lt _ (by decide)
  omega
/-- The law of the moves. -/
theorem traceMoves (p : List T_lecternlaw10_Line) (H : InOk p) (p1 p2 p3 p4 : Int) : F_lecternlaw10_TraceMoves p p1 p2 p3 p4 = some true := by
  unfold F_lecternlaw10_TraceMoves F_lecternlaw10_fits F_lecternlaw10_spot
  rw [awake_t]
  simp only [Option.bind_some, letJ, Bool.not_true, cond_false, cond_true, figure_eq p H]
  refine cond_of (fun _ => rfl) fun hg1 => ?_
  simp only [Bool.or_eq_false_iff, Bool.not_eq_false', decide_eq_false_iff_not, Bool.and_eq_false_iff, beq_eq_false_iff_ne] at hg1
  obtain ⟨⟨⟨⟨⟨ho, a1⟩, a2⟩, a3⟩, a4⟩, a5⟩ := hg1
  refine cond_of (fun _ => rfl) fun hg2 => ?_
  simp only [Bool.not_eq_false', Bool.and_eq_true, decide_eq_true_eq] at hg2
  obtain ⟨⟨⟨c1, c2⟩, c3⟩, c4⟩ := hg2
  have hu : ¬ (((p1, p2) : Int × Int).1 = 0 ∧ ((p1, p2) : Int × Int).2 = 0) := by
    rintro ⟨h1, h2⟩
    simp only at h1 h2
    rcases a5 with h | h <;> omega
  have su : Sp (i2f p1, i2f p2) (p1, p2) := sp_of _ _ ⟨by simp only; omega, by simp only; omega, by simp only; omega, by simp only; omega⟩
  have t3 := tmod_b p3
  have t4 := tmod_b p4
  have ss : Sp (i2f (Int.tmod p3 1000), i2f (Int.tmod p4 1000)) (Int.tmod p3 1000, Int.tmod p4 1000) := sp_of _ _ ⟨by simp only; omega, by simp only; omega, by simp only; omega, by simp only; omega⟩
  have iq : InB (p3, p4) := ⟨c1, c2, c3, c4⟩
  have sq : Sp (i2f p3, i2f p4) (p3, p4) := sp_of _ _ iq
  have HF := figW_of ho
  rcases turn_W su (by simp only; omega) (by simp only; omega) ss t3 t4 HF with e | ⟨g, e, hg⟩
  · rw [e]; rfl
  · rw [e]
    simp only [Option.bind_some]
    rw [show ((0 : Int) != 0) = false from rfl, cond_false]
    obtain ⟨ra, ea, ka⟩ := area_W HF
    obtain ⟨rb, eb, kb⟩ := area_W hg
    have hA := aT_turn (p1, p2) (Int.tmod p3 1000, Int.tmod p4 1000) (wl p) (wl_ne ho) _ (Nat.le_refl _)
    rw [List.length_map, hA] at kb
    have hAb := aT_b g _ hg g.length (Nat.le_refl _)
    have hgt := hg.tot
    rw [List.take_length, hg.len, List.length_map, hA] at hAb
    have m1 := abs_mul_le (a := p1) (b := p1) (m := 900) (n := 900) (by omega) (by omega)
    have m2 := abs_mul_le (a := p2) (b := p2) (m := 900) (n := 900) (by omega) (by omega)
    rw [w64 (x := p1 * p1) (by omega) (by omega), w64 (x := p2 * p2) (by omega) (by omega), w64 (x := p1 * p1 + p2 * p2) (by omega) (by omega)]
    obtain ⟨rm, em, km⟩ := fmul_I ka (i2f_I (p1 * p1 + p2 * p2) (by omega)) (by rw [Int.mul_comm]; simp only at hAb; omega)
    have hne := fne_I kb km (by simp only; rw [Int.mul_comm])
    rw [ea, Option.bind_some, eb, Option.bind_some]
    simp only []
    rw [show (((0 : Int) != 0) || ((0 : Int) != 0)) = false from rfl, cond_false, em, Option.bind_some, hne, cond_false]
    have r1 := around_W HF sq iq
    obtain ⟨r, q, d1, d2, d3, b1, b2⟩ := mv_I sq iq su (by simp only; omega) (by simp only; omega) ss t3 t4
    rw [r1, Option.bind_some, d1, Option.bind_some, d2, Option.bind_some, from_I d3 (by omega) (by omega), Option.bind_some]
    have hc := arT_turn hu (Int.tmod p3 1000, Int.tmod p4 1000) (p3, p4) (wl p) (wl_ne ho) _ (Nat.le_refl _)
    cases hin : (inB (mvP (p1, p2) (Int.tmod p3 1000, Int.tmod p4 1000) (p3, p4)).1 && inB (mvP (p1, p2) (Int.tmod p3 1000, Int.tmod p4 1000) (p3, p4)).2) with
    | false =>
      rw [if_neg (by simp)]
      cases arT (p3, p4) (wl p) (wl p).length <;> rfl
    | true =>
      have hI := (inB_iff _).1 hin
      rw [if_pos rfl]
      have r2 := around_W hg d3 hI
      rw [List.length_map, hc] at r2
      obtain ⟨i1, i2, i3, i4⟩ := hI
      simp only [Bool.not_true, cond_false, r2, Option.bind_some]
      rw [decide_eq_true i1, decide_eq_true i2, decide_eq_true i3, decide_eq_true i4]
      cases arT (p3, p4) (wl p) (wl p).length with
      | none => rfl
      | some m => simp
end Go.Proofs.YtocfjohangcajaaDoor
