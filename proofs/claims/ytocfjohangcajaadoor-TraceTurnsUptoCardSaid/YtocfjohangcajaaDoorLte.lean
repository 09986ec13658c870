/- TraceTurns: turned and moved; the least box. No condition. -/
import Derived.Test.YtocfjohangcajaaDoorLtc
set_option linter.unusedSimpArgs false
set_option linter.unusedVariables false
namespace Go.Proofs.YtocfjohangcajaaDoor
open Fl

/-! ## Turned and moved -/
def mvW (u s p : Int × Int) : Int × Int := (p.1 * u.1 - p.2 * u.2 + s.1, p.1 * u.2 + p.2 * u.1 + s.2)
theorem mvW_I {z zu zs : Nat × Nat} {p u s : Int × Int} (h : Sp z p) (hp : InB p) (hu : Sp zu u) (iu : InB u) (hs : Sp zs s) (is : InB s) :
    (∃ r q, cmul z zu = some r ∧ cadd r zs = some q ∧ Sp q (mvW u s p)) ∧ (p.1 * u.1).natAbs ≤ 1000000000000 ∧ (p.2 * u.2).natAbs ≤ 1000000000000 ∧ (p.1 * u.2).natAbs ≤ 1000000000000 ∧ (p.2 * u.1).natAbs ≤ 1000000000000 := by
  obtain ⟨a1, a2, a3, a4⟩ := hp
  obtain ⟨c1, c2, c3, c4⟩ := iu
  obtain ⟨d1, d2, d3, d4⟩ := is
  have b1 := abs_mul_le (a := p.1) (b := u.1) (m := 1000000) (n := 1000000) (by omega) (by omega)
  have b2 := abs_mul_le (a := p.2) (b := u.2) (m := 1000000) (n := 1000000) (by omega) (by omega)
  have b3 := abs_mul_le (a := p.1) (b := u.2) (m := 1000000) (n := 1000000) (by omega) (by omega)
  have b4 := abs_mul_le (a := p.2) (b := u.1) (m := 1000000) (n := 1000000) (by omega) (by omega)
  refine ⟨?_, b1, b2, b3, b4⟩
  obtain ⟨r1, e1, i1⟩ := fmul_I h.1 hu.1 (by omega)
  obtain ⟨r2, e2, i2⟩ := fmul_I h.2 hu.2 (by omega)
  obtain ⟨r3, e3, i3⟩ := fmul_I h.1 hu.2 (by omega)
  obtain ⟨r4, e4, i4⟩ := fmul_I h.2 hu.1 (by omega)
  obtain ⟨r5, e5, i5⟩ := fsub_I i1 i2 (by omega)
  obtain ⟨r6, e6, i6⟩ := fadd_I i3 i4 (by omega)
  obtain ⟨q, e7, i7⟩ := cadd_I (z := (r5, r6)) (w := zs) (p := (p.1 * u.1 - p.2 * u.2, p.1 * u.2 + p.2 * u.1)) (q := s) ⟨i5, i6⟩ hs (by dsimp only; omega) (by dsimp only; omega)
  exact ⟨(r5, r6), q, by simp only [cmul, e1, e2, e3, e4, e5, e6, Option.bind_some, Option.map_some], e7, i7⟩
def mkP (p : Int × Int) : T_lecternref10_Spot := ⟨p.1, p.2⟩
theorem mkW_Spots (ps : List (Int × Int)) (c : Bool) : (mkW (ps, c)).Spots = ps.map mkP := rfl
section
variable {zu zs : Nat × Nat} {u s : Int × Int} (hu : Sp zu u) (iu : InB u) (hs : Sp zs s) (is : InB s)
include hu iu hs is
theorem turns_l1 (x : T_trace_Stroke) {y : List (Int × Int) × Bool} (H : SpL x.Spots y.1) (hl : y.1.length ≤ 500) (c : Bool) :
    ∃ o q, iter (F_trace_Turn_l1 zu zs x) FUEL ([], c, (0 : Int)) = some o ∧ iter (F_lecternref10_Turn_l1 (mkP u) (mkP s) (mkW y)) FUEL ([], c, (0 : Int)) = some q ∧
      ((∃ ws qs, o = .inl (ws, c) ∧ q = .inl (qs.map mkP, c) ∧ SpL ws qs ∧ ws.length = x.Spots.length) ∨ (o = .inr ([], 5) ∧ q = .inr ([], false))) := by
  have hL := H.len
  have hgl : (mkW y).Spots.length = y.1.length := mkW_len y
  have hh := iter_two (b := F_trace_Turn_l1 zu zs x) (c := F_lecternref10_Turn_l1 (mkP u) (mkP s) (mkW y)) (fun a => x.Spots.length - a.2.2.toNat)
    (fun a b => ∃ (i : Nat) (ws : List (Nat × Nat)) (qs : List (Int × Int)), i ≤ x.Spots.length ∧ SpL ws qs ∧ ws.length = i ∧ a = (ws, c, (i : Int)) ∧ b = (qs.map mkP, c, (i : Int)))
    (fun o q => (∃ ws qs, o = .inl (ws, c) ∧ q = .inl (qs.map mkP, c) ∧ SpL ws qs ∧ ws.length = x.Spots.length) ∨ (o = .inr ([], 5) ∧ q = .inr ([], false)))
    ?_ FUEL FUEL ([], c, (0 : Int)) ([], c, (0 : Int)) ⟨0, [], [], Nat.zero_le _, SpL.nil, rfl, rfl, rfl⟩ (by unfold FUEL; dsimp only; omega) (by unfold FUEL; dsimp only; omega)
  · exact hh
  rintro _ _ ⟨i, ws, qs, hi, hw, hwl, rfl, rfl⟩
  by_cases hlt : i < x.Spots.length
  · have hi2 : i < y.1.length := by omega
    have hz := H.sp i hlt hi2
    have hp := H.inb _ (List.getElem_mem hi2)
    obtain ⟨⟨r, q, e1, e2, e3⟩, b1, b2, b3, b4⟩ := mvW_I hz hp hu iu hs is
    have hin := is
    obtain ⟨d1, d2, d3, d4⟩ := hin
    have hgx : idx (mkW y).Spots (i : Int) = some (mkP y.1[i]) := by
      rw [idx_some (by rw [hgl]; exact hi2)]; simp [mkW, mkP]
    have hsp := spot_I e3 (by unfold mvW; dsimp only; omega) (by unfold mvW; dsimp only; omega)
    have hwq := hw.len
    have hR : ∀ rec, F_lecternref10_Turn_l1 (mkP u) (mkP s) (mkW y) rec (qs.map mkP, c, (i : Int)) = cond (!(inB (mvW u s y.1[i]).1 && inB (mvW u s y.1[i]).2)) (some (.inr ([], false))) ((app 16 (qs.map mkP) [mkP (mvW u s y.1[i])]).bind fun _ => rec (qs.map mkP ++ [mkP (mvW u s y.1[i])], c, ((i + 1 : Nat) : Int))) := by
      intro rec
      unfold F_lecternref10_Turn_l1
      dsimp only
      rw [decide_eq_true (by omega), cond_true, hgx, Option.bind_some]
      simp only [mkP, letJ]
      rw [w64 (x := y.1[i].1 * u.1) (by omega) (by omega), w64 (x := y.1[i].2 * u.2) (by omega) (by omega), w64 (x := y.1[i].1 * u.2) (by omega) (by omega), w64 (x := y.1[i].2 * u.1) (by omega) (by omega), w64 (x := y.1[i].1 * u.1 - y.1[i].2 * u.2) (by omega) (by omega), w64 (x := y.1[i].1 * u.2 + y.1[i].2 * u.1) (by omega) (by omega), w64 (x := y.1[i].1 * u.1 - y.1[i].2 * u.2 + s.1) (by omega) (by omega), w64 (x := y.1[i].1 * u.2 + y.1[i].2 * u.1 + s.2) (by omega) (by omega), w64 (x := (i : Int) + 1) (by omega) (by omega), rpart, rpart, Option.bind_some, Option.bind_some]
      unfold mvW
      dsimp only
      cases inB (y.1[i].1 * u.1 - y.1[i].2 * u.2 + s.1) with
      | false => rfl
      | true => cases inB (y.1[i].1 * u.2 + y.1[i].2 * u.1 + s.2) <;> rfl
    have hP : ∀ rec, F_trace_Turn_l1 zu zs x rec (ws, c, (i : Int)) = cond (!(inB (mvW u s y.1[i]).1 && inB (mvW u s y.1[i]).2)) (some (.inr ([], 5))) ((app 16 ws [q]).bind fun _ => rec (ws ++ [q], c, ((i + 1 : Nat) : Int))) := by
      intro rec
      unfold F_trace_Turn_l1
      dsimp only
      rw [decide_eq_true (by omega), cond_true, idx_some hlt, Option.bind_some, e1, Option.bind_some, e2, Option.bind_some, hsp, Option.bind_some, w64 (x := (i : Int) + 1) (by omega) (by omega)]
      rfl
    cases hb : (inB (mvW u s y.1[i]).1 && inB (mvW u s y.1[i]).2) with
    | false =>
      right
      exact ⟨_, _, fun rec => by rw [hP, hb]; rfl, fun rec => by rw [hR, hb]; rfl, .inr ⟨rfl, rfl⟩⟩
    | true =>
      left
      have hib := (inB_iff _).1 hb
      refine ⟨(ws ++ [q], c, ((i + 1 : Nat) : Int)), ((qs ++ [mvW u s y.1[i]]).map mkP, c, ((i + 1 : Nat) : Int)), fun rec => ?_, fun rec => ?_, ⟨i + 1, ws ++ [q], qs ++ [mvW u s y.1[i]], by omega, hw.snoc e3 hib, by rw [List.length_append, hwl]; rfl, rfl, rfl⟩, by dsimp only; omega⟩
      · rw [hP, hb, Bool.not_true, cond_false, app_some (by simp; omega) (by simp; omega), Option.bind_some]
      · rw [hR, hb, Bool.not_true, cond_false, app_some (by simp; omega) (by simp; omega), Option.bind_some, List.map_append]; rfl
  · right
    have : i = x.Spots.length := by omega
    refine ⟨.inl (ws, c), .inl (qs.map mkP, c), fun rec => ?_, fun rec => ?_, .inl ⟨ws, qs, rfl, rfl, hw, by omega⟩⟩
    · unfold F_trace_Turn_l1
      dsimp only
      rw [decide_eq_false (by omega), cond_false]
    · unfold F_lecternref10_Turn_l1
      dsimp only
      rw [decide_eq_false (by omega), cond_false]
theorem turns_both {f : List T_trace_Stroke} {L : FgW} (H : FigW f L) :
    (F_trace_Turn f zu zs = some ([], 5) ∧ F_lecternref10_Turn (L.map mkW) (mkP u) (mkP s) = some ([], false)) ∨
    (∃ g M, F_trace_Turn f zu zs = some (g, 0) ∧ F_lecternref10_Turn (L.map mkW) (mkP u) (mkP s) = some (M.map mkW, true) ∧ FR g M ∧ lens g ≤ 500) := by
  have hlen := H.len
  have hcnt := H.cnt
  have htot := H.tot
  have hh := iter_two (b := F_trace_Turn_l0 f zu zs) (c := F_lecternref10_Turn_l0 (L.map mkW) (mkP u) (mkP s)) (fun a => f.length - a.2.toNat)
    (fun a b => ∃ (i : Nat) (g : List T_trace_Stroke) (M : FgW), i ≤ f.length ∧ FR g M ∧ lens g = lens (f.take i) ∧ g.length = i ∧ a = (g, (i : Int)) ∧ b = (M.map mkW, (i : Int)))
    (fun o q => (o = .inr ([], 5) ∧ q = .inr ([], false)) ∨ (∃ g M, o = .inl g ∧ q = .inl (M.map mkW) ∧ FR g M ∧ lens g ≤ 500))
    ?_ FUEL FUEL ([], (0 : Int)) ([], (0 : Int)) ⟨0, [], [], Nat.zero_le _, .nil, rfl, rfl, rfl, rfl⟩ (by unfold FUEL; dsimp only; omega) (by unfold FUEL; dsimp only; omega)
  · obtain ⟨o, q, e1, e2, h⟩ := hh
    unfold F_trace_Turn F_lecternref10_Turn
    rw [right_ok H.fig, Option.bind_some]
    simp only [letJ, Bool.not_true, cond_false, spot_in hu iu, spot_in hs is, Option.bind_some, e1, e2]
    rcases h with ⟨rfl, rfl⟩ | ⟨g, M, rfl, rfl, h1, h2⟩
    · exact .inl ⟨rfl, rfl⟩
    · exact .inr ⟨g, M, rfl, rfl, h1, h2⟩
  rintro _ _ ⟨i, g, M, hi, hg, hgt, hgl, rfl, rfl⟩
  have hML := hg.len
  by_cases hlt : i < f.length
  · have hi2 : i < L.length := by omega
    have hi3 : i < (L.map mkW).length := by rw [List.length_map]; exact hi2
    obtain ⟨s1, s2, s3⟩ := H.st i hlt hi2
    have hsm := H.small i hlt hi2
    have hcl : (mkW L[i]).Closed = f[i].Closed := by rw [s3]; rfl
    obtain ⟨o, q, e1, e2, hres⟩ := turns_l1 hu iu hs is f[i] s2 hsm f[i].Closed
    rcases hres with ⟨ws, qs, rfl, rfl, hw, hwl⟩ | ⟨rfl, rfl⟩
    · left
      have hst : StR ⟨ws, f[i].Closed⟩ (qs, f[i].Closed) := ⟨by
        intro h
        have h' : ws = [] := h
        rw [h'] at hwl
        exact s1 (List.eq_nil_of_length_eq_zero hwl.symm), hw, rfl⟩
      refine ⟨(g ++ [⟨ws, f[i].Closed⟩], ((i + 1 : Nat) : Int)), ((M ++ [(qs, f[i].Closed)]).map mkW, ((i + 1 : Nat) : Int)), fun rec => ?_, fun rec => ?_, ⟨i + 1, _, _, by omega, .snoc hg hst, by rw [lens_app, lens_one, lens_take f i hlt, hgt]; show _ + ws.length = _; rw [hwl], by rw [List.length_append, hgl]; rfl, rfl, rfl⟩, by dsimp only; omega⟩
      · unfold F_trace_Turn_l0
        simp only [letJ]
        rw [decide_eq_true (by omega), cond_true, idx_some hlt, Option.bind_some, e1, Option.bind_some]
        dsimp only
        rw [app_some (by simp; omega) (by simp; omega), Option.bind_some, w64 (by omega) (by omega)]; rfl
      · unfold F_lecternref10_Turn_l0
        simp only [letJ]
        rw [decide_eq_true (by omega), cond_true, idx_some hi3, Option.bind_some, List.getElem_map, hcl, e2, Option.bind_some]
        dsimp only
        rw [app_some (by simp; omega) (by simp; omega), Option.bind_some, w64 (by omega) (by omega), List.map_append]; rfl
    · right
      refine ⟨.inr ([], 5), .inr ([], false), fun rec => ?_, fun rec => ?_, .inl ⟨rfl, rfl⟩⟩
      · unfold F_trace_Turn_l0
        simp only [letJ]
        rw [decide_eq_true (by omega), cond_true, idx_some hlt, Option.bind_some, e1, Option.bind_some]
      · unfold F_lecternref10_Turn_l0
        simp only [letJ]
        rw [decide_eq_true (by omega), cond_true, idx_some hi3, Option.bind_some, List.getElem_map, hcl, e2, Option.bind_some]
  · right
    have : i = f.length := by omega
    refine ⟨.inl g, .inl (M.map mkW), fun rec => ?_, fun rec => ?_, .inr ⟨g, M, rfl, rfl, hg, by rw [hgt]; exact Nat.le_trans (lens_le f i) htot⟩⟩
    · unfold F_trace_Turn_l0
      simp only [letJ]
      rw [decide_eq_false (by omega), cond_false]
    · unfold F_lecternref10_Turn_l0
      simp only [letJ]
      rw [decide_eq_false (by rw [List.length_map]; omega), cond_false]
end

/-! ## The least box -/
theorem fmin_I {x y : Nat} {a b : Int} (hx : isI x a) (hy : isI y b) : ∃ r, fmin x y = some r ∧ isI r (min a b) := by
  unfold fmin; rw [ord_I hx hy]
  rcases cmp_cases a b with ⟨h, e⟩ | ⟨h, e⟩ | ⟨h, e⟩ <;> rw [e]
  · exact ⟨x, rfl, by rw [Int.min_eq_left (by omega)]; exact hx⟩
  · refine ⟨_, rfl, ?_⟩
    subst h
    rw [Int.min_self]
    split
    · exact hx
    · exact hy
  · exact ⟨y, rfl, by rw [Int.min_eq_right (by omega)]; exact hy⟩
theorem fmax_I {x y : Nat} {a b : Int} (hx : isI x a) (hy : isI y b) : ∃ r, fmax x y = some r ∧ isI r (max a b) := by
  unfold fmax; rw [ord_I hx hy]
  rcases cmp_cases a b with ⟨h, e⟩ | ⟨h, e⟩ | ⟨h, e⟩ <;> rw [e]
  · exact ⟨y, rfl, by rw [Int.max_eq_right (by omega)]; exact hy⟩
  · refine ⟨_, rfl, ?_⟩
    subst h
    rw [Int.max_self]
    split
    · exact hy
    · exact hx
  · exact ⟨x, rfl, by rw [Int.max_eq_left (by omega)]; exact hx⟩
/-- The least box about spots. -/
structure BoxR (S : List (Int × Int)) (lo hi : Int × Int) : Prop where
  all : ∀ p ∈ S, lo.1 ≤ p.1 ∧ p.1 ≤ hi.1 ∧ lo.2 ≤ p.2 ∧ p.2 ≤ hi.2
  w : ∃ p ∈ S, p.1 = lo.1
  e : ∃ p ∈ S, p.1 = hi.1
  n : ∃ p ∈ S, p.2 = lo.2
  s : ∃ p ∈ S, p.2 = hi.2
theorem min_or (a b : Int) : (min a b = a ∧ a ≤ b) ∨ (min a b = b ∧ b ≤ a) := by
  rcases Int.le_total a b with h | h
  · exact .inl ⟨Int.min_eq_left h, h⟩
  · exact .inr ⟨Int.min_eq_right h, h⟩
theorem max_or (a b : Int) : (max a b = a ∧ b ≤ a) ∨ (max a b = b ∧ a ≤ b) := by
  rcases Int.le_total a b with h | h
  · exact .inr ⟨Int.max_eq_right h, h⟩
  · exact .inl ⟨Int.max_eq_left h, h⟩
theorem BoxR.snoc {S : List (Int × Int)} {lo hi : Int × Int} (h : BoxR S lo hi) (p : Int × Int) : BoxR (S ++ [p]) (min lo.1 p.1, min lo.2 p.2) (max hi.1 p.1, max hi.2 p.2) := by
  obtain ⟨h0, ⟨w, w1, w2⟩, ⟨e, e1, e2⟩, ⟨n, n1, n2⟩, ⟨s, s1, s2⟩⟩ := h
  refine ⟨?_, ?_, ?_, ?_, ?_⟩
  · intro q hq
    rw [List.mem_append, List.mem_singleton] at hq
    have m1 := min_or lo.1 p.1
    have m2 := min_or lo.2 p.2
    have m3 := max_or hi.1 p.1
    have m4 := max_or hi.2 p.2
    dsimp only
    rcases hq with hq | rfl
    · have := h0 q hq; omega
    · omega
  · rcases min_or lo.1 p.1 with ⟨h, _⟩ | ⟨h, _⟩
    · exact ⟨w, List.mem_append_left _ w1, by dsimp only; omega⟩
    · exact ⟨p, List.mem_append_right _ (List.mem_singleton.2 rfl), by dsimp only; omega⟩
  · rcases max_or hi.1 p.1 with ⟨h, _⟩ | ⟨h, _⟩
    · exact ⟨e, List.mem_append_left _ e1, by dsimp only; omega⟩
    · exact ⟨p, List.mem_append_right _ (List.mem_singleton.2 rfl), by dsimp only; omega⟩
  · rcases min_or lo.2 p.2 with ⟨h, _⟩ | ⟨h, _⟩
    · exact ⟨n, List.mem_append_left _ n1, by dsimp only; omega⟩
    · exact ⟨p, List.mem_append_right _ (List.mem_singleton.2 rfl), by dsimp only; omega⟩
  · rcases max_or hi.2 p.2 with ⟨h, _⟩ | ⟨h, _⟩
    · exact ⟨s, List.mem_append_left _ s1, by dsimp only; omega⟩
    · exact ⟨p, List.mem_append_right _ (List.mem_singleton.2 rfl), by dsimp only; omega⟩
theorem BoxR.inb {S : List (Int × Int)} {lo hi : Int × Int} (h : BoxR S lo hi) (hS : ∀ p ∈ S, InB p) : InB lo ∧ InB hi := by
  obtain ⟨h0, ⟨w, w1, w2⟩, ⟨e, e1, e2⟩, ⟨n, n1, n2⟩, ⟨s, s1, s2⟩⟩ := h
  have a1 := hS w w1
  have a2 := hS e e1
  have a3 := hS n n1
  have a4 := hS s s1
  unfold InB at *
  omega
def ptsW (L : FgW) : List (Int × Int) := (L.map (·.1)).flatten
theorem ptsW_take (L : FgW) (i : Nat) (h : i < L.length) : ptsW (L.take (i + 1)) = ptsW (L.take i) ++ L[i].1 := by
  unfold ptsW
  rw [map_take _ _ _ h, List.flatten_append]; simp
/-- A box, with its floats. -/
def BoxI (S : List (Int × Int)) (lo hi : Nat × Nat) : Prop := ∃ a b, Sp lo a ∧ Sp hi b ∧ BoxR S a b
theorem box_l1 (x : T_trace_Stroke) {ps : List (Int × Int)} (H : SpL x.Spots ps) (hl : ps.length ≤ 500) (S : List (Int × Int)) (lo hi : Nat × Nat) (h : BoxI S lo hi) :
    ∃ lo' hi', iter (F_trace_Box_l1 x) FUEL (lo, hi, (0 : Int)) = some (lo', hi') ∧ BoxI (S ++ ps) lo' hi' := by
  have hL := H.len
  obtain ⟨o, h1, lo', hi', rfl, h2⟩ := iter_spec (b := F_trace_Box_l1 x) (fun i y => ∃ lo hi, y = (lo, hi, (i : Int)) ∧ BoxI (S ++ ps.take i) lo hi) (fun o => ∃ lo' hi', o = (lo', hi') ∧ BoxI (S ++ ps) lo' hi') ps.length (x0 := (lo, hi, (0 : Int))) ⟨lo, hi, rfl, by simpa using h⟩
    (fun i y rec hi ⟨lo, hi', hy, a, b, ha, hb, hB⟩ => by
      left
      subst hy
      have hi2 : i < x.Spots.length := by omega
      have hz := H.sp i hi2 hi
      obtain ⟨r1, e1, k1⟩ := fmin_I ha.1 hz.1
      obtain ⟨r2, e2, k2⟩ := fmin_I ha.2 hz.2
      obtain ⟨r3, e3, k3⟩ := fmax_I hb.1 hz.1
      obtain ⟨r4, e4, k4⟩ := fmax_I hb.2 hz.2
      refine ⟨((r1, r2), (r3, r4), ((i + 1 : Nat) : Int)), ?_, (r1, r2), (r3, r4), rfl, (min a.1 ps[i].1, min a.2 ps[i].2), (max b.1 ps[i].1, max b.2 ps[i].2), ⟨k1, k2⟩, ⟨k3, k4⟩, ?_⟩
      · unfold F_trace_Box_l1
        dsimp only
        rw [decide_eq_true (by omega), cond_true, idx_some hi2, Option.bind_some, e1, Option.bind_some, e2, Option.bind_some, e3, Option.bind_some, e4, Option.bind_some, w64 (by omega) (by omega)]; rfl
      · rw [List.take_add_one, List.getElem?_eq_getElem hi, Option.toList_some, ← List.append_assoc]
        exact hB.snoc ps[i])
    (fun y rec ⟨lo, hi', hy, hB⟩ => by
      subst hy
      refine ⟨(lo, hi'), ?_, lo, hi', rfl, by rw [List.take_length] at hB; exact hB⟩
      unfold F_trace_Box_l1
      dsimp only
      rw [decide_eq_false (by omega), cond_false]) (n := FUEL) (by unfold FUEL; omega)
  exact ⟨lo', hi', h1, h2⟩
theorem box_W {f : List T_trace_Stroke} {L : FgW} (H : FigW f L) (hne : L ≠ []) : ∃ lo hi, F_trace_Box f = some (lo, hi, 0) ∧ BoxI (ptsW L) lo hi := by
  have hlen := H.len
  have hcnt := H.cnt
  have h0 : 0 < L.length := List.length_pos_iff.2 hne
  have h0f : 0 < f.length := by omega
  obtain ⟨s1, s2, s3⟩ := H.st 0 h0f h0
  have hx0 : 0 < f[0].Spots.length := List.length_pos_iff.2 s1
  have hy0 : 0 < L[0].1.length := by rw [← s2.len]; exact hx0
  have hz := s2.sp 0 hx0 hy0
  have hmem : L[0].1[0] ∈ ptsW L := by
    unfold ptsW
    rw [List.mem_flatten]
    exact ⟨L[0].1, List.mem_map.2 ⟨L[0], List.getElem_mem _, rfl⟩, List.getElem_mem _⟩
  generalize hz0 : f[0].Spots[0] = z0 at hz
  generalize hp0 : L[0].1[0] = q0 at hz hmem
  obtain ⟨o, h1, lo', hi', rfl, h2⟩ := iter_spec (b := F_trace_Box_l0 f) (fun i y => ∃ lo hi, y = (lo, hi, (i : Int)) ∧ BoxI (q0 :: ptsW (L.take i)) lo hi) (fun o => ∃ lo' hi', o = (lo', hi') ∧ BoxI (q0 :: ptsW L) lo' hi') f.length (x0 := (z0, z0, (0 : Int))) ⟨z0, z0, rfl, q0, q0, hz, hz, by simp [ptsW], ⟨q0, by simp, rfl⟩, ⟨q0, by simp, rfl⟩, ⟨q0, by simp, rfl⟩, ⟨q0, by simp, rfl⟩⟩
    (fun i y rec hi ⟨lo, hi', hy, hB⟩ => by
      left
      subst hy
      have hi2 : i < L.length := by omega
      obtain ⟨t1, t2, t3⟩ := H.st i hi hi2
      obtain ⟨lo2, hi2', e1, e2⟩ := box_l1 f[i] t2 (H.small i hi hi2) _ _ _ hB
      refine ⟨(lo2, hi2', ((i + 1 : Nat) : Int)), ?_, lo2, hi2', rfl, ?_⟩
      · unfold F_trace_Box_l0
        simp only [letJ]
        rw [decide_eq_true (by omega), cond_true, idx_some hi, Option.bind_some, e1, Option.bind_some, w64 (by omega) (by omega)]; rfl
      · rw [ptsW_take L i hi2]; exact e2)
    (fun y rec ⟨lo, hi', hy, hB⟩ => by
      subst hy
      refine ⟨(lo, hi'), ?_, lo, hi', rfl, by rw [hlen, List.take_length] at hB; exact hB⟩
      unfold F_trace_Box_l0
      simp only [letJ]
      rw [decide_eq_false (by omega), cond_false]) (n := FUEL) (by unfold FUEL; omega)
  obtain ⟨a, b, ha, hb, hB⟩ := h2
  refine ⟨lo', hi', ?_, a, b, ha, hb, ?_⟩
  · unfold F_trace_Box
    rw [right_ok H.fig, Option.bind_some, Bool.not_true, cond_false, show ((f.length : Int) == 0) = false by rw [beq_eq_false_iff_ne]; omega, cond_false, show (0 : Int) = ((0 : Nat) : Int) from rfl, idx_some h0f, Option.bind_some, idx_some hx0, Option.bind_some, hz0]
    simp only [letJ]
    rw [show ((0 : Nat) : Int) = (0 : Int) from rfl, h1, Option.bind_some]
  · have key : ∀ {Q : Int × Int → Prop}, (∃ p ∈ q0 :: ptsW L, Q p) → ∃ p ∈ ptsW L, Q p := by
      rintro Q ⟨p, hp, hq⟩
      rcases List.mem_cons.1 hp with rfl | hp
      · exact ⟨_, hmem, hq⟩
      · exact ⟨p, hp, hq⟩
    exact ⟨fun p hp => hB.all p (List.mem_cons_of_mem _ hp), key hB.w, key hB.e, key hB.n, key hB.s⟩

/-! ## What the law asks of it -/
def sdB (S : List (Int × Int)) (a b : Int × Int) : Bool × Bool × Bool × Bool := (S.any (·.1 == a.1), S.any (·.1 == b.1), S.any (·.2 == a.2), S.any (·.2 == b.2))
theorem boxed_l1 (y : List (Int × Int) × Bool) (a b : Int × Int) (hl : y.1.length ≤ 500) (S : List (Int × Int)) (hB : ∀ p ∈ y.1, a.1 ≤ p.1 ∧ p.1 ≤ b.1 ∧ a.2 ≤ p.2 ∧ p.2 ≤ b.2) :
    iter (F_lecternlaw10_boxed_l1 (mkP a, true) (mkP b, true) (mkW y)) FUEL ((sdB S a b).1, (sdB S a b).2.1, (sdB S a b).2.2.1, (sdB S a b).2.2.2, (0 : Int)) = some (.inl (sdB (S ++ y.1) a b)) := by
  have hgl : (mkW y).Spots.length = y.1.length := mkW_len y
  obtain ⟨o, h1, rfl⟩ := iter_spec (b := F_lecternlaw10_boxed_l1 (mkP a, true) (mkP b, true) (mkW y)) (fun i x => x = ((sdB (S ++ y.1.take i) a b).1, (sdB (S ++ y.1.take i) a b).2.1, (sdB (S ++ y.1.take i) a b).2.2.1, (sdB (S ++ y.1.take i) a b).2.2.2, (i : Int))) (fun o => o = .inl (sdB (S ++ y.1) a b)) y.1.length (x0 := ((sdB S a b).1, (sdB S a b).2.1, (sdB S a b).2.2.1, (sdB S a b).2.2.2, (0 : Int))) (by simp)
    (fun i x rec hi hx => by
      left
      subst hx
      have hgx : idx (mkW y).Spots (i : Int) = some (mkP y.1[i]) := by
        rw [idx_some (by rw [hgl]; exact hi)]; simp [mkW, mkP]
      obtain ⟨b1, b2, b3, b4⟩ := hB _ (List.getElem_mem hi)
      refine ⟨_, ?_, rfl⟩
      unfold F_lecternlaw10_boxed_l1
      dsimp only
      rw [decide_eq_true (by omega), cond_true, hgx, Option.bind_some]
      show cond ((((decide (y.1[i].1 < a.1)) || (decide (b.1 < y.1[i].1))) || (decide (y.1[i].2 < a.2))) || (decide (b.2 < y.1[i].2))) _ _ = _
      rw [decide_eq_false (p := y.1[i].1 < a.1) (by omega), decide_eq_false (p := b.1 < y.1[i].1) (by omega), decide_eq_false (p := y.1[i].2 < a.2) (by omega), decide_eq_false (p := b.2 < y.1[i].2) (by omega)]
      rw [show (((false || false) || false) || false) = false from rfl, cond_false, w64 (by omega) (by omega)]
      have e : ∀ g : Int × Int → Bool, (S ++ y.1.take (i + 1)).any g = ((S ++ y.1.take i).any g || g y.1[i]) := by
        intro g
        rw [List.take_add_one, List.getElem?_eq_getElem hi, Option.toList_some, ← List.append_assoc, List.any_append (ys := [y.1[i]])]
        simp only [List.any_cons, List.any_nil, Bool.or_false]
      simp only [sdB, e]
      rfl)
    (fun x rec hx => ⟨_, by
      subst hx
      unfold F_lecternlaw10_boxed_l1
      dsimp only
      rw [decide_eq_false (by omega), cond_false, List.take_length], rfl⟩) (n := FUEL) (by unfold FUEL; omega)
  exact h1
theorem any_of {S : List (Int × Int)} {c : Int} {g : Int × Int → Int} (h : ∃ p ∈ S, g p = c) : S.any (fun p => g p == c) = true := by
  obtain ⟨p, hp, hc⟩ := h
  rw [List.any_eq_true]
  exact ⟨p, hp, by simp [hc]⟩
theorem boxed_W {L : FgW} (hlen : L.length ≤ 500) (hsm : ∀ y ∈ L, y.1.length ≤ 500) (hin : ∀ y ∈ L, InL y.1) {lo hi : Nat × Nat} (h : BoxI (ptsW L) lo hi) : F_lecternlaw10_boxed (L.map mkW) lo hi = some true := by
  obtain ⟨a, b, ha, hb, hB⟩ := h
  have hS : ∀ p ∈ ptsW L, InB p := by
    intro p hp
    unfold ptsW at hp
    rw [List.mem_flatten] at hp
    obtain ⟨l, hl, hp⟩ := hp
    rw [List.mem_map] at hl
    obtain ⟨y, hy, rfl⟩ := hl
    exact hin y hy p hp
  obtain ⟨ia, ib⟩ := hB.inb hS
  have ia' := (inB_iff a).2 ia
  have ib' := (inB_iff b).2 ib
  obtain ⟨a1, a2, a3, a4⟩ := ia
  obtain ⟨b1, b2, b3, b4⟩ := ib
  obtain ⟨o, h1, rfl⟩ := iter_spec (b := F_lecternlaw10_boxed_l0 (L.map mkW) (mkP a, true) (mkP b, true)) (fun i x => x = ((sdB (ptsW (L.take i)) a b).1, (sdB (ptsW (L.take i)) a b).2.1, (sdB (ptsW (L.take i)) a b).2.2.1, (sdB (ptsW (L.take i)) a b).2.2.2, (i : Int))) (fun o => o = .inl (sdB (ptsW L) a b)) L.length (x0 := (false, false, false, false, (0 : Int))) (by simp [sdB, ptsW])
    (fun i x rec hi hx => by
      left
      subst hx
      have hi3 : i < (L.map mkW).length := by rw [List.length_map]; exact hi
      refine ⟨_, ?_, rfl⟩
      unfold F_lecternlaw10_boxed_l0
      simp only [letJ]
      rw [decide_eq_true (by omega), cond_true, idx_some hi3, Option.bind_some, List.getElem_map, boxed_l1 L[i] a b (hsm _ (List.getElem_mem _)) _ (fun p hp => hB.all p (by
        unfold ptsW
        rw [List.mem_flatten]
        exact ⟨L[i].1, List.mem_map.2 ⟨L[i], List.getElem_mem _, rfl⟩, hp⟩)), Option.bind_some, w64 (by omega) (by omega), ptsW_take L i hi]
      rfl)
    (fun x rec hx => ⟨_, by
      subst hx
      unfold F_lecternlaw10_boxed_l0
      simp only [letJ]
      rw [decide_eq_false (by rw [List.length_map]; omega), cond_false, List.take_length], rfl⟩) (n := FUEL) (by unfold FUEL; omega)
  unfold F_lecternlaw10_boxed
  rw [from_I ha (by omega) (by omega), if_pos ia', Option.bind_some, from_I hb (by omega) (by omega), if_pos ib', Option.bind_some]
  simp only [letJ]
  have h1' : iter (F_lecternlaw10_boxed_l0 (L.map mkW) (⟨a.1, a.2⟩, true) (⟨b.1, b.2⟩, true)) FUEL (false, false, false, false, (0 : Int)) = some (.inl (sdB (ptsW L) a b)) := h1
  rw [h1', Option.bind_some]
  have hs : sdB (ptsW L) a b = (true, true, true, true) := by
    unfold sdB
    rw [any_of (g := fun p => p.1) hB.w, any_of (g := fun p => p.1) hB.e, any_of (g := fun p => p.2) hB.n, any_of (g := fun p => p.2) hB.s]
  rw [hs]
  rfl

/-! ## The law -/
theorem wl_mkT (p : List T_lecternlaw10_Line) : (wl p).map mkW = p.map mkS := by
  unfold wl
  rw [List.map_map]
  rfl
theorem traceTurns (p : List T_lecternlaw10_Line) (H : InOk p) (p1 p2 p3 p4 : Int) (k1 : -9223372036854775808 ≤ p1 ∧ p1 ≤ 9223372036854775807) (k2 : -9223372036854775808 ≤ p2 ∧ p2 ≤ 9223372036854775807)
    (k3 : -9223372036854775808 ≤ p3 ∧ p3 ≤ 9223372036854775807) (k4 : -9223372036854775808 ≤ p4 ∧ p4 ≤ 9223372036854775807) : F_lecternlaw10_TraceTurns p p1 p2 p3 p4 = some true := by
  unfold F_lecternlaw10_TraceTurns F_lecternlaw10_fits F_lecternlaw10_spot
  rw [awake_t]
  simp only [Option.bind_some, letJ, Bool.not_true, cond_false, figure_eq p H]
  cases ho : okFig p with
  | false =>
    have hr := right_eq p H
    rw [ho] at hr
    have e1 : F_trace_Turn (p.map mkF) (i2f p1, i2f p2) (i2f p3, i2f p4) = some ([], 1) := by
      unfold F_trace_Turn; rw [hr, Option.bind_some]; rfl
    have e2 : F_trace_Box (p.map mkF) = some ((0, 0), (0, 0), 1) := by
      unfold F_trace_Box; rw [hr, Option.bind_some]; rfl
    rw [e1, Option.bind_some, e2, Option.bind_some, Bool.not_false, cond_true]
    have h0 : ceq (0, 0) (0, 0) = true := by decide +kernel
    dsimp only
    rw [h0]; rfl
  | true =>
    have hW := figW_of ho
    have hgw := wl_mkT p
    have hcnt := hW.cnt
    have hlen := hW.len
    simp only [Bool.not_true, cond_false]
    have hfit : ∀ (t : List T_trace_Stroke) (e : Int), F_trace_Turn (p.map mkF) (i2f p1, i2f p2) (i2f p3, i2f p4) = some (t, e) →
        (cond (!((((decide ((-1000000 : Int) ≤ p1)) && (decide (p1 ≤ (1000000 : Int)))) && (decide ((-1000000 : Int) ≤ p2))) && (decide (p2 ≤ (1000000 : Int)))))
          (some ((e == (1 : Int)) && ((t.length : Int) == (0 : Int))))
          (cond (!((((decide ((-1000000 : Int) ≤ p3)) && (decide (p3 ≤ (1000000 : Int)))) && (decide ((-1000000 : Int) ≤ p4))) && (decide (p4 ≤ (1000000 : Int)))))
            (some ((e == (1 : Int)) && ((t.length : Int) == (0 : Int))))
            ((F_lecternref10_Turn (p.map mkS) (⟨p1, p2⟩ : T_lecternref10_Spot) (⟨p3, p4⟩ : T_lecternref10_Spot)).bind fun x39 =>
              cond (!x39.2) (some ((e == (5 : Int)) && ((t.length : Int) == (0 : Int))))
                (cond (e == (0 : Int)) ((F_lecternlaw10_same t x39.1).bind fun x45 => some x45) (some false))))) = some true := by
      intro t e he
      have f1 : ((((decide ((-1000000 : Int) ≤ p1)) && (decide (p1 ≤ (1000000 : Int)))) && (decide ((-1000000 : Int) ≤ p2))) && (decide (p2 ≤ (1000000 : Int)))) = (inB p1 && inB p2) := by unfold inB; simp only [Bool.and_assoc]
      have f2 : ((((decide ((-1000000 : Int) ≤ p3)) && (decide (p3 ≤ (1000000 : Int)))) && (decide ((-1000000 : Int) ≤ p4))) && (decide (p4 ≤ (1000000 : Int)))) = (inB p3 && inB p4) := by unfold inB; simp only [Bool.and_assoc]
      rw [f1, f2]
      have s1 := spot_int p1 p2 k1.1 k1.2 k2.1 k2.2
      have s2 := spot_int p3 p4 k3.1 k3.2 k4.1 k4.2
      have hT : (inB p1 && inB p2) = false ∨ (inB p3 && inB p4) = false → t = [] ∧ e = 1 := by
        intro h
        have : F_trace_Turn (p.map mkF) (i2f p1, i2f p2) (i2f p3, i2f p4) = some ([], 1) := by
          unfold F_trace_Turn
          rw [right_ok hW.fig, Option.bind_some]
          simp only [letJ, Bool.not_true, cond_false, s1, s2, Option.bind_some]
          rcases h with h | h
          · rw [h]; rfl
          · rw [h]; cases (inB p1 && inB p2) <;> rfl
        rw [this] at he
        injection he with he
        injection he with h1 h2
        exact ⟨h1.symm, h2.symm⟩
      cases g1 : (inB p1 && inB p2) with
      | false =>
        obtain ⟨rfl, rfl⟩ := hT (.inl g1)
        rfl
      | true =>
        rw [Bool.not_true, cond_false]
        cases g2 : (inB p3 && inB p4) with
        | false =>
          obtain ⟨rfl, rfl⟩ := hT (.inr g2)
          rfl
        | true =>
          rw [Bool.not_true, cond_false]
          have iu : InB (p1, p2) := (inB_iff (p1, p2)).1 g1
          have is : InB (p3, p4) := (inB_iff (p3, p4)).1 g2
          have hb := turns_both (sp_of _ _ iu) iu (sp_of _ _ is) is hW
          rw [hgw, he] at hb
          rcases hb with ⟨h1, h2⟩ | ⟨g, M, h1, h2, h3, h4⟩
          · injection h1 with h1
            injection h1 with h1 h5
            subst h1 h5
            have h2' : F_lecternref10_Turn (p.map mkS) (⟨p1, p2⟩ : T_lecternref10_Spot) (⟨p3, p4⟩ : T_lecternref10_Spot) = some ([], false) := h2
            rw [h2', Option.bind_some]; rfl
          · injection h1 with h1
            injection h1 with h1 h5
            subst h1 h5
            have h2' : F_lecternref10_Turn (p.map mkS) (⟨p1, p2⟩ : T_lecternref10_Spot) (⟨p3, p4⟩ : T_lecternref10_Spot) = some (M.map mkW, true) := h2
            rw [h2', Option.bind_some]
            dsimp only
            rw [Bool.not_true, cond_false, show ((0 : Int) == 0) = true from rfl, cond_true, same_W h3 h4]; rfl
    obtain ⟨t, e, hT⟩ : ∃ t e, F_trace_Turn (p.map mkF) (i2f p1, i2f p2) (i2f p3, i2f p4) = some (t, e) := by
      have s1 := spot_int p1 p2 k1.1 k1.2 k2.1 k2.2
      have s2 := spot_int p3 p4 k3.1 k3.2 k4.1 k4.2
      cases g1 : (inB p1 && inB p2) with
      | false => exact ⟨[], 1, by unfold F_trace_Turn; rw [right_ok hW.fig, Option.bind_some]; simp only [letJ, Bool.not_true, cond_false, s1, s2, Option.bind_some, g1]; rfl⟩
      | true =>
        cases g2 : (inB p3 && inB p4) with
        | false => exact ⟨[], 1, by unfold F_trace_Turn; rw [right_ok hW.fig, Option.bind_some]; simp only [letJ, Bool.not_true, cond_false, s1, s2, Option.bind_some, g1, g2]; rfl⟩
        | true =>
          have iu : InB (p1, p2) := (inB_iff (p1, p2)).1 g1
          have is : InB (p3, p4) := (inB_iff (p3, p4)).1 g2
          rcases turns_both (sp_of _ _ iu) iu (sp_of _ _ is) is hW with ⟨h1, _⟩ | ⟨g, M, h1, _⟩
          · exact ⟨_, _, h1⟩
          · exact ⟨_, _, h1⟩
    have hfin := hfit t e hT
    rw [hT, Option.bind_some]
    by_cases hL : wl p = []
    · have hp0 : p = [] := by
        unfold wl at hL; exact List.map_eq_nil_iff.1 hL
      subst hp0
      have hB : F_trace_Box (([] : List T_lecternlaw10_Line).map mkF) = some ((0, 0), (0, 0), 7) := by
        unfold F_trace_Box
        rw [right_ok hW.fig, Option.bind_some]; rfl
      have h0 : ceq (0, 0) (0, 0) = true := by decide +kernel
      rw [hB, Option.bind_some]
      dsimp only
      rw [show (((([] : List T_lecternlaw10_Line).map mkS).length : Int) == 0) = true from rfl, cond_true, h0]
      rw [show ((((7 : Int) != 7) || (!true)) || (!true)) = false from rfl, cond_false]
      exact hfin
    · obtain ⟨lo, hi, hB, hI⟩ := box_W hW hL
      have hbx := boxed_W (by omega) (fun y hy => by
        obtain ⟨i, h1, rfl⟩ := List.getElem_of_mem hy
        exact hW.small i (by omega) h1) (fun y hy => by
        obtain ⟨i, h1, rfl⟩ := List.getElem_of_mem hy
        exact (hW.st i (by omega) h1).2.1.inb) hI
      rw [hgw] at hbx
      have hn : (((p.map mkS).length : Int) == 0) = false := by
        rw [← hgw, List.length_map]
        have := List.length_pos_iff.2 hL
        simp; omega
      rw [hB, Option.bind_some]
      dsimp only
      rw [hn, cond_false, show ((0 : Int) != 0) = false from rfl, cond_false, hbx, Option.bind_some, Bool.not_true, cond_false]
      exact hfin
theorem i64_ok {n : Int} (h : okI .i64 n) : -9223372036854775808 ≤ n ∧ n ≤ 9223372036854775807 := by
  unfold okI at h
  have e1 : IntKind.min .i64 = -9223372036854775808 := by decide
  have e2 : IntKind.max .i64 = 9223372036854775807 := by decide
  rw [e1, e2] at h
  exact h
theorem traceTurns_calls (p : List T_lecternlaw10_Line) (p1 p2 p3 p4 : Int) (o : okLines p) (o1 : okI .i64 p1) (o2 : okI .i64 p2) (o3 : okI .i64 p3) (o4 : okI .i64 p4) (t : szLines p ≤ 1048576) (h : Heap) :
    CallsA Tryd.prog 9 [.sl 2 (List.map c_T_lecternlaw10_Line p) 0, .int .i64 p1, .int .i64 p2, .int .i64 p3, .int .i64 p4] h fun d _ => d = .bool true :=
  (F_lecternlaw10_TraceTurns_w p p1 p2 p3 p4 (G := fun b => b = true) h ⟨true, traceTurns p (inOk_of p o t) p1 p2 p3 p4 (i64_ok o1) (i64_ok o2) (i64_ok o3) (i64_ok o4), rfl⟩).mono fun d h' ⟨r, hr, hd⟩ => by subst hr; exact hd
end Go.Proofs.YtocfjohangcajaaDoor
