/- Joined by program out of Ka Kd Kw Kk. No condition. -/
import Derived.Test.YtocfjohangcajaaDoorL1
import Derived.Test.YtocfjohangcajaaDoorWk
import Derived.Test.YtocfjohangcajaaDoorEng34
set_option linter.unusedSimpArgs false
set_option linter.unusedVariables false
namespace Go.Proofs.YtocfjohangcajaaDoor
open Fl
theorem cadd_I {z w : Nat × Nat} {p q : Int × Int} (h : Sp z p) (g : Sp w q) (h1 : (p.1 + q.1).natAbs ≤ 9007199254740992) (h2 : (p.2 + q.2).natAbs ≤ 9007199254740992) : ∃ r, cadd z w = some r ∧ Sp r (p.1 + q.1, p.2 + q.2) := by
  obtain ⟨r, e1, e2⟩ := fadd_I h.1 g.1 h1
  obtain ⟨s, e3, e4⟩ := fadd_I h.2 g.2 h2
  exact ⟨(r, s), by simp [cadd, e1, e3], e2, e4⟩
theorem inB_iff (p : Int × Int) : (inB p.1 && inB p.2) = true ↔ InB p := by
  unfold inB InB
  simp only [Bool.and_eq_true, decide_eq_true_eq]
  omega
theorem SpL.snoc {zs : List (Nat × Nat)} {ps : List (Int × Int)} (H : SpL zs ps) {z : Nat × Nat} {p : Int × Int} (h1 : Sp z p) (h2 : InB p) : SpL (zs ++ [z]) (ps ++ [p]) where
  len := by simp [H.len]
  sp := fun i h3 h4 => by
    have hl := H.len
    rw [List.length_append, List.length_singleton] at h3 h4
    by_cases hi : i < zs.length
    · rw [List.getElem_append_left hi, List.getElem_append_left (by omega)]; exact H.sp i hi (by omega)
    · have hz : i = zs.length := by omega
      subst hz
      rw [List.getElem_append_right (Nat.le_refl _), List.getElem_append_right (by omega)]
      simpa using h1
  inb := fun q hq => by
    rw [List.mem_append, List.mem_singleton] at hq
    rcases hq with hq | rfl
    · exact H.inb q hq
    · exact h2
theorem fne_I {x y : Nat} {a b : Int} (hx : isI x a) (hy : isI y b) (h : a = b) : fne x y = false := by
  unfold fne; rw [ord_I hx hy]
  rcases cmp_cases a b with ⟨h2, e⟩ | ⟨h2, e⟩ | ⟨h2, e⟩ <;> rw [e]
  · omega
  · rfl
  · omega
theorem mmillion_I : isI 13920209183539462144 (-1000000) := ⟨true, 8589934592000000, -33, by decide, by decide⟩
theorem f2i_I {x : Nat} {a : Int} (hx : isI x a) (h : a.natAbs ≤ 9007199254740992) : f2i .i64 x = some a := by
  have hd : (FloatKind.f64.decode x).toInt .zero = some a := toInt_I hx
  unfold f2i
  rw [hd]
  have e1 : IntKind.min .i64 = -9223372036854775808 := by decide
  have e2 : IntKind.max .i64 = 9223372036854775807 := by decide
  simp only [e1, e2]
  rw [if_pos (by omega)]
theorem fge_I {x y : Nat} {a b : Int} (hx : isI x a) (hy : isI y b) : fge x y = decide (b ≤ a) := by
  unfold fge; rw [ord_I hx hy]
  rcases cmp_cases a b with ⟨h, e⟩ | ⟨h, e⟩ | ⟨h, e⟩ <;> rw [e]
  · rw [decide_eq_false (by omega)]; rfl
  · rw [decide_eq_true (by omega)]; rfl
  · rw [decide_eq_true (by omega)]; rfl
theorem from_I {z : Nat × Nat} {p : Int × Int} (h : Sp z p) (h1 : p.1.natAbs ≤ 9007199254740992) (h2 : p.2.natAbs ≤ 9007199254740992) :
    F_lecternref10_From z = some (if (inB p.1 && inB p.2) = true then (⟨p.1, p.2⟩, true) else (⟨0, 0⟩, false)) := by
  have hb : ((((decide (-1000000 ≤ p.1)) && (decide (p.1 ≤ 1000000))) && (decide (-1000000 ≤ p.2))) && (decide (p.2 ≤ 1000000))) = (inB p.1 && inB p.2) := by
    unfold inB; simp only [Bool.and_assoc]
  unfold F_lecternref10_From
  rw [fge_I h.1 mmillion_I, fle_I h.1 million_I, fge_I h.2 mmillion_I, fle_I h.2 million_I, hb]
  cases hc : (inB p.1 && inB p.2) with
  | false => rfl
  | true =>
    simp only [letJ, Bool.not_true, cond_false, f2i_I h.1 h1, f2i_I h.2 h2, Option.bind_some, feq_I (i2f_I p.1 h1) h.1, feq_I (i2f_I p.2 h2) h.2, decide_true, cond_true, if_true]
theorem len_sum2 {α : Type} (f : α → Nat) : ∀ l : List α, (∀ x ∈ l, 1 ≤ f x) → l.length ≤ (l.map f).sum
  | [], _ => by simp
  | x :: l, h => by
    have h1 := h x (List.mem_cons_self ..)
    have h2 := len_sum2 f l (fun y hy => h y (List.mem_cons_of_mem _ hy))
    simp only [List.map_cons, List.sum_cons, List.length_cons]; omega
def wl (p : List T_lecternlaw10_Line) : FgW := p.map fun l => (prs l.Parts, l.Closed)
theorem figW_of {p : List T_lecternlaw10_Line} (h : okFig p = true) : FigW (p.map mkF) (wl p) := by
  obtain ⟨h1, h2, h3⟩ := okFig_spec h
  have hsp : ∀ ps : List (Int × Int), InL ps → SpL (ps.map sF) ps := by
    intro ps hi
    refine ⟨by simp, ?_, hi⟩
    intro i g1 g2
    rw [List.getElem_map]
    exact sp_of _ _ (hi _ (List.getElem_mem _))
  refine ⟨by simp [wl], ?_, h3, ?_⟩
  · intro i g1 g2
    rw [List.length_map] at g1
    simp only [wl, List.getElem_map]
    refine ⟨?_, hsp _ (h1 _ (List.getElem_mem _)), rfl⟩
    intro h4
    apply h2 _ (List.getElem_mem g1)
    simpa [mkF] using h4
  · rw [List.length_map]
    have := len_sum2 (fun l : T_lecternlaw10_Line => (prs l.Parts).length) p (fun l hl => List.length_pos_iff.2 (h2 l hl))
    have e : lens (p.map mkF) = (p.map fun l : T_lecternlaw10_Line => (prs l.Parts).length).sum := by
      unfold lens
      rw [List.map_map]
      congr 1
      apply List.map_congr_left
      intro l _
      simp [mkF]
    omega
theorem wl_ne {p : List T_lecternlaw10_Line} (h : okFig p = true) : ∀ x ∈ wl p, x.1 ≠ [] := by
  obtain ⟨h1, h2, h3⟩ := okFig_spec h
  intro x hx
  unfold wl at hx
  rw [List.mem_map] at hx
  obtain ⟨l, hl, rfl⟩ := hx
  exact h2 l hl
def mkW (x : List (Int × Int) × Bool) : T_lecternref10_Stroke := ⟨x.1.map fun p => ⟨p.1, p.2⟩, x.2⟩
theorem mkW_len (y : List (Int × Int) × Bool) : (mkW y).Spots.length = y.1.length := by simp [mkW]
def mvW (u s p : Int × Int) : Int × Int := (p.1 * u.1 - p.2 * u.2 + s.1, p.1 * u.2 + p.2 * u.1 + s.2)
theorem mvW_I {z zu zs : Nat × Nat} {p u s : Int × Int} (h : Sp z p) (hp : InB p) (hu : Sp zu u) (iu : InB u) (hs : Sp zs s) (is : InB s) :
    (∃ r q, cmul z zu = some r ∧ cadd r zs = some q ∧ Sp q (mvW u s p)) ∧ (p.1 * u.1).natAbs ≤ 1000000000000 ∧ (p.2 * u.2).natAbs ≤ 1000000000000 ∧ (p.1 * u.2).natAbs ≤ 1000000000000 ∧ (p.2 * u.1).natAbs ≤ 1000000000000 := by
  obtain ⟨a1, a2, a3, a4⟩ := hp
  obtain ⟨c1, c2, c3, c4⟩ := iu
  obtain ⟨d1, d2, d3, d4⟩ := is
  have b1 := abs_mul_le (a := p.1) (b := u.1) (m := 1000000) (n := 1000000) (by omega) (by omega)
  have b2 := abs_mul_le (a := p.2) (b := u.2) (m := 1000000) (n := 1000000) (by omega) (by omega)
  have b3 := abs_mul_le (a := p.1) (b := u.2) (m := 1000000) (n := 1000000) (by omega) (by omega)
  have b4 := abs_mul_le (a := p.2) (b := u.1) (m := 1000000) (n := 1000000) (by omega) (by omega)
  refine ⟨?_, b1, b2, b3, b4⟩
  obtain ⟨r1, e1, i1⟩ := fmul_I h.1 hu.1 (by omega)
  obtain ⟨r2, e2, i2⟩ := fmul_I h.2 hu.2 (by omega)
  obtain ⟨r3, e3, i3⟩ := fmul_I h.1 hu.2 (by omega)
  obtain ⟨r4, e4, i4⟩ := fmul_I h.2 hu.1 (by omega)
  obtain ⟨r5, e5, i5⟩ := fsub_I i1 i2 (by omega)
  obtain ⟨r6, e6, i6⟩ := fadd_I i3 i4 (by omega)
  obtain ⟨q, e7, i7⟩ := cadd_I (z := (r5, r6)) (w := zs) (p := (p.1 * u.1 - p.2 * u.2, p.1 * u.2 + p.2 * u.1)) (q := s) ⟨i5, i6⟩ hs (by dsimp only; omega) (by dsimp only; omega)
  exact ⟨(r5, r6), q, by simp only [cmul, e1, e2, e3, e4, e5, e6, Option.bind_some, Option.map_some], e7, i7⟩
theorem fmin_I {x y : Nat} {a b : Int} (hx : isI x a) (hy : isI y b) : ∃ r, fmin x y = some r ∧ isI r (min a b) := by
  unfold fmin; rw [ord_I hx hy]
  rcases cmp_cases a b with ⟨h, e⟩ | ⟨h, e⟩ | ⟨h, e⟩ <;> rw [e]
  · exact ⟨x, rfl, by rw [Int.min_eq_left (by omega)]; exact hx⟩
  · refine ⟨_, rfl, ?_⟩
    subst h
    rw [Int.min_self]
    split
    · exact hx
    · exact hy
  · exact ⟨y, rfl, by rw [Int.min_eq_right (by omega)]; exact hy⟩
theorem fmax_I {x y : Nat} {a b : Int} (hx : isI x a) (hy : isI y b) : ∃ r, fmax x y = some r ∧ isI r (max a b) := by
  unfold fmax; rw [ord_I hx hy]
  rcases cmp_cases a b with ⟨h, e⟩ | ⟨h, e⟩ | ⟨h, e⟩ <;> rw [e]
  · exact ⟨y, rfl, by rw [Int.max_eq_right (by omega)]; exact hy⟩
  · refine ⟨_, rfl, ?_⟩
    subst h
    rw [Int.max_self]
    split
    · exact hy
    · exact hx
  · exact ⟨x, rfl, by rw [Int.max_eq_left (by omega)]; exact hx⟩
structure BoxR (S : List (Int × Int)) (lo hi : Int × Int) : Prop where
  all : ∀ p ∈ S, lo.1 ≤ p.1 ∧ p.1 ≤ hi.1 ∧ lo.2 ≤ p.2 ∧ p.2 ≤ hi.2
  w : ∃ p ∈ S, p.1 = lo.1
  e : ∃ p ∈ S, p.1 = hi.1
  n : ∃ p ∈ S, p.2 = lo.2
  s : ∃ p ∈ S, p.2 = hi.2
theorem min_or (a b : Int) : (min a b = a ∧ a ≤ b) ∨ (min a b = b ∧ b ≤ a) := by
  rcases Int.le_total a b with h | h
  · exact .inl ⟨Int.min_eq_left h, h⟩
  · exact .inr ⟨Int.min_eq_right h, h⟩
theorem max_or (a b : Int) : (max a b = a ∧ b ≤ a) ∨ (max a b = b ∧ a ≤ b) := by
  rcases Int.le_total a b with h | h
  · exact .inr ⟨Int.max_eq_right h, h⟩
  · exact .inl ⟨Int.max_eq_left h, h⟩
theorem BoxR.snoc {S : List (Int × Int)} {lo hi : Int × Int} (h : BoxR S lo hi) (p : Int × Int) : BoxR (S ++ [p]) (min lo.1 p.1, min lo.2 p.2) (max hi.1 p.1, max hi.2 p.2) := by
  obtain ⟨h0, ⟨w, w1, w2⟩, ⟨e, e1, e2⟩, ⟨n, n1, n2⟩, ⟨s, s1, s2⟩⟩ := h
  refine ⟨?_, ?_, ?_, ?_, ?_⟩
  · intro q hq
    rw [List.mem_append, List.mem_singleton] at hq
    have m1 := min_or lo.1 p.1
    have m2 := min_or lo.2 p.2
    have m3 := max_or hi.1 p.1
    have m4 := max_or hi.2 p.2
    dsimp only
    rcases hq with hq | rfl
    · have := h0 q hq; omega
    · omega
  · rcases min_or lo.1 p.1 with ⟨h, _⟩ | ⟨h, _⟩
    · exact ⟨w, List.mem_append_left _ w1, by dsimp only; omega⟩
    · exact ⟨p, List.mem_append_right _ (List.mem_singleton.2 rfl), by dsimp only; omega⟩
  · rcases max_or hi.1 p.1 with ⟨h, _⟩ | ⟨h, _⟩
    · exact ⟨e, List.mem_append_left _ e1, by dsimp only; omega⟩
    · exact ⟨p, List.mem_append_right _ (List.mem_singleton.2 rfl), by dsimp only; omega⟩
  · rcases min_or lo.2 p.2 with ⟨h, _⟩ | ⟨h, _⟩
    · exact ⟨n, List.mem_append_left _ n1, by dsimp only; omega⟩
    · exact ⟨p, List.mem_append_right _ (List.mem_singleton.2 rfl), by dsimp only; omega⟩
  · rcases max_or hi.2 p.2 with ⟨h, _⟩ | ⟨h, _⟩
    · exact ⟨s, List.mem_append_left _ s1, by dsimp only; omega⟩
    · exact ⟨p, List.mem_append_right _ (List.mem_singleton.2 rfl), by dsimp only; omega⟩
theorem BoxR.inb {S : List (Int × Int)} {lo hi : Int × Int} (h : BoxR S lo hi) (hS : ∀ p ∈ S, InB p) : InB lo ∧ InB hi := by
  obtain ⟨h0, ⟨w, w1, w2⟩, ⟨e, e1, e2⟩, ⟨n, n1, n2⟩, ⟨s, s1, s2⟩⟩ := h
  have a1 := hS w w1
  have a2 := hS e e1
  have a3 := hS n n1
  have a4 := hS s s1
  unfold InB at *
  omega
def ptsW (L : FgW) : List (Int × Int) := (L.map (·.1)).flatten
theorem ptsW_take (L : FgW) (i : Nat) (h : i < L.length) : ptsW (L.take (i + 1)) = ptsW (L.take i) ++ L[i].1 := by
  unfold ptsW
  rw [map_take _ _ _ h, List.flatten_append]; simp
def BoxI (S : List (Int × Int)) (lo hi : Nat × Nat) : Prop := ∃ a b, Sp lo a ∧ Sp hi b ∧ BoxR S a b
theorem box_l1 (x : T_trace_Stroke) {ps : List (Int × Int)} (H : SpL x.Spots ps) (hl : ps.length ≤ 500) (S : List (Int × Int)) (lo hi : Nat × Nat) (h : BoxI S lo hi) :
    ∃ lo' hi', iter (F_trace_Box_l1 x) FUEL (lo, hi, (0 : Int)) = some (lo', hi') ∧ BoxI (S ++ ps) lo' hi' := by
  have hL := H.len
  obtain ⟨o, h1, lo', hi', rfl, h2⟩ := iter_spec (b := F_trace_Box_l1 x) (fun i y => ∃ lo hi, y = (lo, hi, (i : Int)) ∧ BoxI (S ++ ps.take i) lo hi) (fun o => ∃ lo' hi', o = (lo', hi') ∧ BoxI (S ++ ps) lo' hi') ps.length (x0 := (lo, hi, (0 : Int))) ⟨lo, hi, rfl, by simpa using h⟩
    (fun i y rec hi ⟨lo, hi', hy, a, b, ha, hb, hB⟩ => by
      left
      subst hy
      have hi2 : i < x.Spots.length := by omega
      have hz := H.sp i hi2 hi
      obtain ⟨r1, e1, k1⟩ := fmin_I ha.1 hz.1
      obtain ⟨r2, e2, k2⟩ := fmin_I ha.2 hz.2
      obtain ⟨r3, e3, k3⟩ := fmax_I hb.1 hz.1
      obtain ⟨r4, e4, k4⟩ := fmax_I hb.2 hz.2
      refine ⟨((r1, r2), (r3, r4), ((i + 1 : Nat) : Int)), ?_, (r1, r2), (r3, r4), rfl, (min a.1 ps[i].1, min a.2 ps[i].2), (max b.1 ps[i].1, max b.2 ps[i].2), ⟨k1, k2⟩, ⟨k3, k4⟩, ?_⟩
      · unfold F_trace_Box_l1
        dsimp only
        rw [decide_eq_true (by omega), cond_true, idx_some hi2, Option.bind_some, e1, Option.bind_some, e2, Option.bind_some, e3, Option.bind_some, e4, Option.bind_some, w64 (by omega) (by omega)]; rfl
      · rw [List.take_add_one, List.getElem?_eq_getElem hi, Option.toList_some, ← List.append_assoc]
        exact hB.snoc ps[i])
    (fun y rec ⟨lo, hi', hy, hB⟩ => by
      subst hy
      refine ⟨(lo, hi'), ?_, lo, hi', rfl, by rw [List.take_length] at hB; exact hB⟩
      unfold F_trace_Box_l1
      dsimp only
      rw [decide_eq_false (by omega), cond_false]) (n := FUEL) (by unfold FUEL; omega)
  exact ⟨lo', hi', h1, h2⟩
theorem box_W {f : List T_trace_Stroke} {L : FgW} (H : FigW f L) (hne : L ≠ []) : ∃ lo hi, F_trace_Box f = some (lo, hi, 0) ∧ BoxI (ptsW L) lo hi := by
  have hlen := H.len
  have hcnt := H.cnt
  have h0 : 0 < L.length := List.length_pos_iff.2 hne
  have h0f : 0 < f.length := by omega
  obtain ⟨s1, s2, s3⟩ := H.st 0 h0f h0
  have hx0 : 0 < f[0].Spots.length := List.length_pos_iff.2 s1
  have hy0 : 0 < L[0].1.length := by rw [← s2.len]; exact hx0
  have hz := s2.sp 0 hx0 hy0
  have hmem : L[0].1[0] ∈ ptsW L := by
    unfold ptsW
    rw [List.mem_flatten]
    exact ⟨L[0].1, List.mem_map.2 ⟨L[0], List.getElem_mem _, rfl⟩, List.getElem_mem _⟩
  generalize hz0 : f[0].Spots[0] = z0 at hz
  generalize hp0 : L[0].1[0] = q0 at hz hmem
  obtain ⟨o, h1, lo', hi', rfl, h2⟩ := iter_spec (b := F_trace_Box_l0 f) (fun i y => ∃ lo hi, y = (lo, hi, (i : Int)) ∧ BoxI (q0 :: ptsW (L.take i)) lo hi) (fun o => ∃ lo' hi', o = (lo', hi') ∧ BoxI (q0 :: ptsW L) lo' hi') f.length (x0 := (z0, z0, (0 : Int))) ⟨z0, z0, rfl, q0, q0, hz, hz, by simp [ptsW], ⟨q0, by simp, rfl⟩, ⟨q0, by simp, rfl⟩, ⟨q0, by simp, rfl⟩, ⟨q0, by simp, rfl⟩⟩
    (fun i y rec hi ⟨lo, hi', hy, hB⟩ => by
      left
      subst hy
      have hi2 : i < L.length := by omega
      obtain ⟨t1, t2, t3⟩ := H.st i hi hi2
      obtain ⟨lo2, hi2', e1, e2⟩ := box_l1 f[i] t2 (H.small i hi hi2) _ _ _ hB
      refine ⟨(lo2, hi2', ((i + 1 : Nat) : Int)), ?_, lo2, hi2', rfl, ?_⟩
      · unfold F_trace_Box_l0
        simp only [letJ]
        rw [decide_eq_true (by omega), cond_true, idx_some hi, Option.bind_some, e1, Option.bind_some, w64 (by omega) (by omega)]; rfl
      · rw [ptsW_take L i hi2]; exact e2)
    (fun y rec ⟨lo, hi', hy, hB⟩ => by
      subst hy
      refine ⟨(lo, hi'), ?_, lo, hi', rfl, by rw [hlen, List.take_length] at hB; exact hB⟩
      unfold F_trace_Box_l0
      simp only [letJ]
      rw [decide_eq_false (by omega), cond_false]) (n := FUEL) (by unfold FUEL; omega)
  obtain ⟨a, b, ha, hb, hB⟩ := h2
  refine ⟨lo', hi', ?_, a, b, ha, hb, ?_⟩
  · unfold F_trace_Box
    rw [right_ok H.fig, Option.bind_some, Bool.not_true, cond_false, show ((f.length : Int) == 0) = false by rw [beq_eq_false_iff_ne]; omega, cond_false, show (0 : Int) = ((0 : Nat) : Int) from rfl, idx_some h0f, Option.bind_some, idx_some hx0, Option.bind_some, hz0]
    simp only [letJ]
    rw [show ((0 : Nat) : Int) = (0 : Int) from rfl, h1, Option.bind_some]
  · have key : ∀ {Q : Int × Int → Prop}, (∃ p ∈ q0 :: ptsW L, Q p) → ∃ p ∈ ptsW L, Q p := by
      rintro Q ⟨p, hp, hq⟩
      rcases List.mem_cons.1 hp with rfl | hp
      · exact ⟨_, hmem, hq⟩
      · exact ⟨p, hp, hq⟩
    exact ⟨fun p hp => hB.all p (List.mem_cons_of_mem _ hp), key hB.w, key hB.e, key hB.n, key hB.s⟩
theorem wl_mkT (p : List T_lecternlaw10_Line) : (wl p).map mkW = p.map mkS := by
  unfold wl
  rw [List.map_map]
  rfl
end Go.Proofs.YtocfjohangcajaaDoor

namespace Go.Proofs.YtocfjohangcajaaDoor
abbrev sv : Nat × Nat := (4619567317775286272, 0)
abbrev five : Nat × Nat := (4617315517961601024, 0)
abbrev three : Nat × Nat := (4613937818241073152, 0)
def K_l0 (m : Int) (rec : List (T_trace_Stroke × Bool) × Int → Option (List (T_trace_Stroke × Bool))) : List (T_trace_Stroke × Bool) × Int → Option (List (T_trace_Stroke × Bool))
  | (e, i) => cond (decide (i < m)) (letJ (fun e' => rec (e', IntKind.wrap .i64 (i + 1))) fun J => (idx e i).bind fun x => cond x.2 none ((app 16 ([] : List (Nat × Nat)) x.1.Spots).bind fun _ => (app 16 x.1.Spots [sv]).bind fun _ => J (e.set i.toNat (x.1, true)))) (some e)
def K_l3 (i m : Int) (rec : List T_trace_Stroke × Int → Option (List T_trace_Stroke)) : List T_trace_Stroke × Int → Option (List T_trace_Stroke)
  | (Y, k) => cond (decide (k < m)) (letJ (fun Y' => rec (Y', IntKind.wrap .i64 (k + 1))) fun J => (idx Y i).bind fun x => (idx x.Spots k).bind fun _ => J (Y.set i.toNat ⟨x.Spots.set k.toNat five, x.Closed⟩)) (some Y)
def K_l2 (m : Int) (rec : List T_trace_Stroke × Int → Option Unit) : List T_trace_Stroke × Int → Option Unit
  | (Y, i) => cond (decide (i < m)) (letJ (fun Y' => rec (Y', IntKind.wrap .i64 (i + 1))) fun J => letJ (fun Y' => (idx Y' i).bind fun x' => (app 16 x'.Spots [three]).bind fun _ => J (Y'.set i.toNat ⟨x'.Spots ++ [three], false⟩)) fun J' => (idx Y i).bind fun x => (iter (K_l3 i (x.Spots.length : Int)) FUEL (Y, (0 : Int))).bind fun o => J' o) (some ())
def K_l4 (L : List T_trace_Stroke) (rec : Int → Option (Unit ⊕ Bool)) (i : Int) : Option (Unit ⊕ Bool) :=
  cond (decide (i < (L.length : Int))) (letJ (fun _ : Unit => rec (IntKind.wrap .i64 (i + 1))) fun J => (idx L i).bind fun x => (slc (x.Spots ++ [sv]) (0 : Int) (IntKind.wrap .i64 ((x.Spots.length : Int) + 1))).bind fun b => (idx b (x.Spots.length : Int)).bind fun z => cond (!ceq z sv) (some (.inr false)) (J ())) (some (.inl ()))
def allT (e : List (T_trace_Stroke × Bool)) : Option (List T_trace_Stroke) := if e.all (·.2) = true then some (e.map (·.1)) else none
def F_Keeps (p : List T_lecternlaw10_Line) : Option Bool :=
  F_lecternlaw10_awake.bind fun a => cond (!a) (some false) ((F_lecternlaw10_figure p).bind fun x =>
    letJ (fun e => (allT e).bind fun L => (F_trace_Turn L (4607182418800017408, 0) (0, 0)).bind fun y =>
      cond (!(x.2.2 == (y.2 == (0 : Int)))) (some false) (cond (!x.2.2) (some true) ((F_trace_Show L).bind fun _ => (F_trace_Box L).bind fun _ => (F_trace_Area L).bind fun _ =>
        letJ (fun _ : Unit => letJ (fun _ : Unit => (F_lecternlaw10_same L x.2.1).bind fun z => some z) fun J3 => (iter (K_l4 L) FUEL (0 : Int)).bind fun o => match o with | .inl _ => J3 () | .inr b => some b) fun J2 =>
          (iter (K_l2 (y.1.length : Int)) FUEL (y.1, (0 : Int))).bind fun o => J2 o))) fun J1 =>
      (iter (K_l0 (x.1.length : Int)) FUEL (x.1.map fun s => (s, false), (0 : Int))).bind fun o => J1 o)
theorem keeps_l0 (L : List T_trace_Stroke) (hL : L.length ≤ 1048576) (hs : ∀ s ∈ L, s.Spots.length ≤ 1048576) :
    iter (K_l0 (L.length : Int)) FUEL (L.map fun s => (s, false), (0 : Int)) = some (L.map fun s => (s, true)) := by
  obtain ⟨o, h1, h2⟩ := iter_spec (b := K_l0 (L.length : Int)) (fun i x => x.2 = (i : Int) ∧ x.1 = ((L.take i).map fun s => (s, true)) ++ ((L.drop i).map fun s => (s, false))) (fun o => o = L.map fun s => (s, true)) L.length
    (x0 := (L.map fun s => (s, false), (0 : Int))) ⟨rfl, by simp⟩ (fun i x rec hi hI => by
      obtain ⟨e, k⟩ := x
      obtain ⟨h1, h2⟩ := hI
      dsimp only at h1 h2
      subst h1
      refine .inl ⟨(((L.take (i + 1)).map fun s => (s, true)) ++ ((L.drop (i + 1)).map fun s => (s, false)), ((i + 1 : Nat) : Int)), ?_, rfl, rfl⟩
      have hx : idx e (i : Int) = some (L[i], false) := by
        subst h2
        rw [idx_some (by simp; omega)]
        congr 1
        rw [List.getElem_append_right (by simp; omega)]
        simp [Nat.min_eq_left (Nat.le_of_lt hi)]
      have hm := hs _ (List.getElem_mem hi)
      have e1 : e.set (i : Int).toNat (L[i], true) = ((L.take (i + 1)).map fun s => (s, true)) ++ ((L.drop (i + 1)).map fun s => (s, false)) := by
        subst h2
        rw [Int.toNat_natCast, List.set_append_right _ _ (by simp; omega)]
        rw [show i - ((L.take i).map fun s => (s, true)).length = 0 by simp [Nat.min_eq_left (Nat.le_of_lt hi)]]
        rw [List.drop_eq_getElem_cons hi, List.map_cons, List.set_cons_zero, List.take_succ_eq_append_getElem hi, List.map_append]
        simp
      have e2 : decide ((i : Int) < (L.length : Int)) = true := by rw [decide_eq_true_eq]; omega
      unfold K_l0
      simp only [e2, cond_true, letJ, hx, Option.bind_some, cond_false]
      rw [app_some (by simp; omega) (by simp; omega), Option.bind_some, app_some (by simp; omega) (by simp; omega), Option.bind_some, e1, w64 (by omega) (by omega)]
      rfl) (fun x rec hI => by
      obtain ⟨e, k⟩ := x
      obtain ⟨h1, h2⟩ := hI
      dsimp only at h1 h2
      subst h1
      refine ⟨e, ?_, by rw [h2]; simp⟩
      have e2 : decide ((L.length : Int) < (L.length : Int)) = false := by simp
      unfold K_l0
      simp only [e2, cond_false]) (n := FUEL) (by have : 1048576 < FUEL := by decide
                                                  omega)
  rw [h1, h2]
theorem allT_all (L : List T_trace_Stroke) : allT (L.map fun s => (s, true)) = some L := by
  unfold allT
  rw [if_pos (by simp)]
  congr 1
  rw [List.map_map]
  exact List.map_id L
open Fl
theorem same_W {f : List T_trace_Stroke} {L : FgW} (h : FigW f L) : F_lecternlaw10_same f (L.map mkW) = some true := by
  have hlen := h.len
  have hcnt := h.cnt
  have hl := h.tot
  have l0 : iter (F_lecternlaw10_same_l0 f (L.map mkW)) FUEL (0 : Int) = some (.inl ()) := by
    obtain ⟨o, h1, rfl⟩ := iter_spec (b := F_lecternlaw10_same_l0 f (L.map mkW)) (fun i x => x = (i : Int)) (fun o => o = .inl ()) f.length (x0 := (0 : Int)) rfl
      (fun i x rec hi hx => .inl ⟨((i + 1 : Nat) : Int), by
        subst hx
        have hi2 : i < L.length := by omega
        have hi3 : i < (L.map mkW).length := by rw [List.length_map]; exact hi2
        obtain ⟨s1, s2, s3⟩ := h.st i hi hi2
        have hle := lens_le f (i + 1)
        have hlt := lens_take f i hi
        have hsl : f[i].Spots.length ≤ 500 := by
          have : lens (f.take (i + 1)) ≤ lens f := hle
          omega
        have hgl : (mkW L[i]).Spots.length = f[i].Spots.length := by rw [mkW_len, s2.len]
        have l1 : iter (F_lecternlaw10_same_l1 (L.map mkW) (i : Int) f[i]) FUEL (0 : Int) = some (.inl ()) := by
          obtain ⟨o, h1, rfl⟩ := iter_spec (b := F_lecternlaw10_same_l1 (L.map mkW) (i : Int) f[i]) (fun j x => x = (j : Int)) (fun o => o = .inl ()) f[i].Spots.length (x0 := (0 : Int)) rfl
            (fun j x rec hj hx => .inl ⟨((j + 1 : Nat) : Int), by
              subst hx
              have hj2 : j < L[i].1.length := by rw [← s2.len]; exact hj
              have hsp := s2.sp j hj hj2
              have hin := s2.inb _ (List.getElem_mem hj2)
              have hb := (inB_iff _).2 hin
              obtain ⟨a1, a2, a3, a4⟩ := hin
              have hgx : idx (mkW L[i]).Spots (j : Int) = some (⟨L[i].1[j].1, L[i].1[j].2⟩ : T_lecternref10_Spot) := by
                rw [idx_some (by rw [mkW_len]; exact hj2)]; simp [mkW]
              unfold F_lecternlaw10_same_l1
              rw [decide_eq_true (by omega), cond_true, idx_some hj, Option.bind_some, from_I hsp (by omega) (by omega), if_pos hb, Option.bind_some]
              simp only [letJ]
              rw [show (!true) = false from rfl, cond_false, idx_some hi3, Option.bind_some, List.getElem_map, hgx, Option.bind_some]
              simp only [beq_self_eq_true, Bool.and_self, Bool.and_true, Bool.not_true, cond_false]
              rw [w64 (by omega) (by omega)]; rfl, rfl⟩)
            (fun x rec hx => ⟨_, by
              subst hx
              unfold F_lecternlaw10_same_l1
              rw [decide_eq_false (by omega), cond_false], rfl⟩) (n := FUEL) (by unfold FUEL; omega)
          exact h1
        unfold F_lecternlaw10_same_l0
        simp only [letJ]
        rw [decide_eq_true (by omega), cond_true]
        simp only [idx_some hi, idx_some hi3, Option.bind_some, List.getElem_map, l1, hgl]
        rw [show (f[i].Closed == (mkW L[i]).Closed) = true by rw [s3]; simp [mkW], show (!true) = false from rfl, cond_false, show (((f[i].Spots.length : Int)) != (f[i].Spots.length : Int)) = false by simp, cond_false, w64 (by omega) (by omega)]
        rfl, rfl⟩)
      (fun x rec hx => ⟨_, by
        subst hx
        unfold F_lecternlaw10_same_l0
        rw [decide_eq_false (by omega), cond_false], rfl⟩) (n := FUEL) (by unfold FUEL; omega)
    exact h1
  unfold F_lecternlaw10_same
  rw [show ((f.length : Int) != ((L.map mkW).length : Int)) = false by simp [hlen], cond_false]
  simp only [letJ, l0, Option.bind_some]
def turnP (i : Nat) (z : T_trace_Stroke) : Prop := z.Spots.length ≤ 500
theorem one_sp : Sp (4607182418800017408, 0) (1, 0) := ⟨⟨false, 4503599627370496, -52, by decide, by decide⟩, zero_I⟩
theorem zero_sp : Sp (0, 0) (0, 0) := ⟨zero_I, zero_I⟩
theorem turn_l1 (x : T_trace_Stroke) {ps : List (Int × Int)} (H : SpL x.Spots ps) (hl : ps.length ≤ 500) (c : Bool) :
    ∃ ws, iter (F_trace_Turn_l1 (4607182418800017408, 0) (0, 0) x) FUEL ([], c, (0 : Int)) = some (.inl (ws, c)) ∧ ws.length = x.Spots.length := by
  have hL := H.len
  obtain ⟨o, h1, ws, h2, h3⟩ := iter_spec (b := F_trace_Turn_l1 (4607182418800017408, 0) (0, 0) x) (fun i a => ∃ ws : List (Nat × Nat), ws.length = i ∧ a = (ws, c, (i : Int))) (fun o => ∃ ws : List (Nat × Nat), o = .inl (ws, c) ∧ ws.length = x.Spots.length) x.Spots.length
    (x0 := (([] : List (Nat × Nat)), c, (0 : Int))) ⟨[], rfl, rfl⟩ (fun i a rec hi ⟨ws, hw, ha⟩ => by
      subst ha
      have hi2 : i < ps.length := by omega
      have hz := H.sp i hi hi2
      have hp := H.inb _ (List.getElem_mem hi2)
      obtain ⟨⟨r, q, e1, e2, e3⟩, _⟩ := mvW_I hz hp one_sp (by unfold InB; omega) zero_sp (by unfold InB; omega)
      have e4 : mvW (1, 0) (0, 0) ps[i] = ps[i] := by unfold mvW; simp
      rw [e4] at e3
      refine .inl ⟨(ws ++ [q], c, ((i + 1 : Nat) : Int)), ?_, ws ++ [q], by simp [hw], rfl⟩
      unfold F_trace_Turn_l1
      dsimp only
      rw [decide_eq_true (by omega), cond_true, idx_some hi, Option.bind_some, e1, Option.bind_some, e2, Option.bind_some, spot_in e3 hp, Option.bind_some, Bool.not_true, cond_false, app_some (by simp; omega) (by simp; omega), Option.bind_some, w64 (by omega) (by omega)]
      rfl) (fun a rec ⟨ws, hw, ha⟩ => by
      subst ha
      refine ⟨_, ?_, ws, rfl, hw⟩
      unfold F_trace_Turn_l1
      dsimp only
      rw [decide_eq_false (by omega), cond_false]) (n := FUEL) (by unfold FUEL; omega)
  exact ⟨ws, by rw [h1, h2], h3⟩
theorem turn_id {f : List T_trace_Stroke} {L : FgW} (H : FigW f L) : ∃ g, F_trace_Turn f (4607182418800017408, 0) (0, 0) = some (g, 0) ∧ g.length = f.length ∧ ∀ s ∈ g, s.Spots.length ≤ 500 := by
  have hlen := H.len
  have hcnt := H.cnt
  obtain ⟨o, h1, g, h2, h3, h4⟩ := iter_spec (b := F_trace_Turn_l0 f (4607182418800017408, 0) (0, 0)) (fun i a => ∃ g : List T_trace_Stroke, g.length = i ∧ (∀ s ∈ g, s.Spots.length ≤ 500) ∧ a = (g, (i : Int)))
    (fun o => ∃ g : List T_trace_Stroke, o = .inl g ∧ g.length = f.length ∧ ∀ s ∈ g, s.Spots.length ≤ 500) f.length (x0 := (([] : List T_trace_Stroke), (0 : Int))) ⟨[], rfl, (fun s h => by cases h), rfl⟩ (fun i a rec hi ⟨g, hg, hs, ha⟩ => by
      subst ha
      have hi2 : i < L.length := by omega
      obtain ⟨s1, s2, s3⟩ := H.st i hi hi2
      have hsm := H.small i hi hi2
      obtain ⟨ws, e1, e2⟩ := turn_l1 f[i] s2 hsm f[i].Closed
      refine .inl ⟨(g ++ [⟨ws, f[i].Closed⟩], ((i + 1 : Nat) : Int)), ?_, g ++ [⟨ws, f[i].Closed⟩], by simp [hg], fun s hm => ?_, rfl⟩
      · unfold F_trace_Turn_l0
        simp only [letJ]
        rw [decide_eq_true (by omega), cond_true, idx_some hi, Option.bind_some, e1, Option.bind_some]
        dsimp only
        rw [app_some (by simp; omega) (by simp; omega), Option.bind_some, w64 (by omega) (by omega)]; rfl
      · rcases List.mem_append.1 hm with h | h
        · exact hs s h
        · rw [List.mem_singleton] at h; subst h; dsimp only; have := s2.len; omega) (fun a rec ⟨g, hg, hs, ha⟩ => by
      subst ha
      refine ⟨_, ?_, g, rfl, hg, hs⟩
      unfold F_trace_Turn_l0
      simp only [letJ]
      rw [decide_eq_false (by omega), cond_false]) (n := FUEL) (by unfold FUEL; omega)
  refine ⟨g, ?_, h3, h4⟩
  unfold F_trace_Turn
  rw [right_ok H.fig, Option.bind_some]
  simp only [letJ, Bool.not_true, cond_false, spot_in one_sp (by unfold InB; omega), spot_in zero_sp (by unfold InB; omega), Option.bind_some, h1, h2]
/-- Rows of which none is longer than it was. -/
def Sm (n : Nat) (Y : List T_trace_Stroke) : Prop := Y.length = n ∧ ∀ s ∈ Y, s.Spots.length ≤ 600
theorem keeps_l3 (i n : Nat) (Y : List T_trace_Stroke) (h : Sm n Y) (hi : i < n) (hn : n ≤ 500) (m : Nat) (hm : (Y[i]'(by rw [h.1]; exact hi)).Spots.length = m) : ∃ Y', iter (K_l3 (i : Int) (m : Int)) FUEL (Y, (0 : Int)) = some Y' ∧ Sm n Y' ∧ ∃ h1 : i < Y'.length, Y'[i].Spots.length = m ∧ ∀ (j : Nat), i < j → Y'[j]? = Y[j]? := by
  have hlt : i < Y.length := by rw [h.1]; exact hi
  have hms : m ≤ 600 := by rw [← hm]; exact h.2 _ (List.getElem_mem _)
  obtain ⟨o, h1, h2⟩ := iter_spec (b := K_l3 (i : Int) (m : Int)) (fun k a => ∃ Z, a = (Z, (k : Int)) ∧ Sm n Z ∧ ∃ h1 : i < Z.length, Z[i].Spots.length = m ∧ ∀ (j : Nat), i < j → Z[j]? = Y[j]?)
    (fun o => Sm n o ∧ ∃ h1 : i < o.length, o[i].Spots.length = m ∧ ∀ (j : Nat), i < j → o[j]? = Y[j]?) m (x0 := (Y, (0 : Int))) ⟨Y, rfl, h, hlt, hm, fun _ _ => rfl⟩ (fun k a rec hk ⟨Z, ha, hZ, g1, g2, g3⟩ => by
      subst ha
      have hz1 := hZ.1
      refine .inl ⟨(Z.set i ⟨Z[i].Spots.set k five, Z[i].Closed⟩, ((k + 1 : Nat) : Int)), ?_, _, rfl, ⟨by simp [hZ.1], fun s hs => ?_⟩, by simpa using g1, by simp [g2], fun j hj => ?_⟩
      · unfold K_l3
        simp only [letJ]
        rw [decide_eq_true (by omega), cond_true, idx_some g1, Option.bind_some, idx_some (by omega), Option.bind_some, w64 (by omega) (by omega)]; rfl
      · rcases List.mem_or_eq_of_mem_set hs with h | h
        · exact hZ.2 s h
        · subst h; simp only [List.length_set]; omega
      · rw [List.getElem?_set_ne (by omega)]; exact g3 j hj) (fun a rec ⟨Z, ha, hZ, g⟩ => by
      subst ha
      refine ⟨Z, ?_, hZ, g⟩
      unfold K_l3
      simp only [letJ]
      rw [decide_eq_false (by omega), cond_false]) (n := FUEL) (by unfold FUEL; omega)
  exact ⟨o, h1, h2⟩
theorem keeps_l2 (n : Nat) (Y : List T_trace_Stroke) (h : Y.length = n ∧ ∀ s ∈ Y, s.Spots.length ≤ 500) (hn : n ≤ 500) : iter (K_l2 (n : Int)) FUEL (Y, (0 : Int)) = some () := by
  obtain ⟨o, h1, _⟩ := iter_spec (b := K_l2 (n : Int)) (fun i a => ∃ Z, a = (Z, (i : Int)) ∧ Sm n Z ∧ ∀ j, i ≤ j → Z[j]? = Y[j]?) (fun _ => True) n (x0 := (Y, (0 : Int))) ⟨Y, rfl, ⟨h.1, fun s hs => by have := h.2 s hs; omega⟩, fun _ _ => rfl⟩ (fun i a rec hi ⟨Z, ha, hZ, hj⟩ => by
      subst ha
      have hz1 := hZ.1
      have g1 : i < Z.length := by omega
      have hy : i < Y.length := by omega
      have he : Z[i].Spots.length ≤ 500 := by
        have := hj i (Nat.le_refl _)
        rw [List.getElem?_eq_getElem g1, List.getElem?_eq_getElem hy] at this
        injection this with this
        rw [this]; exact h.2 _ (List.getElem_mem _)
      obtain ⟨Z', e1, e2, e3, e4, e5⟩ := keeps_l3 i n Z hZ hi hn _ rfl
      refine .inl ⟨(Z'.set i ⟨Z'[i].Spots ++ [three], false⟩, ((i + 1 : Nat) : Int)), ?_, _, rfl, ⟨by simp [e2.1], fun s hs => ?_⟩, fun j hj2 => ?_⟩
      · unfold K_l2
        simp only [letJ]
        rw [decide_eq_true (by omega), cond_true, idx_some g1, Option.bind_some, e1, Option.bind_some, idx_some e3, Option.bind_some, app_some (by simp; omega) (by simp; omega), Option.bind_some, w64 (by omega) (by omega)]; rfl
      · rcases List.mem_or_eq_of_mem_set hs with h | h
        · exact e2.2 s h
        · subst h; simp only [List.length_append, List.length_singleton]; omega
      · rw [List.getElem?_set_ne (by omega), e5 j (by omega)]; exact hj j (by omega)) (fun a rec ⟨Z, ha, hZ, hj⟩ => by
      subst ha
      refine ⟨(), ?_, trivial⟩
      unfold K_l2
      simp only [letJ]
      rw [decide_eq_false (by omega), cond_false]) (n := FUEL) (by unfold FUEL; omega)
  exact h1
theorem keeps_l4 (L : List T_trace_Stroke) (hL : L.length ≤ 500) (hs : ∀ s ∈ L, s.Spots.length ≤ 500) : iter (K_l4 L) FUEL (0 : Int) = some (.inl ()) := by
  obtain ⟨o, h1, h2⟩ := iter_spec (b := K_l4 L) (fun i a => a = (i : Int)) (fun o => o = .inl ()) L.length (x0 := (0 : Int)) rfl (fun i a rec hi ha => by
      subst ha
      have hm := hs _ (List.getElem_mem hi)
      refine .inl ⟨((i + 1 : Nat) : Int), ?_, rfl⟩
      have e1 : slc (L[i].Spots ++ [sv]) (0 : Int) (IntKind.wrap .i64 ((L[i].Spots.length : Int) + 1)) = some (L[i].Spots ++ [sv]) := by
        rw [w64 (by omega) (by omega)]
        unfold slc
        rw [if_pos ⟨by omega, by omega, by simp⟩]
        congr 1
        rw [show ((0 : Int)).toNat = 0 from rfl, List.drop_zero, List.take_of_length_le (by simp)]
      have e2 : idx (L[i].Spots ++ [sv]) (L[i].Spots.length : Int) = some sv := by rw [idx_some (by simp)]; simp
      have e3 : ceq sv sv = true := by decide +kernel
      unfold K_l4
      simp only [letJ]
      rw [decide_eq_true (by omega), cond_true, idx_some hi, Option.bind_some, e1, Option.bind_some, e2, Option.bind_some, e3, Bool.not_true, cond_false, w64 (by omega) (by omega)]; rfl) (fun a rec ha => by
      subst ha
      refine ⟨_, ?_, rfl⟩
      unfold K_l4
      rw [decide_eq_false (by omega), cond_false]) (n := FUEL) (by unfold FUEL; omega)
  rw [h1, h2]
theorem keeps_all (p : List T_lecternlaw10_Line) (H : InOk p) : F_Keeps p = some true := by
  have hlen := H.len
  have hl0 := keeps_l0 (p.map mkF) (by rw [List.length_map]; exact H.len) (fun s hs => by
    rw [List.mem_map] at hs
    obtain ⟨l, hl, rfl⟩ := hs
    have := H.parts l hl
    have e : (mkF l).Spots.length = (prs l.Parts).length := by simp [mkF]
    rw [e, prs_len]; omega)
  have hr := right_eq p H
  unfold F_Keeps
  rw [awake_t]
  simp only [Option.bind_some, letJ, Bool.not_true, cond_false, figure_eq p H, hl0, allT_all]
  cases ho : okFig p with
  | false =>
    rw [ho] at hr
    have e1 : F_trace_Turn (p.map mkF) (4607182418800017408, 0) (0, 0) = some ([], 1) := by
      unfold F_trace_Turn; rw [hr, Option.bind_some]; rfl
    rw [e1]; rfl
  | true =>
    have hW := figW_of ho
    have hgw := wl_mkT p
    obtain ⟨g, e1, e2, e3⟩ := turn_id hW
    have hsh := show_eq p H
    rw [if_pos ho] at hsh
    obtain ⟨a, ha, _⟩ := area_W hW
    obtain ⟨b, hb⟩ : ∃ b, F_trace_Box (p.map mkF) = some b := by
      by_cases hp : p = []
      · subst hp
        refine ⟨((0, 0), (0, 0), 7), ?_⟩
        unfold F_trace_Box
        rw [right_ok hW.fig]; rfl
      · obtain ⟨lo, hi, h, _⟩ := box_W hW (by simpa [wl] using hp)
        exact ⟨_, h⟩
    have hsame := same_W hW
    rw [hgw] at hsame
    have hcnt := hW.cnt
    have h2 := keeps_l2 g.length g ⟨rfl, e3⟩ (by omega)
    have h4 := keeps_l4 (p.map mkF) hW.cnt (fun s hs => by
      obtain ⟨i, h1, rfl⟩ := List.getElem_of_mem hs
      have h2 : i < (wl p).length := by rw [← hW.len]; exact h1
      have := (hW.st i h1 h2).2.1.len
      have := hW.small i h1 h2
      omega)
    rw [e1, Option.bind_some, hsh, Option.bind_some, hb, Option.bind_some, ha, Option.bind_some]
    dsimp only
    rw [h2, Option.bind_some, h4, Option.bind_some]
    dsimp only
    rw [hsame]; rfl
end Go.Proofs.YtocfjohangcajaaDoor

set_option maxRecDepth 20000
set_option maxHeartbeats 8000000
namespace Go.Proofs.YtocfjohangcajaaDoor
def cX (p : T_trace_Stroke × Nat) : List D := [mslO 1 p.2 p.1.Spots, .bool p.1.Closed]
/-- Each element's row, the last one first. -/
def hX (X : List (T_trace_Stroke × Nat)) : List (Nat × AObj) := X.reverse.map fun p => mo p.2 c_cplx p.1.Spots
def zX (X : List (T_trace_Stroke × Nat)) : Prop := ∀ p ∈ X, p.2 = 0 → p.1.Spots = []
theorem zX_nil : zX [] := fun p h => by cases h
theorem zX_snoc {X : List (T_trace_Stroke × Nat)} (h : zX X) {s : List (Nat × Nat)} {c : Bool} {g : Nat} (z : g = 0 → s = []) : zX (X ++ [((⟨s, c⟩ : T_trace_Stroke), g)]) := by
  intro p hp
  rcases List.mem_append.1 hp with hp | hp
  · exact h p hp
  · rw [List.mem_singleton] at hp; subst hp; exact z
theorem hX_snoc (X : List (T_trace_Stroke × Nat)) (p : T_trace_Stroke × Nat) : hX (X ++ [p]) = mo p.2 c_cplx p.1.Spots :: hX X := by simp [hX]
theorem WO_to : ∀ {L : List (Nat × AObj)} (O : List (Nat × AObj)), WO (L ++ O) O
  | [], O => WO.refl O
  | _ :: L, O => .drop (WO_to O)
theorem push_perm {x : T_trace_Stroke × Nat} {i : Nat} {q : AObj} {m : Nat × AObj} {X : List (T_trace_Stroke × Nat)} {O : List (Nat × AObj)} :
    (mo x.2 c_cplx x.1.Spots :: (i, q) :: m :: (hX X ++ O)).Perm ((i, q) :: m :: (hX (X ++ [x]) ++ O)) := by
  rw [hX_snoc]
  exact (List.Perm.swap _ _ _).trans (List.Perm.cons _ (List.Perm.swap _ _ _))
theorem app_fst {α : Type} {X : List (α × Nat)} {a : List α} {B : Nat} {y v} {g : Nat} (hX : X.map Prod.fst = a) (h : app B a [y] = some v) : app B X [(y, g)] = some (X ++ [(y, g)]) := by
  subst hX
  unfold app at h ⊢
  split at h
  · rename_i hc; rw [if_pos (by simpa using hc)]
  · simp at h
theorem figure_own {β : Type} {f : (List T_trace_Stroke) × (List T_lecternref10_Stroke) × Bool → Option β} {G : β → Prop} {R : D → Heap → Prop} (p0 : List T_lecternlaw10_Line) (h : Heap) (O : List (Nat × AObj)) (ok : OK h O) (hF : OptP ((F_lecternlaw10_figure p0).bind f) G)
    (hk : ∀ (r : (List T_trace_Stroke) × (List T_lecternref10_Stroke) × Bool) (i : Nat), (i = 0 → r.1 = []) → OK h (mo i c_T_trace_Stroke r.1 :: O) → OptP (f r) G → R (.tup [mslO 2 i r.1, .sl 2 (List.map c_T_lecternref10_Stroke r.2.1) 0, .bool r.2.2]) (Hp h (mo i c_T_trace_Stroke r.1 :: O))) : CallsA Tryd.prog 15 [.sl 2 (List.map c_T_lecternlaw10_Line p0) 0] (Hp h O) R := by
  refine CallsA.ret ?_
  refine C_bodyO Tryd.func15 rfl en_15 Tryd.ntmps15 rfl ?_
  rw [OptP_bind] at hF
  rw [F_lecternlaw10_figure] at hF
  refine C_seq ?_
  refine C_reg (mdl []) ?_
  refine S_a (v := .snil) rfl ?_
  refine S_one 2 (v := .sl 2 (List.map c_T_trace_Stroke ([] : List T_trace_Stroke)) 0) (.nil _) ?_
  refine S_a (v := .snil) rfl ?_
  refine S_one 3 (v := .sl 2 (List.map c_T_lecternref10_Stroke ([] : List T_lecternref10_Stroke)) 0) (.nil _) ?_
  refine S_a (v := .bool _) rfl ?_
  refine S_nil ?_
  refine C_seq ?_
  refine C_reg (mdl []) ?_
  refine S_a (v := .snil) rfl ?_
  refine S_nilB c_T_trace_Stroke ok (fun ok => ?_)
  refine S_nil ?_
  refine C_seq ?_
  refine C_reg (mdl []) ?_
  refine S_a (v := .snil) rfl ?_
  refine S_ghost 6 2 ok rfl rfl ?_
  intro r2 hr2 ok
  refine S_nil ?_
  refine C_seq ?_
  refine C_reg (mdl []) ?_
  refine S_a (v := .bool _) rfl ?_
  refine S_nil ?_
  refine C_join hF (fun (v : (List T_trace_Stroke) × (List T_lecternref10_Stroke) × Bool) s' => match v with | (a116, a117, a119) => ∃ g115 g118 : Nat, (g115 = 0 → a116 = []) ∧ g118 ≠ 0 ∧ OK h ((g118, .room) :: mo g115 c_T_trace_Stroke a116 :: O) ∧ WS s' ⟨mkSl 97 [(5, mslO 2 g115 a116), (6, .sl 2 (List.map c_T_lecternref10_Stroke a117) g118), (7, .bool a119)], Hp h ((g118, .room) :: mo g115 c_T_trace_Stroke a116 :: O)⟩) (fun J120 hF => ?_) ?_
  ·
    refine C_seq ?_
    refine C_reg (mdl []) ?_
    refine S_m (v := .sl _ _ _) rfl ?_
    refine S_lenL rfl ty_sl_32 ?_
    refine S_m (v := .int _ _) rfl ?_
    refine S_nil ?_
    refine WP_block ?_
    refine C_loop (σ := (List T_trace_Stroke) × (List T_lecternref10_Stroke) × Bool × Int) hF (fun (v : (List T_trace_Stroke) × (List T_lecternref10_Stroke) × Bool × Int) s' => match v with | (a122, a123, a125, a126) => ∃ g121 g124 : Nat, (g121 = 0 → a122 = []) ∧ g124 ≠ 0 ∧ OK h ((g124, .room) :: mo g121 c_T_trace_Stroke a122 :: O) ∧ WS s' ⟨mkSl 97 [(5, mslO 2 g121 a122), (6, .sl 2 (List.map c_T_lecternref10_Stroke a123) g124), (7, .bool a125), (15, .sl 2 (List.map c_T_lecternlaw10_Line p0) 0), (16, .int .i64 (p0.length : Int)), (17, .int .i64 a126)], Hp h ((g124, .room) :: mo g121 c_T_trace_Stroke a122 :: O)⟩) ?_ ?_
    ·
      have hwo : WO ((r2, .room) :: mo 0 c_T_trace_Stroke ([] : List T_trace_Stroke) :: O) ((r2, .room) :: mo 0 c_T_trace_Stroke ([] : List T_trace_Stroke) :: O) := (.keep (.keep (WO.refl _)))
      exact ⟨0, r2, (fun _ => rfl), hr2, (hwo.spec ok).1, WS.mk' (.cons (.refl _) (.cons (.refl _) (.cons (.refl _) (.cons (.refl _) (.cons (.refl _) (.cons (.refl _) .nil)))))) ok hwo⟩
    ·
      rintro G127 hG128 rec129 ⟨a122, a123, a125, a126⟩ s' ih130 hF ⟨g121, g124, zg121, hg124, ok, hws⟩
      refine WP_ws hws ?_
      clear hws s'
      rw [F_lecternlaw10_figure_l0] at hF
      refine C_seq ?_
      refine C_reg (mdl []) ?_
      refine S_bin rfl rfl (ev_lss ..) ?_
      refine S_nil ?_
      refine C_seq ?_
      refine C_if (b := (decide (a126 < (p0.length : Int)))) rfl hF (fun hb131 hF => ?_) (fun hb131 hF => ?_)
      ·
        refine WP_skip ?_
        refine C_join hF (fun (v : (List T_trace_Stroke) × (List T_lecternref10_Stroke) × Bool) s' => match v with | (a183, a184, a186) => ∃ g182 g185 : Nat, (g182 = 0 → a183 = []) ∧ g185 ≠ 0 ∧ OK h ((g185, .room) :: mo g182 c_T_trace_Stroke a183 :: O) ∧ WS s' ⟨mkSl 97 [(5, mslO 2 g182 a183), (6, .sl 2 (List.map c_T_lecternref10_Stroke a184) g185), (7, .bool a186), (15, .sl 2 (List.map c_T_lecternlaw10_Line p0) 0), (16, .int .i64 (p0.length : Int)), (17, .int .i64 a126)], Hp h ((g185, .room) :: mo g182 c_T_trace_Stroke a183 :: O)⟩) (fun J187 hF => ?_) ?_
        ·
          refine WP_block ?_
          refine C_seq ?_
          refine C_reg (mdl [(9, 1)]) ?_
          refine S_ix rfl rfl ty_sl_32 ty_sz_84 hF (fun x188 _ hF => ?_)
          refine S_ldQ rfl (p_agg (vs := c_T_lecternlaw10_Line x188) ty_ag_84 ty_sz_84 rfl rfl) ?_
          refine S_all1 ok rfl ty_zc_84 ?_
          intro i189 hi189 ok
          refine S_st (j := 0) (cs' := [.sl 1 (List.map c_i64 x188.Parts) 0, .bool x188.Closed]) ok rfl rfl rfl hi189 rfl ty_sz_84 rfl rfl (fun ok => ?_)
          refine S_nil ?_
          refine C_seq ?_
          refine C_reg (mdl [(10, 1)]) ?_
          refine S_faP rfl ty_fd_84_1 ty_sz_4 ?_
          refine S_ldP (j := 0) ok rfl rfl rfl hi189 (p_one (v := .bool x188.Closed) ty_ag_4 ty_sz_4 rfl) ?_
          refine S_bld (v := .agg [.snil, .bool x188.Closed]) (b_st ty_zc_56 ty_pl_56 rfl) ?_
          refine S_all1 ok rfl ty_zc_56 ?_
          intro i190 hi190 ok
          refine S_st (j := 0) (cs' := [.snil, .bool x188.Closed]) ok rfl rfl rfl hi190 rfl ty_sz_56 rfl rfl (fun ok => ?_)
          refine S_ghostO 0 0 1 (fun r191 => [.sl 1 (List.map c_cplx ([] : List (Nat × Nat))) r191, .bool x188.Closed]) ok rfl hi190 rfl (fun _ => rfl) ?_
          intro r191 hr191 ok
          refine S_nil ?_
          refine C_seq ?_
          refine C_reg (mdl [(11, 1)]) ?_
          refine S_faP rfl ty_fd_84_1 ty_sz_4 ?_
          refine S_ldP (j := 2) ok rfl rfl rfl hi189 (p_one (v := .bool x188.Closed) ty_ag_4 ty_sz_4 rfl) ?_
          refine S_bld (v := .agg [.snil, .bool x188.Closed]) (b_st ty_zc_80 ty_pl_80 rfl) ?_
          refine S_all1 ok rfl ty_zc_80 ?_
          intro i192 hi192 ok
          refine S_st (j := 0) (cs' := [.snil, .bool x188.Closed]) ok rfl rfl rfl hi192 rfl ty_sz_80 rfl rfl (fun ok => ?_)
          refine S_ghostO 0 0 2 (fun r193 => [.sl 2 (List.map c_T_lecternref10_Spot ([] : List T_lecternref10_Spot)) r193, .bool x188.Closed]) ok rfl hi192 rfl (fun _ => rfl) ?_
          intro r193 hr193 ok
          refine S_nil ?_
          refine C_join hF (fun (v : Bool × (List (Nat × Nat)) × Bool × (List T_lecternref10_Spot) × Bool) s' => match v with | (a211, a212, a214, a215, a217) => ∃ g213 g216 : Nat, g213 ≠ 0 ∧ g216 ≠ 0 ∧ OK h ((g216, .room) :: (i192, .cells [.sl 2 (List.map c_T_lecternref10_Spot a215) g216, .bool a217]) :: (g213, .room) :: (i190, .cells [.sl 1 (List.map c_cplx a212) g213, .bool a214]) :: (g124, .room) :: mo g121 c_T_trace_Stroke a122 :: O) ∧ WS s' ⟨mkSl 97 [(5, mslO 2 g121 a122), (6, .sl 2 (List.map c_T_lecternref10_Stroke a123) g124), (7, .bool a211), (10, .ptr i190 0), (11, .ptr i192 0), (15, .sl 2 (List.map c_T_lecternlaw10_Line p0) 0), (16, .int .i64 (p0.length : Int)), (17, .int .i64 a126)], Hp h ((g216, .room) :: (i192, .cells [.sl 2 (List.map c_T_lecternref10_Spot a215) g216, .bool a217]) :: (g213, .room) :: (i190, .cells [.sl 1 (List.map c_cplx a212) g213, .bool a214]) :: (g124, .room) :: mo g121 c_T_trace_Stroke a122 :: O)⟩) (fun J218 hF => ?_) ?_
          ·
            refine C_seq ?_
            refine C_reg (mdl []) ?_
            refine S_a (v := .int _ _) rfl ?_
            refine S_nil ?_
            refine WP_block ?_
            refine C_loop (σ := Bool × (List (Nat × Nat)) × Bool × (List T_lecternref10_Spot) × Bool × Int) hF (fun (v : Bool × (List (Nat × Nat)) × Bool × (List T_lecternref10_Spot) × Bool × Int) s' => match v with | (a219, a220, a222, a223, a225, a226) => ∃ g221 g224 : Nat, g221 ≠ 0 ∧ g224 ≠ 0 ∧ OK h ((g224, .room) :: (i192, .cells [.sl 2 (List.map c_T_lecternref10_Spot a223) g224, .bool a225]) :: (g221, .room) :: (i190, .cells [.sl 1 (List.map c_cplx a220) g221, .bool a222]) :: (i189, .cells [.sl 1 (List.map c_i64 x188.Parts) 0, .bool x188.Closed]) :: (g124, .room) :: mo g121 c_T_trace_Stroke a122 :: O) ∧ WS s' ⟨mkSl 97 [(5, mslO 2 g121 a122), (6, .sl 2 (List.map c_T_lecternref10_Stroke a123) g124), (7, .bool a219), (9, .ptr i189 0), (10, .ptr i190 0), (11, .ptr i192 0), (12, .int .i64 a226), (15, .sl 2 (List.map c_T_lecternlaw10_Line p0) 0), (16, .int .i64 (p0.length : Int)), (17, .int .i64 a126)], Hp h ((g224, .room) :: (i192, .cells [.sl 2 (List.map c_T_lecternref10_Spot a223) g224, .bool a225]) :: (g221, .room) :: (i190, .cells [.sl 1 (List.map c_cplx a220) g221, .bool a222]) :: (i189, .cells [.sl 1 (List.map c_i64 x188.Parts) 0, .bool x188.Closed]) :: (g124, .room) :: mo g121 c_T_trace_Stroke a122 :: O)⟩) ?_ ?_
            ·
              have hwo : WO ((r193, .room) :: (i192, .cells [.sl 2 (List.map c_T_lecternref10_Spot ([] : List T_lecternref10_Spot)) r193, .bool x188.Closed]) :: (r191, .room) :: (i190, .cells [.sl 1 (List.map c_cplx ([] : List (Nat × Nat))) r191, .bool x188.Closed]) :: (i189, .cells [.sl 1 (List.map c_i64 x188.Parts) 0, .bool x188.Closed]) :: (g124, .room) :: mo g121 c_T_trace_Stroke a122 :: O) ((r193, .room) :: (i192, .cells [.sl 2 (List.map c_T_lecternref10_Spot ([] : List T_lecternref10_Spot)) r193, .bool x188.Closed]) :: (r191, .room) :: (i190, .cells [.sl 1 (List.map c_cplx ([] : List (Nat × Nat))) r191, .bool x188.Closed]) :: (i189, .cells [.sl 1 (List.map c_i64 x188.Parts) 0, .bool x188.Closed]) :: (g124, .room) :: mo g121 c_T_trace_Stroke a122 :: O) := (.keep (.keep (.keep (.keep (.keep (.keep (.keep (WO.refl _))))))))
              exact ⟨r191, r193, hr191, hr193, (hwo.spec ok).1, WS.mk' (.cons (.refl _) (.cons (.refl _) (.cons (.refl _) (.cons (.refl _) (.cons (.refl _) (.cons (.refl _) (.cons (.refl _) (.cons (.refl _) (.cons (.refl _) (.cons (.refl _) .nil)))))))))) ok hwo⟩
            ·
              rintro G227 hG228 rec229 ⟨a219, a220, a222, a223, a225, a226⟩ s' ih230 hF ⟨g221, g224, hg221, hg224, ok, hws⟩
              refine WP_ws hws ?_
              clear hws s'
              rw [F_lecternlaw10_figure_l1] at hF
              refine C_seq ?_
              refine C_seq ?_
              refine C_reg (mdl []) ?_
              refine S_m (v := .int _ _) rfl ?_
              refine S_bin rfl rfl (ev_add ..) ?_
              refine S_faP rfl ty_fd_84_0 ty_sz_82 ?_
              refine S_ldP (j := 4) ok rfl rfl rfl hi189 (p_one (v := .sl 1 (List.map c_i64 x188.Parts) 0) ty_ag_82 ty_sz_82 rfl) ?_
              refine S_lenL rfl ty_sl_82 ?_
              refine S_bin rfl rfl (ev_lss ..) ?_
              refine S_nil ?_
              refine C_if (b := (decide ((IntKind.wrap .i64 (a226 + (1 : Int))) < (x188.Parts.length : Int)))) rfl hF (fun hb231 hF => ?_) (fun hb231 hF => ?_)
              ·
                refine WP_skip ?_
                refine C_seq ?_
                refine WP_block ?_
                refine C_seq ?_
                refine C_drw (mdl [(39, 3), (45, 3)]) (by kernel_rfl) (by kernel_rfl) ?_
                refine S_faP rfl ty_fd_84_0 ty_sz_82 ?_
                refine S_ldP (j := 4) ok rfl rfl rfl hi189 (p_one (v := .sl 1 (List.map c_i64 x188.Parts) 0) ty_ag_82 ty_sz_82 rfl) ?_
                refine S_m (v := .int _ _) rfl ?_
                refine S_ix rfl rfl ty_sl_82 ty_sz_3 hF (fun x232 _ hF => ?_)
                refine S_ldQ rfl (p_one ty_ag_3 ty_sz_3 rfl) ?_
                refine S_faP rfl ty_fd_84_0 ty_sz_82 ?_
                refine S_ldP (j := 4) ok rfl rfl rfl hi189 (p_one (v := .sl 1 (List.map c_i64 x188.Parts) 0) ty_ag_82 ty_sz_82 rfl) ?_
                refine S_m (v := .int _ _) rfl ?_
                refine S_bin rfl rfl (ev_add ..) ?_
                refine S_ix rfl rfl ty_sl_82 ty_sz_3 hF (fun x233 _ hF => ?_)
                refine S_ldQ rfl (p_one ty_ag_3 ty_sz_3 rfl) ?_
                refine S_a (v := .int _ _) rfl ?_
                refine S_a (v := .int _ _) rfl ?_
                refine S_nil ?_
                refine C_seq ?_
                refine C_reg (mdl []) ?_
                refine S_m (v := .bool _) rfl ?_
                refine S_m (v := .bool _) rfl ?_
                refine S_two (b := a219) 3 50 (.bool (a219 && (decide ((-1000000 : Int) ≤ x232)))) (fun hb234 => ?_) (fun hb234 => ?_) ?_
                ·
                  refine S_on rfl rfl hb234 ?_
                  refine S_in ?_
                  refine S_m (v := .int _ _) rfl ?_
                  refine S_nil ?_
                  refine S_on rfl rfl hb234 ?_
                  refine S_in ?_
                  refine S_bin rfl rfl (ev_geq ..) ?_
                  refine S_nil ?_
                  refine S_pickT (v := .bool _) rfl hb234 rfl ?_
                  refine S_nil ?_
                  refine .hd (and_t hb234) ?_
                  repeat (first | with_reducible exact WS.refl _ | refine WS.add ?_ rfl | exact WS.refl _)
                ·
                  refine S_off rfl rfl hb234 ?_
                  refine S_offD ?_
                  refine S_off rfl rfl hb234 ?_
                  refine S_offD ?_
                  refine S_pickF (v := .bool _) rfl hb234 rfl ?_
                  refine S_nil ?_
                  refine .hd (and_f hb234) ?_
                  repeat (first | with_reducible exact WS.refl _ | refine WS.add ?_ rfl | exact WS.refl _)
                refine S_m (v := .bool _) rfl ?_
                refine S_two (b := (a219 && (decide ((-1000000 : Int) ≤ x232)))) 3 54 (.bool ((a219 && (decide ((-1000000 : Int) ≤ x232))) && (decide (x232 ≤ (1000000 : Int))))) (fun hb235 => ?_) (fun hb235 => ?_) ?_
                ·
                  refine S_on rfl rfl hb235 ?_
                  refine S_in ?_
                  refine S_m (v := .int _ _) rfl ?_
                  refine S_nil ?_
                  refine S_on rfl rfl hb235 ?_
                  refine S_in ?_
                  refine S_bin rfl rfl (ev_leq ..) ?_
                  refine S_nil ?_
                  refine S_pickT (v := .bool _) rfl hb235 rfl ?_
                  refine S_nil ?_
                  refine .hd (and_t hb235) ?_
                  repeat (first | with_reducible exact WS.refl _ | refine WS.add ?_ rfl | exact WS.refl _)
                ·
                  refine S_off rfl rfl hb235 ?_
                  refine S_offD ?_
                  refine S_off rfl rfl hb235 ?_
                  refine S_offD ?_
                  refine S_pickF (v := .bool _) rfl hb235 rfl ?_
                  refine S_nil ?_
                  refine .hd (and_f hb235) ?_
                  repeat (first | with_reducible exact WS.refl _ | refine WS.add ?_ rfl | exact WS.refl _)
                refine S_m (v := .bool _) rfl ?_
                refine S_two (b := ((a219 && (decide ((-1000000 : Int) ≤ x232))) && (decide (x232 ≤ (1000000 : Int))))) 3 58 (.bool (((a219 && (decide ((-1000000 : Int) ≤ x232))) && (decide (x232 ≤ (1000000 : Int)))) && (decide ((-1000000 : Int) ≤ x233)))) (fun hb236 => ?_) (fun hb236 => ?_) ?_
                ·
                  refine S_on rfl rfl hb236 ?_
                  refine S_in ?_
                  refine S_m (v := .int _ _) rfl ?_
                  refine S_nil ?_
                  refine S_on rfl rfl hb236 ?_
                  refine S_in ?_
                  refine S_bin rfl rfl (ev_geq ..) ?_
                  refine S_nil ?_
                  refine S_pickT (v := .bool _) rfl hb236 rfl ?_
                  refine S_nil ?_
                  refine .hd (and_t hb236) ?_
                  repeat (first | with_reducible exact WS.refl _ | refine WS.add ?_ rfl | exact WS.refl _)
                ·
                  refine S_off rfl rfl hb236 ?_
                  refine S_offD ?_
                  refine S_off rfl rfl hb236 ?_
                  refine S_offD ?_
                  refine S_pickF (v := .bool _) rfl hb236 rfl ?_
                  refine S_nil ?_
                  refine .hd (and_f hb236) ?_
                  repeat (first | with_reducible exact WS.refl _ | refine WS.add ?_ rfl | exact WS.refl _)
                refine S_m (v := .bool _) rfl ?_
                refine S_two (b := (((a219 && (decide ((-1000000 : Int) ≤ x232))) && (decide (x232 ≤ (1000000 : Int)))) && (decide ((-1000000 : Int) ≤ x233)))) 3 62 (.bool ((((a219 && (decide ((-1000000 : Int) ≤ x232))) && (decide (x232 ≤ (1000000 : Int)))) && (decide ((-1000000 : Int) ≤ x233))) && (decide (x233 ≤ (1000000 : Int))))) (fun hb237 => ?_) (fun hb237 => ?_) ?_
                ·
                  refine S_on rfl rfl hb237 ?_
                  refine S_in ?_
                  refine S_m (v := .int _ _) rfl ?_
                  refine S_nil ?_
                  refine S_on rfl rfl hb237 ?_
                  refine S_in ?_
                  refine S_bin rfl rfl (ev_leq ..) ?_
                  refine S_nil ?_
                  refine S_pickT (v := .bool _) rfl hb237 rfl ?_
                  refine S_nil ?_
                  refine .hd (and_t hb237) ?_
                  repeat (first | with_reducible exact WS.refl _ | refine WS.add ?_ rfl | exact WS.refl _)
                ·
                  refine S_off rfl rfl hb237 ?_
                  refine S_offD ?_
                  refine S_off rfl rfl hb237 ?_
                  refine S_offD ?_
                  refine S_pickF (v := .bool _) rfl hb237 rfl ?_
                  refine S_nil ?_
                  refine .hd (and_f hb237) ?_
                  repeat (first | with_reducible exact WS.refl _ | refine WS.add ?_ rfl | exact WS.refl _)
                refine S_a (v := .bool _) rfl ?_
                refine S_nil ?_
                refine C_seq ?_
                refine C_reg (mdl [(71, 2)]) ?_
                refine S_faP rfl ty_fd_56_0 ty_sz_54 ?_
                refine S_ldP (j := 3) ok rfl rfl rfl hi190 (p_one (v := .sl 1 (List.map c_cplx a220) g221) ty_ag_54 ty_sz_54 rfl) ?_
                refine S_m (v := .int _ _) rfl ?_
                refine S_conv rfl (e_i2f ty_ki_40 ty_fa_40 ty_un_3) ?_
                refine S_m (v := .int _ _) rfl ?_
                refine S_conv rfl (e_i2f ty_ki_40 ty_fa_40 ty_un_3) ?_
                refine S_cplx (a := (i2f x232)) (b := (i2f x233)) rfl rfl ?_
                refine S_lit0 (cs := [.cplx .f64 (((i2f x232), (i2f x233)) : Nat × Nat).1 (((i2f x232), (i2f x233)) : Nat × Nat).2]) (es := (List.map c_cplx [(((i2f x232), (i2f x233)) : Nat × Nat)])) rfl ty_el_54 rfl (by kernel_rfl) (by kernel_rfl) ?_
                refine S_app (j := 2) ok rfl rfl rfl rfl hg221 ty_el_54 ty_ni_54 hF ?_
                intro r238 hr238 ok hF
                refine S_faP rfl ty_fd_56_0 ty_sz_54 ?_
                refine S_st (j := 3) (cs' := [.sl 1 (List.map c_cplx (a220 ++ [(((i2f x232), (i2f x233)) : Nat × Nat)])) r238, .bool a222]) ok rfl rfl rfl hi190 rfl ty_sz_54 rfl rfl (fun ok => ?_)
                refine S_nil ?_
                refine C_reg (mdl [(79, 2)]) ?_
                refine S_faP rfl ty_fd_80_0 ty_sz_78 ?_
                refine S_ldP (j := 1) ok rfl rfl rfl hi192 (p_one (v := .sl 2 (List.map c_T_lecternref10_Spot a223) g224) ty_ag_78 ty_sz_78 rfl) ?_
                refine S_m (v := .int _ _) rfl ?_
                refine S_m (v := .int _ _) rfl ?_
                refine S_bld (v := .agg (c_T_lecternref10_Spot (⟨x232, x233⟩ : T_lecternref10_Spot))) (b_st ty_zc_52 ty_pl_52 rfl) ?_
                refine S_lit0 (cs := [.int .i64 (⟨x232, x233⟩ : T_lecternref10_Spot).X, .int .i64 (⟨x232, x233⟩ : T_lecternref10_Spot).Y]) (es := (List.map c_T_lecternref10_Spot [(⟨x232, x233⟩ : T_lecternref10_Spot)])) rfl ty_el_78 rfl (by kernel_rfl) (by kernel_rfl) ?_
                refine S_app (j := 0) ok rfl rfl rfl rfl hg224 ty_el_78 ty_ni_78 hF ?_
                intro r239 hr239 ok hF
                refine S_faP rfl ty_fd_80_0 ty_sz_78 ?_
                refine S_st (j := 1) (cs' := [.sl 2 (List.map c_T_lecternref10_Spot (a223 ++ [(⟨x232, x233⟩ : T_lecternref10_Spot)])) r239, .bool a225]) ok rfl rfl rfl hi192 rfl ty_sz_78 rfl rfl (fun ok => ?_)
                refine S_nil ?_
                refine C_reg (mdl []) ?_
                refine S_m (v := .int _ _) rfl ?_
                refine S_bin rfl rfl (ev_add ..) ?_
                refine S_a (v := .int _ _) rfl ?_
                refine S_nil ?_
                refine ih230 (((((a219 && (decide ((-1000000 : Int) ≤ x232))) && (decide (x232 ≤ (1000000 : Int)))) && (decide ((-1000000 : Int) ≤ x233))) && (decide (x233 ≤ (1000000 : Int)))), (a220 ++ [(((i2f x232), (i2f x233)) : Nat × Nat)]), a222, (a223 ++ [(⟨x232, x233⟩ : T_lecternref10_Spot)]), a225, (IntKind.wrap .i64 (a226 + (2 : Int)))) _ hF ?_
                have hwo : WO ((r239, .room) :: (i192, .cells [.sl 2 (List.map c_T_lecternref10_Spot (a223 ++ [(⟨x232, x233⟩ : T_lecternref10_Spot)])) r239, .bool a225]) :: (r238, .room) :: (i190, .cells [.sl 1 (List.map c_cplx (a220 ++ [(((i2f x232), (i2f x233)) : Nat × Nat)])) r238, .bool a222]) :: (i189, .cells [.sl 1 (List.map c_i64 x188.Parts) 0, .bool x188.Closed]) :: (g124, .room) :: mo g121 c_T_trace_Stroke a122 :: O) ((r239, .room) :: (i192, .cells [.sl 2 (List.map c_T_lecternref10_Spot (a223 ++ [(⟨x232, x233⟩ : T_lecternref10_Spot)])) r239, .bool a225]) :: (r238, .room) :: (i190, .cells [.sl 1 (List.map c_cplx (a220 ++ [(((i2f x232), (i2f x233)) : Nat × Nat)])) r238, .bool a222]) :: (i189, .cells [.sl 1 (List.map c_i64 x188.Parts) 0, .bool x188.Closed]) :: (g124, .room) :: mo g121 c_T_trace_Stroke a122 :: O) := (.keep (.keep (.keep (.keep (.keep (.keep (.keep (WO.refl _))))))))
                exact ⟨r238, r239, hr238, hr239, (hwo.spec ok).1, WS.mk' (.cons (.refl _) (.cons (.refl _) (.cons (.refl _) (.cons (.refl _) (.cons (.refl _) (.cons (.refl _) (.cons (.refl _) (.cons (.refl _) (.cons (.refl _) (.cons (.refl _) .nil)))))))))) ok hwo⟩
              ·
                refine WP_exit ?_
                simp only [Exit.sel, Exit.blk, Exit.jmp, if_true, if_false, reduceIte, Nat.reduceEqDiff, Nat.succ_ne_zero, Nat.zero_ne_one, Nat.one_ne_zero]
                replace hF := hG228 _ (F_some hF)
                have hwo : WO ((g224, .room) :: (i192, .cells [.sl 2 (List.map c_T_lecternref10_Spot a223) g224, .bool a225]) :: (g221, .room) :: (i190, .cells [.sl 1 (List.map c_cplx a220) g221, .bool a222]) :: (i189, .cells [.sl 1 (List.map c_i64 x188.Parts) 0, .bool x188.Closed]) :: (g124, .room) :: mo g121 c_T_trace_Stroke a122 :: O) ((g224, .room) :: (i192, .cells [.sl 2 (List.map c_T_lecternref10_Spot a223) g224, .bool a225]) :: (g221, .room) :: (i190, .cells [.sl 1 (List.map c_cplx a220) g221, .bool a222]) :: (g124, .room) :: mo g121 c_T_trace_Stroke a122 :: O) := (.keep (.keep (.keep (.keep (.drop (.keep (.keep (WO.refl _))))))))
                exact ⟨(a219, a220, a222, a223, a225), hF, g221, g224, hg221, hg224, (hwo.spec ok).1, WS.mk' (.cons (.refl _) (.cons (.refl _) (.cons (.refl _) (.cons (.refl _) (.cons (.refl _) (.cons (.refl _) (.cons (.refl _) (.cons (.refl _) .nil)))))))) ok hwo⟩
          ·
            rintro ⟨a211, a212, a214, a215, a217⟩ s' hF ⟨g213, g216, hg213, hg216, ok, hws⟩
            refine WP_ws hws ?_
            clear hws s'
            refine C_seq ?_
            refine C_reg (mdl [(84, 1)]) ?_
            refine S_m (v := mslO _ _ _) rfl ?_
            refine S_ldP (j := 3) ok rfl rfl rfl hi190 (p_agg (vs := [.sl 1 (List.map c_cplx a212) g213, .bool a214]) ty_ag_56 ty_sz_56 rfl rfl) ?_
            refine S_one 82 (v := .agg (c_T_trace_Stroke (⟨a212, a214⟩ : T_trace_Stroke))) (.aggC (.cons (.zero _ _ _) (.cons (.refl _) (.nil)))) ?_
            refine S_lit0 (cs := [.sl 1 (List.map c_cplx (⟨a212, a214⟩ : T_trace_Stroke).Spots) 0, .bool (⟨a212, a214⟩ : T_trace_Stroke).Closed]) (es := (List.map c_T_trace_Stroke [(⟨a212, a214⟩ : T_trace_Stroke)])) rfl ty_el_23 rfl (by kernel_rfl) (by kernel_rfl) ?_
            refine S_appO (j := 5) (M := [(⟨a212, a214⟩ : T_trace_Stroke)]) ok zg121 rfl rfl src_sl (fun _ => rfl) rfl ty_el_23 ty_ni_23 hF ?_
            intro u240 zu240 ok hF
            obtain ⟨a241, ha241⟩ : ∃ y, y = a122 ++ [(⟨a212, a214⟩ : T_trace_Stroke)] := ⟨_, rfl⟩
            rw [← ha241] at ok zu240 hF
            rw [← ha241]
            refine S_a (v := mslO _ _ _) rfl ?_
            refine S_nil ?_
            refine C_reg (mdl [(88, 2)]) ?_
            refine S_m (v := .sl _ _ _) rfl ?_
            refine S_ldP (j := 1) ok rfl rfl rfl hi192 (p_agg (vs := [.sl 2 (List.map c_T_lecternref10_Spot a215) g216, .bool a217]) ty_ag_80 ty_sz_80 rfl rfl) ?_
            refine S_one 86 (v := .agg (c_T_lecternref10_Stroke (⟨a215, a217⟩ : T_lecternref10_Stroke))) (.aggC (.cons (.zero _ _ _) (.cons (.refl _) (.nil)))) ?_
            refine S_lit0 (cs := [.sl 2 (List.map c_T_lecternref10_Spot (⟨a215, a217⟩ : T_lecternref10_Stroke).Spots) 0, .bool (⟨a215, a217⟩ : T_lecternref10_Stroke).Closed]) (es := (List.map c_T_lecternref10_Stroke [(⟨a215, a217⟩ : T_lecternref10_Stroke)])) rfl ty_el_27 rfl (by kernel_rfl) (by kernel_rfl) ?_
            refine S_app (j := 4) ok rfl rfl rfl rfl hg124 ty_el_27 ty_ni_27 hF ?_
            intro r242 hr242 ok hF
            refine S_a (v := .sl _ _ _) rfl ?_
            refine S_nil ?_
            have hwo : WO ((g216, .room) :: (i192, .cells [.sl 2 (List.map c_T_lecternref10_Spot a215) g216, .bool a217]) :: (g213, .room) :: (i190, .cells [.sl 1 (List.map c_cplx a212) g213, .bool a214]) :: (r242, .room) :: mo u240 c_T_trace_Stroke a241 :: O) ((r242, .room) :: mo u240 c_T_trace_Stroke a241 :: O) := (.drop (.drop (.drop (.drop (.keep (.keep (WO.refl _)))))))
            exact ⟨(a241, (a123 ++ [(⟨a215, a217⟩ : T_lecternref10_Stroke)]), a211), hF, u240, r242, zu240, hr242, (hwo.spec ok).1, WS.mk' (.cons (.refl _) (.cons (.refl _) (.cons (.refl _) (.cons (.refl _) (.cons (.refl _) (.cons (.refl _) .nil)))))) ok hwo⟩
        ·
          rintro ⟨a183, a184, a186⟩ s' hF ⟨g182, g185, zg182, hg185, ok, hws⟩
          refine WP_ws hws ?_
          clear hws s'
          refine C_reg (mdl []) ?_
          refine S_bin rfl rfl (ev_add ..) ?_
          refine S_m (v := .int _ _) rfl ?_
          refine S_nil ?_
          refine ih130 (a183, a184, a186, (IntKind.wrap .i64 (a126 + (1 : Int)))) _ hF ?_
          have hwo : WO ((g185, .room) :: mo g182 c_T_trace_Stroke a183 :: O) ((g185, .room) :: mo g182 c_T_trace_Stroke a183 :: O) := (.keep (.keep (WO.refl _)))
          exact ⟨g182, g185, zg182, hg185, (hwo.spec ok).1, WS.mk' (.cons (.refl _) (.cons (.refl _) (.cons (.refl _) (.cons (.refl _) (.cons (.refl _) (.cons (.refl _) .nil)))))) ok hwo⟩
      ·
        refine WP_exit ?_
        simp only [Exit.sel, Exit.blk, Exit.jmp, if_true, if_false, reduceIte, Nat.reduceEqDiff, Nat.succ_ne_zero, Nat.zero_ne_one, Nat.one_ne_zero]
        replace hF := hG128 _ (F_some hF)
        have hwo : WO ((g124, .room) :: mo g121 c_T_trace_Stroke a122 :: O) ((g124, .room) :: mo g121 c_T_trace_Stroke a122 :: O) := (.keep (.keep (WO.refl _)))
        exact ⟨(a122, a123, a125), hF, g121, g124, zg121, hg124, (hwo.spec ok).1, WS.mk' (.cons (.refl _) (.cons (.refl _) (.cons (.refl _) .nil))) ok hwo⟩
  ·
    rintro ⟨a116, a117, a119⟩ s' hF ⟨g115, g118, zg115, hg118, ok, hws⟩
    refine WP_ws hws ?_
    clear hws s'
    refine C_seq ?_
    refine C_reg (mdl []) ?_
    refine S_m (v := mslO _ _ _) rfl ?_
    refine S_m (v := .sl _ _ _) rfl ?_
    refine S_one 91 (v := .sl 2 (List.map c_T_lecternref10_Stroke a117) 0) (.zero _ _ _) ?_
    refine S_m (v := .bool _) rfl ?_
    refine S_m (v := .bool _) rfl ?_
    refine S_twoJ 3 96 hF (fun J244 hb243 hF => ?_) (fun J244 hb243 hF => ?_) (fun v245 hF => ?_)
    ·
      refine S_on rfl rfl hb243 ?_
      refine S_in ?_
      refine S_m (v := .sl _ _ _) rfl ?_
      refine S_nil ?_
      refine S_one 94 (v := .sl 2 (List.map c_T_lecternref10_Stroke a117) 0) (.zero _ _ _) ?_
      refine S_on rfl rfl hb243 ?_
      refine S_in ?_
      refine S_call (F_lecternref10_Right_ok _ hF fun x246 _ hF => ?_) (.cons (.refl _) (.nil))
      refine S_nil ?_
      refine S_pickT (v := .bool _) rfl hb243 rfl ?_
      refine S_nil ?_
      refine ⟨_, hF, .hd (.refl _) ?_⟩
      repeat (first | with_reducible exact WS.refl _ | refine WS.add ?_ rfl | exact WS.refl _)
    ·
      refine S_off rfl rfl hb243 ?_
      refine S_offD ?_
      refine S_off rfl rfl hb243 ?_
      refine S_offD ?_
      refine S_pickF (v := .bool _) rfl hb243 rfl ?_
      refine S_nil ?_
      refine ⟨_, hF, .hd (.refl _) ?_⟩
      repeat (first | with_reducible exact WS.refl _ | refine WS.add ?_ rfl | exact WS.refl _)
    ·
      refine S_a (v := mslO _ _ _) rfl ?_
      refine S_a (v := .sl _ _ _) rfl ?_
      refine S_a (v := .bool _) rfl ?_
      refine S_nil ?_
      refine WP_ret ?_
      repeat (first | with_reducible refine Exit.sel_ret ?_ | with_reducible refine Exit.blk_ret ?_ | with_reducible refine Exit.jmp_ret ?_)
      refine C_ret (fn := Tryd.f15) rfl (.tmp (v := mslO 2 g115 a116) rfl (.tmp (v := .sl 2 (List.map c_T_lecternref10_Stroke a117) 0) rfl (.tmp (v := .bool v245) rfl .nil))) ?_
      have hwo : WO ((g118, .room) :: mo g115 c_T_trace_Stroke a116 :: O) (mo g115 c_T_trace_Stroke a116 :: O) := (.drop (.keep (WO.refl _)))
      exact ⟨_, _, (.tupC (.cons (.refl _) (.cons (.refl _) (.cons (.refl _) (.nil))))), (hwo.spec ok).2.2, hk _ g115 zg115 (hwo.spec ok).1 (F_some (G := fun a => OptP (f a) G) hF)⟩
theorem turn_own {β : Type} {f : (List T_trace_Stroke) × Int → Option β} {G : β → Prop} {R : D → Heap → Prop} (p0 : List T_trace_Stroke) (p1 : Nat × Nat) (p2 : Nat × Nat) (h : Heap) (O : List (Nat × AObj)) (ok : OK h O) (hF : OptP ((F_trace_Turn p0 p1 p2).bind f) G)
    (hk : ∀ (r : (List T_trace_Stroke) × Int) (i : Nat) (X : List (T_trace_Stroke × Nat)), X.map Prod.fst = r.1 → (i = 0 → X = []) → zX X → OK h (mo i cX X :: (hX X ++ O)) → OptP (f r) G → R (.tup [mslO 2 i X, .int .i64 r.2]) (Hp h (mo i cX X :: (hX X ++ O)))) : CallsA Tryd.prog 24 [.sl 2 (List.map c_T_trace_Stroke p0) 0, .cplx .f64 p1.1 p1.2, .cplx .f64 p2.1 p2.2] (Hp h O) R := by
  refine CallsA.ret ?_
  refine C_bodyO Tryd.func24 rfl en_24 Tryd.ntmps24 rfl ?_
  rw [OptP_bind] at hF
  rw [F_trace_Turn] at hF
  refine C_seq ?_
  refine C_reg (mdl []) ?_
  refine S_a (v := .snil) rfl ?_
  refine S_a (v := .int _ _) rfl ?_
  refine S_nil ?_
  refine C_seq ?_
  refine C_seq ?_
  refine C_reg (mdl []) ?_
  refine S_m (v := .sl _ _ _) rfl ?_
  refine S_call (F_trace_right_ok _ hF fun x1 _ hF => ?_) (.cons (.refl _) (.nil))
  refine S_un rfl (ev_not _) ?_
  refine S_m (v := .bool _) rfl ?_
  refine S_twoJ 4 21 hF (fun J3 hb2 hF => ?_) (fun J3 hb2 hF => ?_) (fun v4 hF => ?_)
  ·
    refine S_off rfl rfl hb2 ?_
    refine S_offD ?_
    refine S_off rfl rfl hb2 ?_
    refine S_offD ?_
    refine S_off rfl rfl hb2 ?_
    refine S_offD ?_
    refine S_pickT (v := .bool _) rfl hb2 rfl ?_
    refine S_nil ?_
    refine ⟨_, hF, .hd (.refl _) ?_⟩
    repeat (first | with_reducible exact WS.refl _ | refine WS.add ?_ rfl | exact WS.refl _)
  ·
    refine S_on rfl rfl hb2 ?_
    refine S_in ?_
    refine S_m (v := .cplx _ _ _) rfl ?_
    refine S_nil ?_
    refine S_on rfl rfl hb2 ?_
    refine S_in ?_
    refine S_call (F_trace_spot_ok _ hF fun x5 _ hF => ?_) (.cons (.refl _) (.nil))
    refine S_nil ?_
    refine S_on rfl rfl hb2 ?_
    refine S_in ?_
    refine S_un rfl (ev_not _) ?_
    refine S_nil ?_
    refine S_pickF (v := .bool _) rfl hb2 rfl ?_
    refine S_nil ?_
    refine ⟨_, hF, .hd (.refl _) ?_⟩
    repeat (first | with_reducible exact WS.refl _ | refine WS.add ?_ rfl | exact WS.refl _)
  ·
    refine S_m (v := .bool _) rfl ?_
    refine S_twoJ 4 26 hF (fun J7 hb6 hF => ?_) (fun J7 hb6 hF => ?_) (fun v8 hF => ?_)
    ·
      refine S_off rfl rfl hb6 ?_
      refine S_offD ?_
      refine S_off rfl rfl hb6 ?_
      refine S_offD ?_
      refine S_off rfl rfl hb6 ?_
      refine S_offD ?_
      refine S_pickT (v := .bool _) rfl hb6 rfl ?_
      refine S_nil ?_
      refine ⟨_, hF, .hd (.refl _) ?_⟩
      repeat (first | with_reducible exact WS.refl _ | refine WS.add ?_ rfl | exact WS.refl _)
    ·
      refine S_on rfl rfl hb6 ?_
      refine S_in ?_
      refine S_m (v := .cplx _ _ _) rfl ?_
      refine S_nil ?_
      refine S_on rfl rfl hb6 ?_
      refine S_in ?_
      refine S_call (F_trace_spot_ok _ hF fun x9 _ hF => ?_) (.cons (.refl _) (.nil))
      refine S_nil ?_
      refine S_on rfl rfl hb6 ?_
      refine S_in ?_
      refine S_un rfl (ev_not _) ?_
      refine S_nil ?_
      refine S_pickF (v := .bool _) rfl hb6 rfl ?_
      refine S_nil ?_
      refine ⟨_, hF, .hd (.refl _) ?_⟩
      repeat (first | with_reducible exact WS.refl _ | refine WS.add ?_ rfl | exact WS.refl _)
    ·
      refine S_nil ?_
      refine C_if (b := v8) rfl hF (fun hb10 hF => ?_) (fun hb10 hF => ?_)
      ·
        refine C_seq ?_
        refine C_reg (mdl []) ?_
        refine S_a (v := .snil) rfl ?_
        refine S_a (v := .int _ _) rfl ?_
        refine S_nil ?_
        refine WP_ret ?_
        repeat (first | with_reducible refine Exit.sel_ret ?_ | with_reducible refine Exit.blk_ret ?_ | with_reducible refine Exit.jmp_ret ?_)
        refine C_ret (fn := Tryd.f24) rfl (.tmp (v := .snil) rfl (.tmp (v := .int .i64 (1 : Int)) rfl .nil)) ?_
        exact ⟨_, _, (.tupC (.cons (.refl _) (.cons (.refl _) (.nil)))), (WO.spec (WO_to (L := []) O) ok).2.2, hk _ 0 [] rfl (fun _ => rfl) zX_nil (OK_nil (WO.spec (WO_to (L := []) O) ok).1) (F_some (G := fun a => OptP (f a) G) hF)⟩
      ·
        refine WP_skip ?_
        refine C_seq ?_
        refine C_reg (mdl []) ?_
        refine S_a (v := .snil) rfl ?_
        refine S_nilB cX ok (fun ok => ?_)
        refine S_nil ?_
        refine C_join hF (fun (a89 : (List T_trace_Stroke)) s' => ∃ (g88 : Nat) (X : List (T_trace_Stroke × Nat)), X.map Prod.fst = a89 ∧ zX X ∧ (g88 = 0 → X = []) ∧ OK h (mo g88 cX X :: (hX X ++ O)) ∧ WS s' ⟨mkSl 64 [(8, mslO 2 g88 X)], Hp h (mo g88 cX X :: (hX X ++ O))⟩) (fun J90 hF => ?_) ?_
        ·
          refine C_seq ?_
          refine C_reg (mdl []) ?_
          refine S_m (v := .sl _ _ _) rfl ?_
          refine S_lenL rfl ty_sl_23 ?_
          refine S_m (v := .int _ _) rfl ?_
          refine S_nil ?_
          refine WP_block ?_
          refine C_loop (σ := (List T_trace_Stroke) × Int) hF (fun (v : (List T_trace_Stroke) × Int) s' => match v with | (a92, a93) => ∃ (g91 : Nat) (X : List (T_trace_Stroke × Nat)), X.map Prod.fst = a92 ∧ zX X ∧ (g91 = 0 → X = []) ∧ OK h (mo g91 cX X :: (hX X ++ O)) ∧ WS s' ⟨mkSl 64 [(1, .cplx .f64 p1.1 p1.2), (2, .cplx .f64 p2.1 p2.2), (8, mslO 2 g91 X), (27, .sl 2 (List.map c_T_trace_Stroke p0) 0), (28, .int .i64 (p0.length : Int)), (29, .int .i64 a93)], Hp h (mo g91 cX X :: (hX X ++ O))⟩) ?_ ?_
          ·
            have hwo : WO (mo 0 cX [] :: (hX [] ++ O)) (mo 0 cX [] :: (hX [] ++ O)) := (.keep (WO.refl _))
            exact ⟨0, [], rfl, zX_nil, (fun _ => rfl), (hwo.spec ok).1, WS.mk' (.cons (.refl _) (.cons (.refl _) (.cons (.refl _) (.cons (.refl _) (.cons (.refl _) (.cons (.refl _) .nil)))))) ok hwo⟩
          ·
            rintro G94 hG95 rec96 ⟨a92, a93⟩ s' ih97 hF ⟨g91, X, hX1, hX2, zg91, ok, hws⟩
            refine WP_ws hws ?_
            clear hws s'
            rw [F_trace_Turn_l0] at hF
            refine C_seq ?_
            refine C_reg (mdl []) ?_
            refine S_bin rfl rfl (ev_lss ..) ?_
            refine S_nil ?_
            refine C_seq ?_
            refine C_if (b := (decide (a93 < (p0.length : Int)))) rfl hF (fun hb98 hF => ?_) (fun hb98 hF => ?_)
            ·
              refine WP_skip ?_
              refine C_join hF (fun (a135 : (List T_trace_Stroke)) s' => ∃ (g134 : Nat) (X : List (T_trace_Stroke × Nat)), X.map Prod.fst = a135 ∧ zX X ∧ (g134 = 0 → X = []) ∧ OK h (mo g134 cX X :: (hX X ++ O)) ∧ WS s' ⟨mkSl 64 [(1, .cplx .f64 p1.1 p1.2), (2, .cplx .f64 p2.1 p2.2), (8, mslO 2 g134 X), (27, .sl 2 (List.map c_T_trace_Stroke p0) 0), (28, .int .i64 (p0.length : Int)), (29, .int .i64 a93)], Hp h (mo g134 cX X :: (hX X ++ O))⟩) (fun J136 hF => ?_) ?_
              ·
                refine WP_block ?_
                refine C_seq ?_
                refine C_reg (mdl [(10, 1)]) ?_
                refine S_ix rfl rfl ty_sl_23 ty_sz_56 hF (fun x137 _ hF => ?_)
                refine S_ldQ rfl (p_agg (vs := c_T_trace_Stroke x137) ty_ag_56 ty_sz_56 rfl rfl) ?_
                refine S_all1 ok rfl ty_zc_56 ?_
                intro i138 hi138 ok
                refine S_nilB c_cplx ok (fun ok => ?_)
                refine S_st (j := 1) (cs' := [.sl 1 (List.map c_cplx x137.Spots) 0, .bool x137.Closed]) ok rfl rfl rfl hi138 rfl ty_sz_56 rfl rfl (fun ok => ?_)
                refine S_nil ?_
                refine C_seq ?_
                refine C_reg (mdl [(11, 1)]) ?_
                refine S_faP rfl ty_fd_56_1 ty_sz_4 ?_
                refine S_ldP (j := 1) ok rfl rfl rfl hi138 (p_one (v := .bool x137.Closed) ty_ag_4 ty_sz_4 rfl) ?_
                refine S_bld (v := .agg [.snil, .bool x137.Closed]) (b_st ty_zc_56 ty_pl_56 rfl) ?_
                refine S_all1 ok rfl ty_zc_56 ?_
                intro i140 hi140 ok
                refine S_nilB c_cplx ok (fun ok => ?_)
                refine S_st (j := 1) (cs' := [.snil, .bool x137.Closed]) ok rfl rfl rfl hi140 rfl ty_sz_56 rfl rfl (fun ok => ?_)
                refine S_nilB c_cplx ok (fun ok => ?_)
                refine S_nil ?_
                refine C_join hF (fun (v : (List (Nat × Nat)) × Bool) s' => match v with | (a156, a157) => ∃ g155 : Nat, (g155 = 0 → a156 = []) ∧ OK h (mo g155 c_cplx a156 :: (i140, .cells [mslO 1 g155 a156, .bool a157]) :: mo g91 cX X :: (hX X ++ O)) ∧ WS s' ⟨mkSl 64 [(1, .cplx .f64 p1.1 p1.2), (2, .cplx .f64 p2.1 p2.2), (8, mslO 2 g91 X), (11, .ptr i140 0), (27, .sl 2 (List.map c_T_trace_Stroke p0) 0), (28, .int .i64 (p0.length : Int)), (29, .int .i64 a93)], Hp h (mo g155 c_cplx a156 :: (i140, .cells [mslO 1 g155 a156, .bool a157]) :: mo g91 cX X :: (hX X ++ O))⟩) (fun J158 hF => ?_) ?_
                ·
                  refine C_seq ?_
                  refine C_reg (mdl []) ?_
                  refine S_faP rfl ty_fd_56_0 ty_sz_54 ?_
                  refine S_ldP (j := 4) ok rfl rfl rfl hi138 (p_one (v := .sl 1 (List.map c_cplx x137.Spots) 0) ty_ag_54 ty_sz_54 rfl) ?_
                  refine S_lenL rfl ty_sl_54 ?_
                  refine S_m (v := .int _ _) rfl ?_
                  refine S_nil ?_
                  refine WP_block ?_
                  refine C_loop (σ := (List (Nat × Nat)) × Bool × Int) hF (fun (v : (List (Nat × Nat)) × Bool × Int) s' => match v with | (a160, a161, a162) => ∃ g159 : Nat, (g159 = 0 → a160 = []) ∧ OK h (mo g159 c_cplx a160 :: (i140, .cells [mslO 1 g159 a160, .bool a161]) :: mo g91 cX X :: (hX X ++ O)) ∧ WS s' ⟨mkSl 64 [(1, .cplx .f64 p1.1 p1.2), (2, .cplx .f64 p2.1 p2.2), (8, mslO 2 g91 X), (11, .ptr i140 0), (27, .sl 2 (List.map c_T_trace_Stroke p0) 0), (28, .int .i64 (p0.length : Int)), (29, .int .i64 a93), (37, .sl 1 (List.map c_cplx x137.Spots) 0), (38, .int .i64 (x137.Spots.length : Int)), (39, .int .i64 a162)], Hp h (mo g159 c_cplx a160 :: (i140, .cells [mslO 1 g159 a160, .bool a161]) :: mo g91 cX X :: (hX X ++ O))⟩) ?_ ?_
                  ·
                    have hwo : WO (mo 0 c_cplx ([] : List (Nat × Nat)) :: mo 0 c_cplx ([] : List (Nat × Nat)) :: (i140, .cells [mslO 1 0 ([] : List (Nat × Nat)), .bool x137.Closed]) :: mo 0 c_cplx ([] : List (Nat × Nat)) :: (i138, .cells [.sl 1 (List.map c_cplx x137.Spots) 0, .bool x137.Closed]) :: mo g91 cX X :: (hX X ++ O)) (mo 0 c_cplx ([] : List (Nat × Nat)) :: (i140, .cells [mslO 1 0 ([] : List (Nat × Nat)), .bool x137.Closed]) :: mo g91 cX X :: (hX X ++ O)) := (.keep (.drop (.keep (.drop (.drop (.keep (WO.refl _)))))))
                    exact ⟨0, (fun _ => rfl), (hwo.spec ok).1, WS.mk' (.cons (.refl _) (.cons (.refl _) (.cons (.refl _) (.cons (.refl _) (.cons (.refl _) (.cons (.refl _) (.cons (.refl _) (.cons (.refl _) (.cons (.refl _) (.cons (.refl _) .nil)))))))))) ok hwo⟩
                  ·
                    rintro G163 hG164 rec165 ⟨a160, a161, a162⟩ s' ih166 hF ⟨g159, zg159, ok, hws⟩
                    refine WP_ws hws ?_
                    clear hws s'
                    rw [F_trace_Turn_l1] at hF
                    refine C_seq ?_
                    refine C_reg (mdl []) ?_
                    refine S_bin rfl rfl (ev_lss ..) ?_
                    refine S_nil ?_
                    refine C_seq ?_
                    refine C_if (b := (decide (a162 < (x137.Spots.length : Int)))) rfl hF (fun hb167 hF => ?_) (fun hb167 hF => ?_)
                    ·
                      refine WP_skip ?_
                      refine C_seq ?_
                      refine WP_block ?_
                      refine C_seq ?_
                      refine C_reg (mdl []) ?_
                      refine S_ix rfl rfl ty_sl_54 ty_sz_45 hF (fun x168 _ hF => ?_)
                      refine S_ldQ rfl (p_one ty_ag_45 ty_sz_45 rfl) ?_
                      refine S_a (v := .cplx _ _ _) rfl ?_
                      refine S_nil ?_
                      refine C_seq ?_
                      refine C_reg (mdl []) ?_
                      refine S_m (v := .cplx _ _ _) rfl ?_
                      refine S_m (v := .cplx _ _ _) rfl ?_
                      refine S_cmul (a := x168) (b := p1) rfl rfl hF (fun x169 _ hF => ?_)
                      refine S_m (v := .cplx _ _ _) rfl ?_
                      refine S_cadd (a := x169) (b := p2) rfl rfl hF (fun x170 _ hF => ?_)
                      refine S_a (v := .cplx _ _ _) rfl ?_
                      refine S_nil ?_
                      refine C_seq ?_
                      refine C_seq ?_
                      refine C_reg (mdl []) ?_
                      refine S_m (v := .cplx _ _ _) rfl ?_
                      refine S_call (F_trace_spot_ok _ hF fun x171 _ hF => ?_) (.cons (.refl _) (.nil))
                      refine S_un rfl (ev_not _) ?_
                      refine S_nil ?_
                      refine C_if (b := (!x171)) rfl hF (fun hb172 hF => ?_) (fun hb172 hF => ?_)
                      ·
                        refine C_seq ?_
                        refine C_reg (mdl []) ?_
                        refine S_a (v := .snil) rfl ?_
                        refine S_a (v := .int _ _) rfl ?_
                        refine S_nil ?_
                        refine WP_ret ?_
                        replace hF := hG164 _ (F_some hF)
                        replace hF := hG95 _ (F_some hF)
                        repeat (first | with_reducible refine Exit.sel_ret ?_ | with_reducible refine Exit.blk_ret ?_ | with_reducible refine Exit.jmp_ret ?_)
                        refine C_ret (fn := Tryd.f24) rfl (.tmp (v := .snil) rfl (.tmp (v := .int .i64 (5 : Int)) rfl .nil)) ?_
                        exact ⟨_, _, (.tupC (.cons (.refl _) (.cons (.refl _) (.nil)))), (WO.spec (.drop (.drop (.drop (WO_to O)))) ok).2.2, hk _ 0 [] rfl (fun _ => rfl) zX_nil (OK_nil (WO.spec (.drop (.drop (.drop (WO_to O)))) ok).1) (F_some (G := fun a => OptP (f a) G) hF)⟩
                      ·
                        refine WP_skip ?_
                        refine C_reg (mdl [(55, 1)]) ?_
                        refine S_faP rfl ty_fd_56_0 ty_sz_54 ?_
                        refine S_ldP (j := 1) ok rfl rfl rfl hi140 (p_one (v := mslO 1 g159 a160) ty_ag_54 ty_sz_54 rfl) ?_
                        refine S_m (v := .cplx _ _ _) rfl ?_
                        refine S_lit0 (cs := [.cplx .f64 x170.1 x170.2]) (es := (List.map c_cplx [x170])) rfl ty_el_54 rfl (by kernel_rfl) (by kernel_rfl) ?_
                        refine S_appO (j := 0) (M := [x170]) ok zg159 rfl rfl src_sl (fun _ => rfl) rfl ty_el_54 ty_ni_54 hF ?_
                        intro u173 zu173 ok hF
                        obtain ⟨a174, ha174⟩ : ∃ y, y = a160 ++ [x170] := ⟨_, rfl⟩
                        rw [← ha174] at ok zu173 hF
                        rw [← ha174]
                        refine S_faP rfl ty_fd_56_0 ty_sz_54 ?_
                        refine S_stB (j := 1) (cs' := [mslO 1 u173 a174, .bool a161]) ok rfl rfl rfl hi140 ty_sz_54 rfl rfl (fun ok => ?_)
                        refine S_nil ?_
                        refine C_reg (mdl []) ?_
                        refine S_bin rfl rfl (ev_add ..) ?_
                        refine S_m (v := .int _ _) rfl ?_
                        refine S_nil ?_
                        refine ih166 (a174, a161, (IntKind.wrap .i64 (a162 + (1 : Int)))) _ hF ?_
                        have hwo : WO (mo u173 c_cplx a174 :: (i140, .cells [mslO 1 u173 a174, .bool a161]) :: mo g91 cX X :: (hX X ++ O)) (mo u173 c_cplx a174 :: (i140, .cells [mslO 1 u173 a174, .bool a161]) :: mo g91 cX X :: (hX X ++ O)) := (.keep (.keep (.keep (WO.refl _))))
                        exact ⟨u173, zu173, (hwo.spec ok).1, WS.mk' (.cons (.refl _) (.cons (.refl _) (.cons (.refl _) (.cons (.refl _) (.cons (.refl _) (.cons (.refl _) (.cons (.refl _) (.cons (.refl _) (.cons (.refl _) (.cons (.refl _) .nil)))))))))) ok hwo⟩
                    ·
                      refine WP_exit ?_
                      simp only [Exit.sel, Exit.blk, Exit.jmp, if_true, if_false, reduceIte, Nat.reduceEqDiff, Nat.succ_ne_zero, Nat.zero_ne_one, Nat.one_ne_zero]
                      replace hF := hG164 _ (F_some hF)
                      have hwo : WO (mo g159 c_cplx a160 :: (i140, .cells [mslO 1 g159 a160, .bool a161]) :: mo g91 cX X :: (hX X ++ O)) (mo g159 c_cplx a160 :: (i140, .cells [mslO 1 g159 a160, .bool a161]) :: mo g91 cX X :: (hX X ++ O)) := (.keep (.keep (.keep (WO.refl _))))
                      exact ⟨(a160, a161), hF, g159, zg159, (hwo.spec ok).1, WS.mk' (.cons (.refl _) (.cons (.refl _) (.cons (.refl _) (.cons (.refl _) (.cons (.refl _) (.cons (.refl _) (.cons (.refl _) .nil))))))) ok hwo⟩
                ·
                  rintro ⟨a156, a157⟩ s' hF ⟨g155, zg155, ok, hws⟩
                  refine WP_ws hws ?_
                  clear hws s'
                  refine C_reg (mdl [(61, 1)]) ?_
                  refine S_m (v := mslO _ _ _) rfl ?_
                  refine S_ldP (j := 1) ok rfl rfl rfl hi140 (p_agg (vs := [mslO 1 g155 a156, .bool a157]) ty_ag_56 ty_sz_56 rfl rfl) ?_
                  refine S_lit0 (cs := [mslO 1 g155 a156, .bool a157]) (es := (List.map cX [((⟨a156, a157⟩ : T_trace_Stroke), g155)])) rfl ty_el_23 rfl (by kernel_rfl) (by kernel_rfl) ?_
                  obtain ⟨v, hv, hF⟩ := F_bind hF
                  refine S_appO (β := Unit) (G := fun _ => True) (f := fun _ => some ()) (j := 2) (c := cX) (e := X) (M := [((⟨a156, a157⟩ : T_trace_Stroke), g155)]) ok zg91 rfl rfl src_sl (fun _ => rfl) rfl ty_el_23 ty_ni_23 (by rw [app_fst hX1 hv]; exact ⟨(), rfl, trivial⟩) ?_
                  intro u175 zu175 ok hF2
                  obtain ⟨hpe, ok⟩ := Hp_perm ok (push_perm (i := i140) (q := .cells [mslO 1 g155 a156, .bool a157]) (m := mo u175 cX (X ++ [((⟨a156, a157⟩ : T_trace_Stroke), g155)])) (x := ((⟨a156, a157⟩ : T_trace_Stroke), g155)) (X := X) (O := O))
                  refine S_hpe hpe ?_
                  clear hpe
                  refine S_a (v := mslO _ _ _) rfl ?_
                  refine S_nil ?_
                  have hwo : WO ((i140, .cells [mslO 1 g155 a156, .bool a157]) :: mo u175 cX (X ++ [((⟨a156, a157⟩ : T_trace_Stroke), g155)]) :: (hX (X ++ [((⟨a156, a157⟩ : T_trace_Stroke), g155)]) ++ O)) (mo u175 cX (X ++ [((⟨a156, a157⟩ : T_trace_Stroke), g155)]) :: (hX (X ++ [((⟨a156, a157⟩ : T_trace_Stroke), g155)]) ++ O)) := (.drop (WO.refl _))
                  exact ⟨(a92 ++ [(⟨a156, a157⟩ : T_trace_Stroke)]), hF, u175, X ++ [((⟨a156, a157⟩ : T_trace_Stroke), g155)], by rw [List.map_append, hX1]; rfl, zX_snoc hX2 zg155, zu175, (hwo.spec ok).1, WS.mk' (.cons (.refl _) (.cons (.refl _) (.cons (.refl _) (.cons (.refl _) (.cons (.refl _) (.cons (.refl _) .nil)))))) ok hwo⟩
              ·
                rintro a135 s' hF ⟨g134, X, hX1, hX2, zg134, ok, hws⟩
                refine WP_ws hws ?_
                clear hws s'
                refine C_reg (mdl []) ?_
                refine S_bin rfl rfl (ev_add ..) ?_
                refine S_m (v := .int _ _) rfl ?_
                refine S_nil ?_
                refine ih97 (a135, (IntKind.wrap .i64 (a93 + (1 : Int)))) _ hF ?_
                have hwo : WO (mo g134 cX X :: (hX X ++ O)) (mo g134 cX X :: (hX X ++ O)) := (.keep (WO.refl _))
                exact ⟨g134, X, hX1, hX2, zg134, (hwo.spec ok).1, WS.mk' (.cons (.refl _) (.cons (.refl _) (.cons (.refl _) (.cons (.refl _) (.cons (.refl _) (.cons (.refl _) .nil)))))) ok hwo⟩
            ·
              refine WP_exit ?_
              simp only [Exit.sel, Exit.blk, Exit.jmp, if_true, if_false, reduceIte, Nat.reduceEqDiff, Nat.succ_ne_zero, Nat.zero_ne_one, Nat.one_ne_zero]
              replace hF := hG95 _ (F_some hF)
              have hwo : WO (mo g91 cX X :: (hX X ++ O)) (mo g91 cX X :: (hX X ++ O)) := (.keep (WO.refl _))
              exact ⟨a92, hF, g91, X, hX1, hX2, zg91, (hwo.spec ok).1, WS.mk' (.cons (.refl _) .nil) ok hwo⟩
        ·
          rintro a89 s' hF ⟨g88, X, hX1, hX2, zg88, ok, hws⟩
          refine WP_ws hws ?_
          clear hws s'
          refine C_seq ?_
          refine C_reg (mdl []) ?_
          refine S_m (v := mslO _ _ _) rfl ?_
          refine S_a (v := mslO _ _ _) rfl ?_
          refine S_a (v := .int _ _) rfl ?_
          refine S_nil ?_
          refine WP_ret ?_
          repeat (first | with_reducible refine Exit.sel_ret ?_ | with_reducible refine Exit.blk_ret ?_ | with_reducible refine Exit.jmp_ret ?_)
          refine C_ret (fn := Tryd.f24) rfl (.tmp (v := mslO 2 g88 X) rfl (.tmp (v := .int .i64 (0 : Int)) rfl .nil)) ?_
          exact ⟨_, _, (.tupC (.cons (.refl _) (.cons (.refl _) (.nil)))), WH.refl _, hk (a89, 0) g88 X hX1 zg88 hX2 ok (F_some (G := fun a => OptP (f a) G) hF)⟩
end Go.Proofs.YtocfjohangcajaaDoor

set_option maxRecDepth 20000
set_option maxHeartbeats 8000000
namespace Go.Proofs.YtocfjohangcajaaDoor
theorem mslO_lenG {α β : Type} {q id : Nat} {e : List α} {e2 : List β} (h : e2.length = e.length) : mslO q id e = mslO q id e2 := by unfold mslO; rw [h]
theorem en_10 : entD Tryd.prog 10 = true := by kernel_rfl
def cM : T_trace_Stroke × Bool → List D
  | (s, false) => [.sl 1 (List.map c_cplx s.Spots) 0, .bool s.Closed]
  | (s, true) => [.slx 1 (List.map c_cplx s.Spots) (List.map c_cplx [sv]), .bool s.Closed]
def cT (s : T_trace_Stroke) : List D := [.slx 1 (List.map c_cplx s.Spots) (List.map c_cplx [sv]), .bool s.Closed]
theorem cM_len : ∀ a, (cM a).length = 2
  | (_, false) => rfl
  | (_, true) => rfl
theorem cT_len (a : T_trace_Stroke) : (cT a).length = 2 := rfl
theorem fl_false : ∀ L : List T_trace_Stroke, fl c_T_trace_Stroke L = fl cM (L.map fun s => (s, false))
  | [] => rfl
  | s :: L => by
    have := fl_false L
    unfold fl at this ⊢
    simp only [List.map_cons, List.flatten_cons, this]; rfl
theorem fl_true : ∀ e : List (T_trace_Stroke × Bool), (∀ x ∈ e, x.2 = true) → fl cM e = fl cT (e.map (·.1))
  | [], _ => rfl
  | (s, b) :: L, h => by
    have := fl_true L (fun x hx => h x (List.mem_cons_of_mem _ hx))
    have hb : b = true := h (s, b) (List.mem_cons_self ..)
    subst hb
    unfold fl at this ⊢
    simp only [List.map_cons, List.flatten_cons, this]; rfl
theorem mo_false (g : Nat) (L : List T_trace_Stroke) : mo g c_T_trace_Stroke L = mo g cM (L.map fun s => (s, false)) := by
  unfold mo; rw [fl_false]
theorem mo_true (g : Nat) {e : List (T_trace_Stroke × Bool)} {L : List T_trace_Stroke} (h : allT e = some L) : mo g cM e = mo g cT L ∧ L.length = e.length := by
  unfold allT at h
  split at h
  · rename_i ha
    injection h with h; subst h
    refine ⟨?_, by simp⟩
    unfold mo; rw [fl_true e (fun x hx => List.all_eq_true.1 ha x hx)]
  · simp at h
theorem wdR_T : ∀ L : List T_trace_Stroke, WdR (L.map cT) (L.map c_T_trace_Stroke)
  | [] => .nil
  | s :: L => .cons (.cons (.slx _ _ _) (.cons (.refl _) .nil)) (wdR_T L)
theorem wd_T (L : List T_trace_Stroke) : Wd (.sl 2 (L.map cT) 0) (.sl 2 (L.map c_T_trace_Stroke) 0) := .slR (wdR_T L) (.inr rfl)
theorem op1 {α : Type} {o : Option α} {a : α} (h : o = some a) : OptP (o.bind fun _ => some ()) (fun _ : Unit => True) := by rw [h]; exact ⟨(), rfl, trivial⟩
section
variable {P : Program} {md : Nat → Nat} {w : Bool} {ops : Array Oper} {os : List Oper} {k : St → Prop} {n : Nat} {l : List (Nat × D)} {h : Heap} {d : Nat} {t ty : TypeId} {pos : String} {af : Array Edge} {x y z : Operand}
variable {β : Type} {G : β → Prop} {O : List (Nat × AObj)}
/-- The answer's spare room is known. -/
theorem S_app3 {α : Type} {q r r2 j B : Nat} {zs : List D} {c : α → List D} {L M : List α} {u : TypeId} {f : List α → Option β} (ok : OK h O) (hm : md d = 3) (hx : opL n l x = .sl q (L.map c) r) (hy : opL n l y = .sl q (M.map c) r2)
    (hj : O[j]? = some (r, .room)) (hr : r ≠ 0) (he : elD P t = some (q, B, zs)) (hu : notIntD P u = true) (hF : OptP ((app B L M).bind f) G) (hne : L ++ M ≠ [])
    (hk : OK h (O.set j (0, .room)) → OptP (f (L ++ M)) G → seqQ P md w ops os ⟨mkSl n ((d, .slx q ((L ++ M).map c) (([] : List α).map c)) :: l), Hp h (O.set j (0, .room))⟩ k) :
    seqQ P md w ops (⟨some d, .call ⟨.builtin .append, #[x, y], #[t, u]⟩, ty, pos, af, none⟩ :: os) ⟨mkSl n l, Hp h O⟩ k := S_of (by
  obtain ⟨v, hv, hF⟩ := F_bind hF
  unfold app at hv
  split at hv
  · rename_i hc
    injection hv with hv; subst hv
    simp only [effD, builtD, List.map_cons, List.map_nil, hx, hy, hm, appendD, he, srcD, if_true, hu, true_and, List.length_map, Hp_get j ok hj hr, ev_grow3]
    obtain ⟨e1, e2⟩ := Hp_rel j ok hj hr
    refine ⟨hc.1, hc.2, by decide, ?_, ?_⟩
    · rw [← List.map_append]; intro h0; exact hne (List.map_eq_nil_iff.1 h0)
    · rw [e1, ← List.map_append]; exact hk e2 hF
  · simp at hv)
theorem S_lenX {α : Type} {q : Nat} {c : α → List D} {L : List α} {sp : List (List D)} {e : TypeId} (hx : opL n l x = .slx q (L.map c) sp) (ht : slD P t = some e) (hk : seqQ P md w ops os ⟨mkSl n ((d, .int .i64 (L.length : Int)) :: l), h⟩ k) :
    seqQ P md w ops (⟨some d, .call ⟨.builtin .len, #[x], #[t]⟩, ty, pos, af, none⟩ :: os) ⟨mkSl n l, h⟩ k := S_of (by
  simp only [effD, builtD, List.map_cons, List.map_nil, hx, lenD, ht, Option.isSome_some, if_true, OptP_some, List.length_map]; exact hk)
theorem S_ixX {α : Type} {q : Nat} {c : α → List D} {L : List α} {sp : List (List D)} {K : IntKind} {i : Int} {e : TypeId} {f : α → Option β} (hx : opL n l x = .slx q (L.map c) sp) (hy : opL n l y = .int K i) (hs : slD P t = some e) (hq : szD P e = some q)
    (hF : OptP ((idx L i).bind f) G) (hk : ∀ a, idx L i = some a → OptP (f a) G → seqQ P md w ops os ⟨mkSl n ((d, .iptr (c a)) :: l), h⟩ k) : seqQ P md w ops (⟨some d, .indexAddr t x y, ty, pos, af, none⟩ :: os) ⟨mkSl n l, h⟩ k := S_of (by
  obtain ⟨a, ha, hF⟩ := F_bind hF
  have ha' := ha
  unfold idx at ha'
  split at ha'
  · rename_i h0
    obtain ⟨hlt, he⟩ := List.getElem?_eq_some_iff.1 ha'
    have hlt' : i < (L.length : Int) := by omega
    have hg : (L.map c).getD i.toNat [] = c a := by
      rw [List.getD_eq_getElem?_getD, List.getElem?_map, ha']; rfl
    simp only [effD, hx, hy, indexAddrD, hs, hq, List.length_map, true_and, h0, hlt', and_self, if_true, OptP_some, hg]
    exact hk a ha hF
  · simp at ha')
theorem S_cutX {α : Type} {q : Nat} {c : α → List D} {L M : List α} {et : TypeId} {K : IntKind} (hx : opL n l x = .slx q ((L ++ M).map c) (([] : List α).map c)) (hs : slD P t = some et) (hq : szD P et = some q) (hy : opL n l y = .int K (L.length : Int))
    (hk : seqQ P md w ops os ⟨mkSl n ((d, .slx q (L.map c) (M.map c)) :: l), h⟩ k) : seqQ P md w ops (⟨some d, .slice t x none (some y) none, ty, pos, af, none⟩ :: os) ⟨mkSl n l, h⟩ k := by
  refine S_slX (f := fun _ => some ()) (G := fun _ => True) (e := L ++ M) (sp := []) hx hs hq hy (op1 (a := L) ?_) (fun b hb _ => ?_)
  · unfold slc
    rw [if_pos ⟨by omega, by omega, by simp; omega⟩]
    congr 1
    rw [show ((0 : Int)).toNat = 0 from rfl]; simp
  · unfold slc at hb
    rw [if_pos ⟨by omega, by omega, by simp; omega⟩] at hb
    injection hb with hb
    rw [show ((0 : Int)).toNat = 0 from rfl] at hb
    have e1 : b = L := by rw [← hb]; simp
    have e2 : ((L ++ M) ++ ([] : List α)).drop (L.length : Int).toNat = M := by simp
    rw [e1, e2]; exact hk
end
section
variable {X : List (T_trace_Stroke × Nat)} {O : List (Nat × AObj)}
theorem hX_cons (q : T_trace_Stroke × Nat) (X : List (T_trace_Stroke × Nat)) : hX (q :: X) = hX X ++ [mo q.2 c_cplx q.1.Spots] := by simp [hX]
/-- Where an element's row stands. -/
theorem hX_at : ∀ {X : List (T_trace_Stroke × Nat)} {i : Nat} {p : T_trace_Stroke × Nat}, X[i]? = some p → ∃ j, (hX X)[j]? = some (mo p.2 c_cplx p.1.Spots) ∧ j < (hX X).length ∧ ∀ p' : T_trace_Stroke × Nat, (hX X).set j (mo p'.2 c_cplx p'.1.Spots) = hX (X.set i p')
  | [], i, p, h => by simp at h
  | q :: X, 0, p, h => by
    simp at h; subst h
    refine ⟨(hX X).length, by rw [hX_cons]; simp, by rw [hX_cons]; simp, fun p' => ?_⟩
    rw [hX_cons, List.set_cons_zero, hX_cons, List.set_append_right _ _ (Nat.le_refl _)]; simp
  | q :: X, i + 1, p, h => by
    obtain ⟨j, h1, h2, h3⟩ := hX_at (X := X) (i := i) (p := p) (by simpa using h)
    refine ⟨j, by rw [hX_cons, List.getElem?_append_left h2]; exact h1, by rw [hX_cons]; simp; omega, fun p' => ?_⟩
    rw [hX_cons, List.set_cons_succ, hX_cons, List.set_append_left _ _ h2, h3]
theorem obj_at {X : List (T_trace_Stroke × Nat)} {i : Nat} {p : T_trace_Stroke × Nat} (h : X[i]? = some p) (m : Nat × AObj) (O : List (Nat × AObj)) :
    ∃ j, (m :: (hX X ++ O))[j + 1]? = some (mo p.2 c_cplx p.1.Spots) ∧ ∀ p' : T_trace_Stroke × Nat, (m :: (hX X ++ O)).set (j + 1) (mo p'.2 c_cplx p'.1.Spots) = m :: (hX (X.set i p') ++ O) := by
  obtain ⟨j, h1, h2, h3⟩ := hX_at h
  refine ⟨j, ?_, fun p' => ?_⟩
  · rw [List.getElem?_cons_succ, List.getElem?_append_left h2]; exact h1
  · rw [List.set_cons_succ, List.set_append_left _ _ h2, h3]
theorem zX_set {X : List (T_trace_Stroke × Nat)} (h : zX X) {i : Nat} {p : T_trace_Stroke × Nat} (hp : p.2 = 0 → p.1.Spots = []) : zX (X.set i p) := by
  intro q hq
  rcases List.mem_or_eq_of_mem_set hq with h1 | h1
  · exact h q h1
  · subst h1; exact hp
theorem fst_set {X : List (T_trace_Stroke × Nat)} {Y : List T_trace_Stroke} (h : X.map Prod.fst = Y) (i : Nat) (p : T_trace_Stroke × Nat) : (X.set i p).map Prod.fst = Y.set i p.1 := by
  subst h; rw [List.map_set]
theorem fst_get {X : List (T_trace_Stroke × Nat)} {Y : List T_trace_Stroke} (h : X.map Prod.fst = Y) {i : Int} {a : T_trace_Stroke} (hi : idx Y i = some a) : ∃ t, idx X i = some (a, t) := by
  subst h
  obtain ⟨h0, h1, h2⟩ := idx_get hi
  rw [List.getElem?_map] at h1
  obtain ⟨q, hq, rfl⟩ := Option.map_eq_some_iff.1 h1
  refine ⟨q.2, ?_⟩
  unfold idx
  rw [if_pos h0, hq]
theorem mo_cX {g : Nat} {X : List (T_trace_Stroke × Nat)} {i : Nat} {p p' : T_trace_Stroke × Nat} (hp : X[i]? = some p) (h1 : p'.1.Spots.length = p.1.Spots.length) (h2 : p'.1.Closed = p.1.Closed) (h3 : p'.2 = p.2) : mo g cX (X.set i p') = mo g cX X := by
  have e : cX p' = cX p := by unfold cX mslO; rw [h1, h2, h3]
  have : (X.set i p').map cX = X.map cX := by
    rw [List.map_set, e]
    refine List.ext_getElem? fun j => ?_
    by_cases hj : i = j
    · subst hj
      have hlt := (List.getElem?_eq_some_iff.1 hp).1
      rw [List.getElem?_set_self (by simpa using hlt), List.getElem?_map, hp]; rfl
    · rw [List.getElem?_set_ne hj]
  unfold mo fl; rw [this]
end
theorem WO_none : ∀ O : List (Nat × AObj), WO O []
  | [] => .nil
  | _ :: O => .drop (WO_none O)
theorem keeps_w (p0 : List T_lecternlaw10_Line) {G : Bool → Prop} (h : Heap) (hF : OptP (F_Keeps p0) G) : CallsA Tryd.prog 10 [.sl 2 (List.map c_T_lecternlaw10_Line p0) 0] h fun d h' => ∃ r, G r ∧ d = .bool r := by
  refine CallsA.ret ?_
  refine C_body Tryd.func10 rfl en_10 Tryd.ntmps10 rfl (fun ok => ?_)
  rw [F_Keeps] at hF
  refine C_seq ?_
  refine C_reg (mdl []) ?_
  refine S_a (v := .bool _) rfl ?_
  refine S_nil ?_
  refine C_seq ?_
  refine C_seq ?_
  refine C_reg (mdl []) ?_
  refine S_call (F_lecternlaw10_awake_ok _ hF fun x1 _ hF => ?_) (.nil)
  refine S_un rfl (ev_not _) ?_
  refine S_nil ?_
  refine C_if (b := (!x1)) rfl hF (fun hb2 hF => ?_) (fun hb2 hF => ?_)
  ·
    refine C_seq ?_
    refine C_reg (mdl []) ?_
    refine S_a (v := .bool _) rfl ?_
    refine S_nil ?_
    refine WP_ret ?_
    repeat (first | with_reducible refine Exit.sel_ret ?_ | with_reducible refine Exit.blk_ret ?_ | with_reducible refine Exit.jmp_ret ?_)
    refine C_ret (fn := Tryd.f10) rfl (.tmp (v := .bool false) rfl .nil) ?_
    exact ⟨_, _, (.refl _), WH.refl _, _, F_some hF, rfl⟩
  refine WP_skip ?_
  refine C_seq ?_
  refine C_reg (mdl []) ?_
  refine S_m (v := .sl _ _ _) rfl ?_
  refine S_call (figure_own _ _ _ ok hF fun x g zg ok hF => ?_) (.cons (.refl _) (.nil))
  obtain ⟨xf, xg, xo⟩ := x
  dsimp only at zg ok hF ⊢
  rw [mo_false] at ok ⊢
  rw [mslO_lenG (q := 2) (id := g) (e := xf) (e2 := xf.map fun s => (s, false)) (by simp)]
  have zg : g = 0 → (xf.map fun s => (s, false)) = [] := fun h0 => by rw [zg h0]; rfl
  refine S_m (v := .tup _) rfl ?_
  refine S_ext rfl rfl ?_
  refine S_ext rfl rfl ?_
  refine S_ext rfl rfl ?_
  refine S_a (v := mslO _ _ _) rfl ?_
  refine S_a (v := .sl _ _ _) rfl ?_
  refine S_a (v := .bool _) rfl ?_
  refine S_nil ?_
  refine C_join hF (fun (e : List (T_trace_Stroke × Bool)) s' => ∃ g : Nat, (g = 0 → e = []) ∧ OK h [mo g cM e] ∧ WS s' ⟨mkSl 128 [(3, mslO 2 g e), (4, .sl 2 (List.map c_T_lecternref10_Stroke xg) 0), (5, .bool xo)], Hp h [mo g cM e]⟩) (fun J1 hF => ?_) ?_
  ·
    refine C_seq ?_
    refine C_reg (mdl []) ?_
    refine S_m (v := mslO _ _ _) rfl ?_
    refine S_lenO zg rfl ty_sl_23 ?_
    refine S_m (v := .int _ _) rfl ?_
    refine S_nil ?_
    refine WP_block ?_
    refine C_loop (σ := List (T_trace_Stroke × Bool) × Int) hF (fun (v : List (T_trace_Stroke × Bool) × Int) s' => match v with | (e, i) => ∃ g : Nat, (g = 0 → e = []) ∧ OK h [mo g cM e] ∧ WS s' ⟨mkSl 128 [(3, mslO 2 g e), (4, .sl 2 (List.map c_T_lecternref10_Stroke xg) 0), (5, .bool xo), (21, .int .i64 (xf.length : Int)), (22, .int .i64 i)], Hp h [mo g cM e]⟩) ?_ ?_
    ·
      have hwo : WO [mo g cM (xf.map fun s => (s, false))] [mo g cM (xf.map fun s => (s, false))] := (.keep .nil)
      exact ⟨g, zg, (hwo.spec ok).1, WS.mk' (.cons (.refl _) (.cons (.refl _) (.cons (.refl _) (.cons (.eq (congrArg (fun n : Nat => D.int .i64 (n : Int)) (List.length_map ..))) (.cons (.refl _) .nil))))) ok hwo⟩
    ·
      rintro G1 hG1 rec ⟨e, i⟩ s' ih hF ⟨g, zg, ok, hws⟩
      refine WP_ws hws ?_
      clear hws s'
      rw [K_l0] at hF
      refine C_seq ?_
      refine C_reg (mdl []) ?_
      refine S_bin rfl rfl (ev_lss ..) ?_
      refine S_nil ?_
      refine C_seq ?_
      refine C_if (b := (decide (i < (xf.length : Int)))) rfl hF (fun hb hF => ?_) (fun hb hF => ?_)
      ·
        refine WP_skip ?_
        refine C_join hF (fun (e : List (T_trace_Stroke × Bool)) s' => ∃ g : Nat, (g = 0 → e = []) ∧ OK h [mo g cM e] ∧ WS s' ⟨mkSl 128 [(3, mslO 2 g e), (4, .sl 2 (List.map c_T_lecternref10_Stroke xg) 0), (5, .bool xo), (21, .int .i64 (xf.length : Int)), (22, .int .i64 i)], Hp h [mo g cM e]⟩) (fun J hF => ?_) ?_
        ·
          refine WP_block ?_
          refine C_seq ?_
          refine C_reg (mdl []) ?_
          refine S_m (v := .int _ _) rfl ?_
          refine S_a (v := .int _ _) rfl ?_
          refine S_nil ?_
          refine WP_any N0 (mdl [(27, 2), (33, 2), (35, 3)]) (gamma0 _) (by kernel_rfl) ?_
          refine A_seq [0, 1, 3, 4, 5, 6, 9, 11, 12, 13, 14] [_, _, _, _, _, _, _, _, _, _, _] 10 #[true, true, false, true, true, true, true, false, false, true, false, true, true, true, true, false, false, false, false, false, false] rfl rfl (by kernel_rfl) (by kernel_rfl) ?_
          refine S_m (v := mslO _ _ _) rfl ?_
          refine S_m (v := .int _ _) rfl ?_
          refine S_m (v := mslO _ _ _) rfl ?_
          refine S_m (v := .int _ _) rfl ?_
          refine S_ixO zg rfl rfl ty_sl_23 ty_sz_56 hF (fun x hx hF => ?_)
          obtain ⟨s, b⟩ := x
          rcases F_cond hF with ⟨_, hF⟩ | ⟨hb, hF⟩
          · exact F_none hF
          dsimp only at hb hF
          subst hb
          obtain ⟨_, h1, hF⟩ := F_bind hF
          obtain ⟨_, h2, hF⟩ := F_bind hF
          refine S_faP rfl ty_fd_56_0 ty_sz_54 ?_
          refine S_lit0 (cs := [.cplx .f64 4619567317775286272 0]) (es := (List.map c_cplx [sv])) rfl ty_el_54 rfl (by kernel_rfl) (by kernel_rfl) ?_
          refine S_m (v := mslO _ _ _) rfl ?_
          refine S_m (v := .int _ _) rfl ?_
          refine S_ixO (f := fun _ => some ()) (G := fun _ => True) zg rfl rfl ty_sl_23 ty_sz_56 (op1 hx) (fun _ _ _ => ?_)
          refine S_faP rfl ty_fd_56_0 ty_sz_54 ?_
          refine S_nil ?_
          refine A_three 2 7 15 _ _ _ #[true, true, true, true, true, true, true, false, false, true, false, true, true, true, true, false, false, false, false, false, false] #[true, true, false, true, true, true, true, true, false, true, false, true, true, true, true, false, false, false, false, false, false] #[true, true, false, true, true, true, true, false, false, true, false, true, true, true, true, true, false, false, false, false, false] (by kernel_rfl) rfl rfl rfl (by kernel_rfl) (by kernel_rfl) (by kernel_rfl) ?_ ?_ ?_
          ·
           refine S_lit2 (cs := []) (es := (List.map c_cplx ([] : List (Nat × Nat)))) ok rfl ty_el_54 rfl (by kernel_rfl) (by kernel_rfl) ?_
           intro r2 hr2 ok
           refine S_nil ?_
           refine A_seq [7] [_] 8 #[true, true, true, true, true, true, true, true, false, true, false, true, true, true, true, false, false, false, false, false, false] rfl rfl (by kernel_rfl) (by kernel_rfl) ?_
           refine S_ldO (c := cM) (j := 1) (v := .sl 1 (List.map c_cplx s.Spots) 0) ok rfl zg rfl rfl cM_len hx rfl rfl (p_one (v := .sl 1 (List.map c_cplx s.Spots) 0) ty_ag_54 ty_sz_54 rfl) ?_
           refine S_nil ?_
           refine A_two 8 15 _ _ #[true, true, true, true, true, true, true, true, true, true, false, true, true, true, true, false, false, false, false, false, false] #[true, true, true, true, true, true, true, true, false, true, false, true, true, true, true, true, false, false, false, false, false] (by kernel_rfl) rfl rfl (by kernel_rfl) (by kernel_rfl) ?_ ?_
           ·
            refine S_app (β := Unit) (G := fun _ => True) (f := fun _ => some ()) (c := c_cplx) (L := []) (M := s.Spots) (j := 0) ok rfl rfl rfl rfl hr2 ty_el_54 ty_ni_54 (op1 h1) ?_
            intro r3 hr3 ok _
            refine S_nil ?_
            refine A_two 10 15 _ _ #[true, true, true, true, true, true, true, true, true, true, true, true, true, true, true, false, false, false, false, false, false] #[true, true, true, true, true, true, true, true, true, true, false, true, true, true, true, true, false, false, false, false, false] (by kernel_rfl) rfl rfl (by kernel_rfl) (by kernel_rfl) ?_ ?_
            ·
             refine S_app3 (β := Unit) (G := fun _ => True) (f := fun _ => some ()) (c := c_cplx) (L := s.Spots) (M := [sv]) (j := 0) ok rfl rfl rfl rfl hr3 ty_el_54 ty_ni_54 (op1 h2) (by simp) ?_
             intro ok _
             refine S_nil ?_
             refine A_seq [15, 16, 17, 18, 19, 20] [_, _, _, _, _, _] 0 #[true, true, true, true, true, true, true, true, true, true, true, true, true, true, true, true, true, true, true, true, true] rfl rfl (by kernel_rfl) (by kernel_rfl) ?_
             refine S_ldO (c := cM) (j := 1) (v := .sl 1 (List.map c_cplx s.Spots) 0) ok rfl zg rfl rfl cM_len hx rfl rfl (p_one (v := .sl 1 (List.map c_cplx s.Spots) 0) ty_ag_54 ty_sz_54 rfl) ?_
             refine S_lenL rfl ty_sl_54 ?_
             refine S_cutX (c := c_cplx) (L := s.Spots) (M := [sv]) rfl ty_sl_54 ty_sz_45 rfl ?_
             refine S_ixO (f := fun _ => some ()) (G := fun _ => True) zg rfl rfl ty_sl_23 ty_sz_56 (op1 hx) (fun _ _ _ => ?_)
             refine S_faP rfl ty_fd_56_0 ty_sz_54 ?_
             refine S_stO (c := cM) (j := 1) (v := .slx 1 (List.map c_cplx s.Spots) (List.map c_cplx [sv])) (b := (s, true)) ok zg rfl rfl rfl cM_len hx rfl rfl ty_sz_54 rfl rfl (fun zg ok => ?_)
             refine S_nil ?_
             refine A_end (by kernel_rfl) ?_
             have hwo : WO [(0, .room), mo g cM (e.set i.toNat (s, true))] [mo g cM (e.set i.toNat (s, true))] := (.drop (.keep .nil))
             exact ⟨e.set i.toNat (s, true), hF, g, zg, (hwo.spec ok).1, WS.mk' (.cons (.eq (mslO_len (by simp))) (.cons (.refl _) (.cons (.refl _) (.cons (.refl _) (.cons (.refl _) .nil))))) ok hwo⟩
            ·
             refine S_ldO (c := cM) (j := 1) (v := .sl 1 (List.map c_cplx s.Spots) 0) ok rfl zg rfl rfl cM_len hx rfl rfl (p_one (v := .sl 1 (List.map c_cplx s.Spots) 0) ty_ag_54 ty_sz_54 rfl) ?_
             refine S_nil ?_
             refine A_seq [16, 10, 17, 18, 19, 20] [_, _, _, _, _, _] 0 #[true, true, true, true, true, true, true, true, true, true, true, true, true, true, true, true, true, true, true, true, true] rfl rfl (by kernel_rfl) (by kernel_rfl) ?_
             refine S_lenL rfl ty_sl_54 ?_
             refine S_app3 (β := Unit) (G := fun _ => True) (f := fun _ => some ()) (c := c_cplx) (L := s.Spots) (M := [sv]) (j := 0) ok rfl rfl rfl rfl hr3 ty_el_54 ty_ni_54 (op1 h2) (by simp) ?_
             intro ok _
             refine S_cutX (c := c_cplx) (L := s.Spots) (M := [sv]) rfl ty_sl_54 ty_sz_45 rfl ?_
             refine S_ixO (f := fun _ => some ()) (G := fun _ => True) zg rfl rfl ty_sl_23 ty_sz_56 (op1 hx) (fun _ _ _ => ?_)
             refine S_faP rfl ty_fd_56_0 ty_sz_54 ?_
             refine S_stO (c := cM) (j := 1) (v := .slx 1 (List.map c_cplx s.Spots) (List.map c_cplx [sv])) (b := (s, true)) ok zg rfl rfl rfl cM_len hx rfl rfl ty_sz_54 rfl rfl (fun zg ok => ?_)
             refine S_nil ?_
             refine A_end (by kernel_rfl) ?_
             have hwo : WO [(0, .room), mo g cM (e.set i.toNat (s, true))] [mo g cM (e.set i.toNat (s, true))] := (.drop (.keep .nil))
             exact ⟨e.set i.toNat (s, true), hF, g, zg, (hwo.spec ok).1, WS.mk' (.cons (.eq (mslO_len (by simp))) (.cons (.refl _) (.cons (.refl _) (.cons (.refl _) (.cons (.refl _) .nil))))) ok hwo⟩
           ·
            refine S_ldO (c := cM) (j := 1) (v := .sl 1 (List.map c_cplx s.Spots) 0) ok rfl zg rfl rfl cM_len hx rfl rfl (p_one (v := .sl 1 (List.map c_cplx s.Spots) 0) ty_ag_54 ty_sz_54 rfl) ?_
            refine S_nil ?_
            refine A_seq [16, 8, 10, 17, 18, 19, 20] [_, _, _, _, _, _, _] 0 #[true, true, true, true, true, true, true, true, true, true, true, true, true, true, true, true, true, true, true, true, true] rfl rfl (by kernel_rfl) (by kernel_rfl) ?_
            refine S_lenL rfl ty_sl_54 ?_
            refine S_app (β := Unit) (G := fun _ => True) (f := fun _ => some ()) (c := c_cplx) (L := []) (M := s.Spots) (j := 0) ok rfl rfl rfl rfl hr2 ty_el_54 ty_ni_54 (op1 h1) ?_
            intro r3 hr3 ok _
            refine S_app3 (β := Unit) (G := fun _ => True) (f := fun _ => some ()) (c := c_cplx) (L := s.Spots) (M := [sv]) (j := 0) ok rfl rfl rfl rfl hr3 ty_el_54 ty_ni_54 (op1 h2) (by simp) ?_
            intro ok _
            refine S_cutX (c := c_cplx) (L := s.Spots) (M := [sv]) rfl ty_sl_54 ty_sz_45 rfl ?_
            refine S_ixO (f := fun _ => some ()) (G := fun _ => True) zg rfl rfl ty_sl_23 ty_sz_56 (op1 hx) (fun _ _ _ => ?_)
            refine S_faP rfl ty_fd_56_0 ty_sz_54 ?_
            refine S_stO (c := cM) (j := 1) (v := .slx 1 (List.map c_cplx s.Spots) (List.map c_cplx [sv])) (b := (s, true)) ok zg rfl rfl rfl cM_len hx rfl rfl ty_sz_54 rfl rfl (fun zg ok => ?_)
            refine S_nil ?_
            refine A_end (by kernel_rfl) ?_
            have hwo : WO [(0, .room), mo g cM (e.set i.toNat (s, true))] [mo g cM (e.set i.toNat (s, true))] := (.drop (.keep .nil))
            exact ⟨e.set i.toNat (s, true), hF, g, zg, (hwo.spec ok).1, WS.mk' (.cons (.eq (mslO_len (by simp))) (.cons (.refl _) (.cons (.refl _) (.cons (.refl _) (.cons (.refl _) .nil))))) ok hwo⟩
          ·
           refine S_ldO (c := cM) (j := 0) (v := .sl 1 (List.map c_cplx s.Spots) 0) ok rfl zg rfl rfl cM_len hx rfl rfl (p_one (v := .sl 1 (List.map c_cplx s.Spots) 0) ty_ag_54 ty_sz_54 rfl) ?_
           refine S_nil ?_
           refine A_two 2 15 _ _ #[true, true, true, true, true, true, true, true, false, true, false, true, true, true, true, false, false, false, false, false, false] #[true, true, false, true, true, true, true, true, false, true, false, true, true, true, true, true, false, false, false, false, false] (by kernel_rfl) rfl rfl (by kernel_rfl) (by kernel_rfl) ?_ ?_
           ·
            refine S_lit2 (cs := []) (es := (List.map c_cplx ([] : List (Nat × Nat)))) ok rfl ty_el_54 rfl (by kernel_rfl) (by kernel_rfl) ?_
            intro r2 hr2 ok
            refine S_nil ?_
            refine A_two 8 15 _ _ #[true, true, true, true, true, true, true, true, true, true, false, true, true, true, true, false, false, false, false, false, false] #[true, true, true, true, true, true, true, true, false, true, false, true, true, true, true, true, false, false, false, false, false] (by kernel_rfl) rfl rfl (by kernel_rfl) (by kernel_rfl) ?_ ?_
            ·
             refine S_app (β := Unit) (G := fun _ => True) (f := fun _ => some ()) (c := c_cplx) (L := []) (M := s.Spots) (j := 0) ok rfl rfl rfl rfl hr2 ty_el_54 ty_ni_54 (op1 h1) ?_
             intro r3 hr3 ok _
             refine S_nil ?_
             refine A_two 10 15 _ _ #[true, true, true, true, true, true, true, true, true, true, true, true, true, true, true, false, false, false, false, false, false] #[true, true, true, true, true, true, true, true, true, true, false, true, true, true, true, true, false, false, false, false, false] (by kernel_rfl) rfl rfl (by kernel_rfl) (by kernel_rfl) ?_ ?_
             ·
              refine S_app3 (β := Unit) (G := fun _ => True) (f := fun _ => some ()) (c := c_cplx) (L := s.Spots) (M := [sv]) (j := 0) ok rfl rfl rfl rfl hr3 ty_el_54 ty_ni_54 (op1 h2) (by simp) ?_
              intro ok _
              refine S_nil ?_
              refine A_seq [15, 16, 17, 18, 19, 20] [_, _, _, _, _, _] 0 #[true, true, true, true, true, true, true, true, true, true, true, true, true, true, true, true, true, true, true, true, true] rfl rfl (by kernel_rfl) (by kernel_rfl) ?_
              refine S_ldO (c := cM) (j := 1) (v := .sl 1 (List.map c_cplx s.Spots) 0) ok rfl zg rfl rfl cM_len hx rfl rfl (p_one (v := .sl 1 (List.map c_cplx s.Spots) 0) ty_ag_54 ty_sz_54 rfl) ?_
              refine S_lenL rfl ty_sl_54 ?_
              refine S_cutX (c := c_cplx) (L := s.Spots) (M := [sv]) rfl ty_sl_54 ty_sz_45 rfl ?_
              refine S_ixO (f := fun _ => some ()) (G := fun _ => True) zg rfl rfl ty_sl_23 ty_sz_56 (op1 hx) (fun _ _ _ => ?_)
              refine S_faP rfl ty_fd_56_0 ty_sz_54 ?_
              refine S_stO (c := cM) (j := 1) (v := .slx 1 (List.map c_cplx s.Spots) (List.map c_cplx [sv])) (b := (s, true)) ok zg rfl rfl rfl cM_len hx rfl rfl ty_sz_54 rfl rfl (fun zg ok => ?_)
              refine S_nil ?_
              refine A_end (by kernel_rfl) ?_
              have hwo : WO [(0, .room), mo g cM (e.set i.toNat (s, true))] [mo g cM (e.set i.toNat (s, true))] := (.drop (.keep .nil))
              exact ⟨e.set i.toNat (s, true), hF, g, zg, (hwo.spec ok).1, WS.mk' (.cons (.eq (mslO_len (by simp))) (.cons (.refl _) (.cons (.refl _) (.cons (.refl _) (.cons (.refl _) .nil))))) ok hwo⟩
             ·
              refine S_ldO (c := cM) (j := 1) (v := .sl 1 (List.map c_cplx s.Spots) 0) ok rfl zg rfl rfl cM_len hx rfl rfl (p_one (v := .sl 1 (List.map c_cplx s.Spots) 0) ty_ag_54 ty_sz_54 rfl) ?_
              refine S_nil ?_
              refine A_seq [16, 10, 17, 18, 19, 20] [_, _, _, _, _, _] 0 #[true, true, true, true, true, true, true, true, true, true, true, true, true, true, true, true, true, true, true, true, true] rfl rfl (by kernel_rfl) (by kernel_rfl) ?_
              refine S_lenL rfl ty_sl_54 ?_
              refine S_app3 (β := Unit) (G := fun _ => True) (f := fun _ => some ()) (c := c_cplx) (L := s.Spots) (M := [sv]) (j := 0) ok rfl rfl rfl rfl hr3 ty_el_54 ty_ni_54 (op1 h2) (by simp) ?_
              intro ok _
              refine S_cutX (c := c_cplx) (L := s.Spots) (M := [sv]) rfl ty_sl_54 ty_sz_45 rfl ?_
              refine S_ixO (f := fun _ => some ()) (G := fun _ => True) zg rfl rfl ty_sl_23 ty_sz_56 (op1 hx) (fun _ _ _ => ?_)
              refine S_faP rfl ty_fd_56_0 ty_sz_54 ?_
              refine S_stO (c := cM) (j := 1) (v := .slx 1 (List.map c_cplx s.Spots) (List.map c_cplx [sv])) (b := (s, true)) ok zg rfl rfl rfl cM_len hx rfl rfl ty_sz_54 rfl rfl (fun zg ok => ?_)
              refine S_nil ?_
              refine A_end (by kernel_rfl) ?_
              have hwo : WO [(0, .room), mo g cM (e.set i.toNat (s, true))] [mo g cM (e.set i.toNat (s, true))] := (.drop (.keep .nil))
              exact ⟨e.set i.toNat (s, true), hF, g, zg, (hwo.spec ok).1, WS.mk' (.cons (.eq (mslO_len (by simp))) (.cons (.refl _) (.cons (.refl _) (.cons (.refl _) (.cons (.refl _) .nil))))) ok hwo⟩
            ·
             refine S_ldO (c := cM) (j := 1) (v := .sl 1 (List.map c_cplx s.Spots) 0) ok rfl zg rfl rfl cM_len hx rfl rfl (p_one (v := .sl 1 (List.map c_cplx s.Spots) 0) ty_ag_54 ty_sz_54 rfl) ?_
             refine S_nil ?_
             refine A_seq [16, 8, 10, 17, 18, 19, 20] [_, _, _, _, _, _, _] 0 #[true, true, true, true, true, true, true, true, true, true, true, true, true, true, true, true, true, true, true, true, true] rfl rfl (by kernel_rfl) (by kernel_rfl) ?_
             refine S_lenL rfl ty_sl_54 ?_
             refine S_app (β := Unit) (G := fun _ => True) (f := fun _ => some ()) (c := c_cplx) (L := []) (M := s.Spots) (j := 0) ok rfl rfl rfl rfl hr2 ty_el_54 ty_ni_54 (op1 h1) ?_
             intro r3 hr3 ok _
             refine S_app3 (β := Unit) (G := fun _ => True) (f := fun _ => some ()) (c := c_cplx) (L := s.Spots) (M := [sv]) (j := 0) ok rfl rfl rfl rfl hr3 ty_el_54 ty_ni_54 (op1 h2) (by simp) ?_
             intro ok _
             refine S_cutX (c := c_cplx) (L := s.Spots) (M := [sv]) rfl ty_sl_54 ty_sz_45 rfl ?_
             refine S_ixO (f := fun _ => some ()) (G := fun _ => True) zg rfl rfl ty_sl_23 ty_sz_56 (op1 hx) (fun _ _ _ => ?_)
             refine S_faP rfl ty_fd_56_0 ty_sz_54 ?_
             refine S_stO (c := cM) (j := 1) (v := .slx 1 (List.map c_cplx s.Spots) (List.map c_cplx [sv])) (b := (s, true)) ok zg rfl rfl rfl cM_len hx rfl rfl ty_sz_54 rfl rfl (fun zg ok => ?_)
             refine S_nil ?_
             refine A_end (by kernel_rfl) ?_
             have hwo : WO [(0, .room), mo g cM (e.set i.toNat (s, true))] [mo g cM (e.set i.toNat (s, true))] := (.drop (.keep .nil))
             exact ⟨e.set i.toNat (s, true), hF, g, zg, (hwo.spec ok).1, WS.mk' (.cons (.eq (mslO_len (by simp))) (.cons (.refl _) (.cons (.refl _) (.cons (.refl _) (.cons (.refl _) .nil))))) ok hwo⟩
           ·
            refine S_ldO (c := cM) (j := 0) (v := .sl 1 (List.map c_cplx s.Spots) 0) ok rfl zg rfl rfl cM_len hx rfl rfl (p_one (v := .sl 1 (List.map c_cplx s.Spots) 0) ty_ag_54 ty_sz_54 rfl) ?_
            refine S_nil ?_
            refine A_seq [16, 2, 8, 10, 17, 18, 19, 20] [_, _, _, _, _, _, _, _] 0 #[true, true, true, true, true, true, true, true, true, true, true, true, true, true, true, true, true, true, true, true, true] rfl rfl (by kernel_rfl) (by kernel_rfl) ?_
            refine S_lenL rfl ty_sl_54 ?_
            refine S_lit2 (cs := []) (es := (List.map c_cplx ([] : List (Nat × Nat)))) ok rfl ty_el_54 rfl (by kernel_rfl) (by kernel_rfl) ?_
            intro r2 hr2 ok
            refine S_app (β := Unit) (G := fun _ => True) (f := fun _ => some ()) (c := c_cplx) (L := []) (M := s.Spots) (j := 0) ok rfl rfl rfl rfl hr2 ty_el_54 ty_ni_54 (op1 h1) ?_
            intro r3 hr3 ok _
            refine S_app3 (β := Unit) (G := fun _ => True) (f := fun _ => some ()) (c := c_cplx) (L := s.Spots) (M := [sv]) (j := 0) ok rfl rfl rfl rfl hr3 ty_el_54 ty_ni_54 (op1 h2) (by simp) ?_
            intro ok _
            refine S_cutX (c := c_cplx) (L := s.Spots) (M := [sv]) rfl ty_sl_54 ty_sz_45 rfl ?_
            refine S_ixO (f := fun _ => some ()) (G := fun _ => True) zg rfl rfl ty_sl_23 ty_sz_56 (op1 hx) (fun _ _ _ => ?_)
            refine S_faP rfl ty_fd_56_0 ty_sz_54 ?_
            refine S_stO (c := cM) (j := 1) (v := .slx 1 (List.map c_cplx s.Spots) (List.map c_cplx [sv])) (b := (s, true)) ok zg rfl rfl rfl cM_len hx rfl rfl ty_sz_54 rfl rfl (fun zg ok => ?_)
            refine S_nil ?_
            refine A_end (by kernel_rfl) ?_
            have hwo : WO [(0, .room), mo g cM (e.set i.toNat (s, true))] [mo g cM (e.set i.toNat (s, true))] := (.drop (.keep .nil))
            exact ⟨e.set i.toNat (s, true), hF, g, zg, (hwo.spec ok).1, WS.mk' (.cons (.eq (mslO_len (by simp))) (.cons (.refl _) (.cons (.refl _) (.cons (.refl _) (.cons (.refl _) .nil))))) ok hwo⟩
          ·
           refine S_ldO (c := cM) (j := 0) (v := .sl 1 (List.map c_cplx s.Spots) 0) ok rfl zg rfl rfl cM_len hx rfl rfl (p_one (v := .sl 1 (List.map c_cplx s.Spots) 0) ty_ag_54 ty_sz_54 rfl) ?_
           refine S_nil ?_
           refine A_seq [16] [_] 8 #[true, true, false, true, true, true, true, false, false, true, false, true, true, true, true, true, true, false, false, false, false] rfl rfl (by kernel_rfl) (by kernel_rfl) ?_
           refine S_lenL rfl ty_sl_54 ?_
           refine S_nil ?_
           refine A_two 2 7 _ _ #[true, true, true, true, true, true, true, false, false, true, false, true, true, true, true, true, true, false, false, false, false] #[true, true, false, true, true, true, true, true, false, true, false, true, true, true, true, true, true, false, false, false, false] (by kernel_rfl) rfl rfl (by kernel_rfl) (by kernel_rfl) ?_ ?_
           ·
            refine S_lit2 (cs := []) (es := (List.map c_cplx ([] : List (Nat × Nat)))) ok rfl ty_el_54 rfl (by kernel_rfl) (by kernel_rfl) ?_
            intro r2 hr2 ok
            refine S_nil ?_
            refine A_seq [7, 8, 10, 17, 18, 19, 20] [_, _, _, _, _, _, _] 0 #[true, true, true, true, true, true, true, true, true, true, true, true, true, true, true, true, true, true, true, true, true] rfl rfl (by kernel_rfl) (by kernel_rfl) ?_
            refine S_ldO (c := cM) (j := 1) (v := .sl 1 (List.map c_cplx s.Spots) 0) ok rfl zg rfl rfl cM_len hx rfl rfl (p_one (v := .sl 1 (List.map c_cplx s.Spots) 0) ty_ag_54 ty_sz_54 rfl) ?_
            refine S_app (β := Unit) (G := fun _ => True) (f := fun _ => some ()) (c := c_cplx) (L := []) (M := s.Spots) (j := 0) ok rfl rfl rfl rfl hr2 ty_el_54 ty_ni_54 (op1 h1) ?_
            intro r3 hr3 ok _
            refine S_app3 (β := Unit) (G := fun _ => True) (f := fun _ => some ()) (c := c_cplx) (L := s.Spots) (M := [sv]) (j := 0) ok rfl rfl rfl rfl hr3 ty_el_54 ty_ni_54 (op1 h2) (by simp) ?_
            intro ok _
            refine S_cutX (c := c_cplx) (L := s.Spots) (M := [sv]) rfl ty_sl_54 ty_sz_45 rfl ?_
            refine S_ixO (f := fun _ => some ()) (G := fun _ => True) zg rfl rfl ty_sl_23 ty_sz_56 (op1 hx) (fun _ _ _ => ?_)
            refine S_faP rfl ty_fd_56_0 ty_sz_54 ?_
            refine S_stO (c := cM) (j := 1) (v := .slx 1 (List.map c_cplx s.Spots) (List.map c_cplx [sv])) (b := (s, true)) ok zg rfl rfl rfl cM_len hx rfl rfl ty_sz_54 rfl rfl (fun zg ok => ?_)
            refine S_nil ?_
            refine A_end (by kernel_rfl) ?_
            have hwo : WO [(0, .room), mo g cM (e.set i.toNat (s, true))] [mo g cM (e.set i.toNat (s, true))] := (.drop (.keep .nil))
            exact ⟨e.set i.toNat (s, true), hF, g, zg, (hwo.spec ok).1, WS.mk' (.cons (.eq (mslO_len (by simp))) (.cons (.refl _) (.cons (.refl _) (.cons (.refl _) (.cons (.refl _) .nil))))) ok hwo⟩
           ·
            refine S_ldO (c := cM) (j := 0) (v := .sl 1 (List.map c_cplx s.Spots) 0) ok rfl zg rfl rfl cM_len hx rfl rfl (p_one (v := .sl 1 (List.map c_cplx s.Spots) 0) ty_ag_54 ty_sz_54 rfl) ?_
            refine S_nil ?_
            refine A_seq [2, 8, 10, 17, 18, 19, 20] [_, _, _, _, _, _, _] 0 #[true, true, true, true, true, true, true, true, true, true, true, true, true, true, true, true, true, true, true, true, true] rfl rfl (by kernel_rfl) (by kernel_rfl) ?_
            refine S_lit2 (cs := []) (es := (List.map c_cplx ([] : List (Nat × Nat)))) ok rfl ty_el_54 rfl (by kernel_rfl) (by kernel_rfl) ?_
            intro r2 hr2 ok
            refine S_app (β := Unit) (G := fun _ => True) (f := fun _ => some ()) (c := c_cplx) (L := []) (M := s.Spots) (j := 0) ok rfl rfl rfl rfl hr2 ty_el_54 ty_ni_54 (op1 h1) ?_
            intro r3 hr3 ok _
            refine S_app3 (β := Unit) (G := fun _ => True) (f := fun _ => some ()) (c := c_cplx) (L := s.Spots) (M := [sv]) (j := 0) ok rfl rfl rfl rfl hr3 ty_el_54 ty_ni_54 (op1 h2) (by simp) ?_
            intro ok _
            refine S_cutX (c := c_cplx) (L := s.Spots) (M := [sv]) rfl ty_sl_54 ty_sz_45 rfl ?_
            refine S_ixO (f := fun _ => some ()) (G := fun _ => True) zg rfl rfl ty_sl_23 ty_sz_56 (op1 hx) (fun _ _ _ => ?_)
            refine S_faP rfl ty_fd_56_0 ty_sz_54 ?_
            refine S_stO (c := cM) (j := 1) (v := .slx 1 (List.map c_cplx s.Spots) (List.map c_cplx [sv])) (b := (s, true)) ok zg rfl rfl rfl cM_len hx rfl rfl ty_sz_54 rfl rfl (fun zg ok => ?_)
            refine S_nil ?_
            refine A_end (by kernel_rfl) ?_
            have hwo : WO [(0, .room), mo g cM (e.set i.toNat (s, true))] [mo g cM (e.set i.toNat (s, true))] := (.drop (.keep .nil))
            exact ⟨e.set i.toNat (s, true), hF, g, zg, (hwo.spec ok).1, WS.mk' (.cons (.eq (mslO_len (by simp))) (.cons (.refl _) (.cons (.refl _) (.cons (.refl _) (.cons (.refl _) .nil))))) ok hwo⟩
        ·
          rintro e2 s' hF ⟨g, zg, ok, hws⟩
          refine WP_ws hws ?_
          clear hws s'
          refine C_reg (mdl []) ?_
          refine S_bin rfl rfl (ev_add ..) ?_
          refine S_m (v := .int _ _) rfl ?_
          refine S_nil ?_
          refine ih (e2, (IntKind.wrap .i64 (i + (1 : Int)))) _ hF ?_
          have hwo : WO [mo g cM e2] [mo g cM e2] := (.keep .nil)
          exact ⟨g, zg, (hwo.spec ok).1, WS.mk' (.cons (.refl _) (.cons (.refl _) (.cons (.refl _) (.cons (.refl _) (.cons (.refl _) .nil))))) ok hwo⟩
      ·
        refine WP_exit ?_
        simp only [Exit.sel, Exit.blk, Exit.jmp, if_true, if_false, reduceIte, Nat.reduceEqDiff, Nat.succ_ne_zero, Nat.zero_ne_one, Nat.one_ne_zero]
        replace hF := hG1 _ (F_some hF)
        have hwo : WO [mo g cM e] [mo g cM e] := (.keep .nil)
        exact ⟨e, hF, g, zg, (hwo.spec ok).1, WS.mk' (.cons (.refl _) (.cons (.refl _) (.cons (.refl _) .nil))) ok hwo⟩
  rintro e s' hF ⟨g, zg, ok, hws⟩
  refine WP_ws hws ?_
  clear hws s'
  obtain ⟨L, hL, hF⟩ := F_bind hF
  obtain ⟨hmo, hlen⟩ := mo_true g hL
  rw [hmo] at ok ⊢
  rw [mslO_lenG (q := 2) (id := g) (e := e) (e2 := L) hlen]
  have zg : g = 0 → L = [] := fun h0 => List.eq_nil_of_length_eq_zero (by rw [hlen, zg h0]; rfl)
  refine C_seq ?_
  refine C_reg (mdl []) ?_
  refine S_frzO 0 3 ok zg rfl rfl cT_len (fun ok => ?_)
  refine S_m (v := .sl _ _ _) rfl ?_
  refine S_call (turn_own _ _ _ h _ ok hF (fun y gr X hX1 zgr zx ok hF => ?_)) (.cons (wd_T L) (.cons (.refl _) (.cons (.refl _) .nil)))
  obtain ⟨y1, y2⟩ := y
  dsimp only at hX1 hF ⊢
  have ok : OK h (mo gr cX X :: (hX X ++ [(0, .room)])) := ok
  refine S_m (v := .tup _) rfl ?_
  refine S_ext rfl rfl ?_
  refine S_ext rfl rfl ?_
  refine S_a (v := mslO _ _ _) rfl ?_
  refine S_a (v := .int _ _) rfl ?_
  refine S_nil ?_
  refine C_seq ?_
  refine C_seq ?_
  refine C_reg (mdl []) ?_
  refine S_m (v := .bool _) rfl ?_
  refine S_m (v := .int _ _) rfl ?_
  refine S_bin rfl rfl (ev_eql ..) ?_
  refine S_bin rfl rfl (e_bne ty_bo_4) ?_
  refine S_nil ?_
  refine C_if (b := (!(xo == (y2 == (0 : Int))))) rfl hF (fun hb3 hF => ?_) (fun hb3 hF => ?_)
  ·
    refine C_seq ?_
    refine C_reg (mdl []) ?_
    refine S_a (v := .bool _) rfl ?_
    refine S_nil ?_
    refine WP_ret ?_
    repeat (first | with_reducible refine Exit.sel_ret ?_ | with_reducible refine Exit.blk_ret ?_ | with_reducible refine Exit.jmp_ret ?_)
    refine C_ret (fn := Tryd.f10) rfl (.tmp (v := .bool false) rfl .nil) ?_
    exact ⟨_, _, (.refl _), WH.refl _, _, F_some hF, rfl⟩
  refine WP_skip ?_
  refine C_seq ?_
  refine C_seq ?_
  refine C_reg (mdl []) ?_
  refine S_m (v := .bool _) rfl ?_
  refine S_un rfl (ev_not _) ?_
  refine S_nil ?_
  refine C_if (b := (!xo)) rfl hF (fun hb4 hF => ?_) (fun hb4 hF => ?_)
  ·
    refine C_seq ?_
    refine C_reg (mdl []) ?_
    refine S_a (v := .bool _) rfl ?_
    refine S_nil ?_
    refine WP_ret ?_
    repeat (first | with_reducible refine Exit.sel_ret ?_ | with_reducible refine Exit.blk_ret ?_ | with_reducible refine Exit.jmp_ret ?_)
    refine C_ret (fn := Tryd.f10) rfl (.tmp (v := .bool true) rfl .nil) ?_
    exact ⟨_, _, (.refl _), WH.refl _, _, F_some hF, rfl⟩
  refine WP_skip ?_
  refine C_seq ?_
  refine C_reg (mdl []) ?_
  refine S_m (v := .sl _ _ _) rfl ?_
  refine S_call (F_trace_Show_ok _ hF fun _ _ hF => ?_) (.cons (wd_T L) .nil)
  refine S_nil ?_
  refine C_seq ?_
  refine C_reg (mdl []) ?_
  refine S_m (v := .sl _ _ _) rfl ?_
  refine S_call (F_trace_Box_ok _ hF fun _ _ hF => ?_) (.cons (wd_T L) .nil)
  refine S_nil ?_
  refine C_seq ?_
  refine C_reg (mdl []) ?_
  refine S_m (v := .sl _ _ _) rfl ?_
  refine S_call (F_trace_Area_ok _ hF fun _ _ hF => ?_) (.cons (wd_T L) .nil)
  refine S_nil ?_
  refine C_join hF (fun (_ : Unit) s' => OK h [] ∧ WS s' ⟨mkSl 128 [(3, .sl 2 (List.map cT L) 0), (4, .sl 2 (List.map c_T_lecternref10_Stroke xg) 0)], Hp h []⟩) (fun J2 hF => ?_) ?_
  ·
    refine C_seq ?_
    refine C_reg (mdl []) ?_
    refine S_m (v := mslO _ _ _) rfl ?_
    refine S_lenO zgr rfl ty_sl_23 ?_
    refine S_m (v := .int _ _) rfl ?_
    refine S_nil ?_
    refine WP_block ?_
    have hXl : X.length = y1.length := by rw [← hX1]; simp
    refine C_loop (σ := List T_trace_Stroke × Int) hF (fun (v : List T_trace_Stroke × Int) s' => match v with | (Y, i) => ∃ (g : Nat) (X : List (T_trace_Stroke × Nat)), X.map Prod.fst = Y ∧ zX X ∧ (g = 0 → X = []) ∧ OK h (mo g cX X :: (hX X ++ [(0, .room)])) ∧ WS s' ⟨mkSl 128 [(3, .sl 2 (List.map cT L) 0), (4, .sl 2 (List.map c_T_lecternref10_Stroke xg) 0), (7, mslO 2 g X), (64, .int .i64 (y1.length : Int)), (65, .int .i64 i)], Hp h (mo g cX X :: (hX X ++ [(0, .room)]))⟩) ?_ ?_
    ·
      exact ⟨gr, X, hX1, zx, zgr, ok, WS.mk' (.cons (.refl _) (.cons (.refl _) (.cons (.refl _) (.cons (.eq (congrArg (fun n : Nat => D.int .i64 (n : Int)) hXl)) (.cons (.refl _) .nil))))) ok (WO.refl _)⟩
    ·
      rintro G1 hG1 rec ⟨Y, i⟩ s' ih hF ⟨g, X, hX1, zx, zg, ok, hws⟩
      refine WP_ws hws ?_
      clear hws s'
      rw [K_l2] at hF
      refine C_seq ?_
      refine C_reg (mdl []) ?_
      refine S_bin rfl rfl (ev_lss ..) ?_
      refine S_nil ?_
      refine C_seq ?_
      refine C_if (b := (decide (i < (y1.length : Int)))) rfl hF (fun hb hF => ?_) (fun hb hF => ?_)
      ·
        refine WP_skip ?_
        refine C_join hF (fun (Y : List T_trace_Stroke) s' => ∃ (g : Nat) (X : List (T_trace_Stroke × Nat)), X.map Prod.fst = Y ∧ zX X ∧ (g = 0 → X = []) ∧ OK h (mo g cX X :: (hX X ++ [(0, .room)])) ∧ WS s' ⟨mkSl 128 [(3, .sl 2 (List.map cT L) 0), (4, .sl 2 (List.map c_T_lecternref10_Stroke xg) 0), (7, mslO 2 g X), (64, .int .i64 (y1.length : Int)), (65, .int .i64 i)], Hp h (mo g cX X :: (hX X ++ [(0, .room)]))⟩) (fun J hF => ?_) ?_
        ·
          refine WP_block ?_
          refine C_seq ?_
          refine C_reg (mdl []) ?_
          refine S_m (v := .int _ _) rfl ?_
          refine S_a (v := .int _ _) rfl ?_
          refine S_nil ?_
          refine C_join hF (fun (Y : List T_trace_Stroke) s' => ∃ X : List (T_trace_Stroke × Nat), X.map Prod.fst = Y ∧ zX X ∧ (g = 0 → X = []) ∧ OK h (mo g cX X :: (hX X ++ [(0, .room)])) ∧ WS s' ⟨mkSl 128 [(3, .sl 2 (List.map cT L) 0), (4, .sl 2 (List.map c_T_lecternref10_Stroke xg) 0), (7, mslO 2 g X), (9, .int .i64 i), (64, .int .i64 (y1.length : Int)), (65, .int .i64 i)], Hp h (mo g cX X :: (hX X ++ [(0, .room)]))⟩) (fun J' hF => ?_) ?_
          ·
            obtain ⟨x, hx, hF⟩ := F_bind hF
            obtain ⟨t, hxt⟩ := fst_get hX1 hx
            have zt : t = 0 → x.Spots = [] := zx (x, t) (List.mem_of_getElem? (idx_get hxt).2.1)
            refine C_seq ?_
            refine C_reg (mdl []) ?_
            refine S_m (v := mslO _ _ _) rfl ?_
            refine S_m (v := .int _ _) rfl ?_
            refine S_ixO (f := fun _ => some ()) (G := fun _ => True) zg rfl rfl ty_sl_23 ty_sz_56 (op1 hxt) (fun _ _ _ => ?_)
            refine S_faP rfl ty_fd_56_0 ty_sz_54 ?_
            refine S_ldO (c := cX) (j := 0) (v := mslO 1 t x.Spots) ok rfl zg rfl rfl (fun _ => rfl) hxt rfl rfl (p_one (v := mslO 1 t x.Spots) ty_ag_54 ty_sz_54 rfl) ?_
            refine S_lenO zt rfl ty_sl_54 ?_
            refine S_m (v := .int _ _) rfl ?_
            refine S_nil ?_
            refine WP_block ?_
            refine C_loop (σ := List T_trace_Stroke × Int) hF (fun (v : List T_trace_Stroke × Int) s' => match v with | (Y, k) => ∃ X : List (T_trace_Stroke × Nat), X.map Prod.fst = Y ∧ zX X ∧ (g = 0 → X = []) ∧ OK h (mo g cX X :: (hX X ++ [(0, .room)])) ∧ WS s' ⟨mkSl 128 [(3, .sl 2 (List.map cT L) 0), (4, .sl 2 (List.map c_T_lecternref10_Stroke xg) 0), (7, mslO 2 g X), (9, .int .i64 i), (64, .int .i64 (y1.length : Int)), (65, .int .i64 i), (73, .int .i64 (x.Spots.length : Int)), (74, .int .i64 k)], Hp h (mo g cX X :: (hX X ++ [(0, .room)]))⟩) ?_ ?_
            ·
              exact ⟨X, hX1, zx, zg, ok, WS.mk' (.cons (.refl _) (.cons (.refl _) (.cons (.refl _) (.cons (.refl _) (.cons (.refl _) (.cons (.refl _) (.cons (.refl _) (.cons (.refl _) .nil)))))))) ok (WO.refl _)⟩
            ·
              rintro G3 hG3 rec3 ⟨Y, k⟩ s' ih3 hF ⟨X, hX1, zx, zg, ok, hws⟩
              refine WP_ws hws ?_
              clear hws s'
              rw [K_l3] at hF
              refine C_seq ?_
              refine C_reg (mdl []) ?_
              refine S_bin rfl rfl (ev_lss ..) ?_
              refine S_nil ?_
              refine C_seq ?_
              refine C_if (b := (decide (k < (x.Spots.length : Int)))) rfl hF (fun hb5 hF => ?_) (fun hb5 hF => ?_)
              ·
                refine WP_skip ?_
                refine C_join hF (fun (Y : List T_trace_Stroke) s' => ∃ X : List (T_trace_Stroke × Nat), X.map Prod.fst = Y ∧ zX X ∧ (g = 0 → X = []) ∧ OK h (mo g cX X :: (hX X ++ [(0, .room)])) ∧ WS s' ⟨mkSl 128 [(3, .sl 2 (List.map cT L) 0), (4, .sl 2 (List.map c_T_lecternref10_Stroke xg) 0), (7, mslO 2 g X), (9, .int .i64 i), (64, .int .i64 (y1.length : Int)), (65, .int .i64 i), (73, .int .i64 (x.Spots.length : Int)), (74, .int .i64 k)], Hp h (mo g cX X :: (hX X ++ [(0, .room)]))⟩) (fun J3 hF => ?_) ?_
                ·
                  obtain ⟨x2, hx, hF⟩ := F_bind hF
                  obtain ⟨t, hxt⟩ := fst_get hX1 hx
                  have zt : t = 0 → x2.Spots = [] := zx (x2, t) (List.mem_of_getElem? (idx_get hxt).2.1)
                  obtain ⟨J, hj, hset⟩ := obj_at (idx_get hxt).2.1 (mo g cX X) [(0, .room)]
                  dsimp only at hj
                  refine WP_block ?_
                  refine C_seq ?_
                  refine C_reg (mdl []) ?_
                  refine S_m (v := .int _ _) rfl ?_
                  refine S_a (v := .int _ _) rfl ?_
                  refine S_nil ?_
                  refine C_reg (mdl []) ?_
                  refine S_m (v := mslO _ _ _) rfl ?_
                  refine S_m (v := .int _ _) rfl ?_
                  refine S_ixO (f := fun _ => some ()) (G := fun _ => True) zg rfl rfl ty_sl_23 ty_sz_56 (op1 hxt) (fun _ _ _ => ?_)
                  refine S_faP rfl ty_fd_56_0 ty_sz_54 ?_
                  refine S_ldO (c := cX) (j := 0) (v := mslO 1 t x2.Spots) ok rfl zg rfl rfl (fun _ => rfl) hxt rfl rfl (p_one (v := mslO 1 t x2.Spots) ty_ag_54 ty_sz_54 rfl) ?_
                  refine S_m (v := .int _ _) rfl ?_
                  refine S_ixO zt rfl rfl ty_sl_54 ty_sz_45 hF (fun z hz hF => ?_)
                  refine S_stO (c := c_cplx) (f0 := 0) (j := J + 1) (v := .cplx .f64 4617315517961601024 0) (b := five) ok zt rfl rfl hj (fun _ => rfl) hz rfl rfl ty_sz_45 rfl rfl (fun zt2 ok => ?_)
                  have hs := hset (⟨x2.Spots.set k.toNat five, x2.Closed⟩, t)
                  dsimp only at hs
                  rw [hs, ← mo_cX (p' := (⟨x2.Spots.set k.toNat five, x2.Closed⟩, t)) (idx_get hxt).2.1 (by simp) rfl rfl] at ok
                  rw [hs, ← mo_cX (p' := (⟨x2.Spots.set k.toNat five, x2.Closed⟩, t)) (idx_get hxt).2.1 (by simp) rfl rfl]
                  refine S_nil ?_
                  exact ⟨_, hF, X.set i.toNat (⟨x2.Spots.set k.toNat five, x2.Closed⟩, t), fst_set hX1 _ _, zX_set zx zt2, fun h0 => by rw [zg h0]; rfl, ok, WS.mk' (.cons (.refl _) (.cons (.refl _) (.cons (.eq (mslO_len (by simp))) (.cons (.refl _) (.cons (.refl _) (.cons (.refl _) (.cons (.refl _) (.cons (.refl _) .nil)))))))) ok (WO.refl _)⟩
                ·
                  rintro Y2 s' hF ⟨X, hX1, zx, zg, ok, hws⟩
                  refine WP_ws hws ?_
                  clear hws s'
                  refine C_reg (mdl []) ?_
                  refine S_bin rfl rfl (ev_add ..) ?_
                  refine S_m (v := .int _ _) rfl ?_
                  refine S_nil ?_
                  refine ih3 (Y2, (IntKind.wrap .i64 (k + (1 : Int)))) _ hF ?_
                  exact ⟨X, hX1, zx, zg, ok, WS.mk' (.cons (.refl _) (.cons (.refl _) (.cons (.refl _) (.cons (.refl _) (.cons (.refl _) (.cons (.refl _) (.cons (.refl _) (.cons (.refl _) .nil)))))))) ok (WO.refl _)⟩
              ·
                refine WP_exit ?_
                simp only [Exit.sel, Exit.blk, Exit.jmp, if_true, if_false, reduceIte, Nat.reduceEqDiff, Nat.succ_ne_zero, Nat.zero_ne_one, Nat.one_ne_zero]
                replace hF := hG3 _ (F_some hF)
                exact ⟨Y, hF, X, hX1, zx, zg, ok, WS.mk' (.cons (.refl _) (.cons (.refl _) (.cons (.refl _) (.cons (.refl _) (.cons (.refl _) (.cons (.refl _) .nil)))))) ok (WO.refl _)⟩
          ·
            rintro Y2 s' hF ⟨X, hX1, zx, zg, ok, hws⟩
            refine WP_ws hws ?_
            clear hws s'
            obtain ⟨x2, hx, hF⟩ := F_bind hF
            obtain ⟨t, hxt⟩ := fst_get hX1 hx
            have zt : t = 0 → x2.Spots = [] := zx (x2, t) (List.mem_of_getElem? (idx_get hxt).2.1)
            obtain ⟨J, hj, hset⟩ := obj_at (idx_get hxt).2.1 (mo g cX X) [(0, .room)]
            dsimp only at hj
            refine C_reg (mdl [(93, 1)]) ?_
            refine S_m (v := mslO _ _ _) rfl ?_
            refine S_m (v := .int _ _) rfl ?_
            refine S_m (v := mslO _ _ _) rfl ?_
            refine S_m (v := .int _ _) rfl ?_
            refine S_ixO (f := fun _ => some ()) (G := fun _ => True) zg rfl rfl ty_sl_23 ty_sz_56 (op1 hxt) (fun _ _ _ => ?_)
            refine S_faP rfl ty_fd_56_0 ty_sz_54 ?_
            refine S_ldO (c := cX) (j := 0) (v := mslO 1 t x2.Spots) ok rfl zg rfl rfl (fun _ => rfl) hxt rfl rfl (p_one (v := mslO 1 t x2.Spots) ty_ag_54 ty_sz_54 rfl) ?_
            refine S_lit0 (cs := [.cplx .f64 4613937818241073152 0]) (es := (List.map c_cplx [three])) rfl ty_el_54 rfl (by kernel_rfl) (by kernel_rfl) ?_
            refine S_appO (j := J + 1) (M := [three]) ok zt rfl rfl src_sl (fun _ => rfl) hj ty_el_54 ty_ni_54 hF ?_
            intro u zu ok hF
            have hs := hset (⟨x2.Spots ++ [three], false⟩, u)
            dsimp only at hs
            rw [hs] at ok ⊢
            refine S_bld (v := .agg [mslO 1 u (x2.Spots ++ [three]), .bool false]) (b_st ty_zc_56 ty_pl_56 (by show fillD (fun i => [(0, 1), (1, 1)][i]?) [D.snil, D.bool false] [(0, mslO 1 u (x2.Spots ++ [three]))] = _; simp [fillD, mslO_lay, mslO_cells, putAt])) ?_
            refine S_ixO (f := fun _ => some ()) (G := fun _ => True) zg rfl rfl ty_sl_23 ty_sz_56 (op1 hxt) (fun _ _ _ => ?_)
            refine S_stO (q := 2) (c := cX) (f0 := 0) (j := 0) (v := .agg [mslO 1 u (x2.Spots ++ [three]), .bool false]) (b := (⟨x2.Spots ++ [three], false⟩, u)) ok zg rfl rfl rfl (fun _ => rfl) hxt rfl rfl ty_sz_56 rfl rfl (fun zg2 ok => ?_)
            refine S_nil ?_
            have ok : OK h (mo g cX (X.set i.toNat (⟨x2.Spots ++ [three], false⟩, u)) :: (hX (X.set i.toNat (⟨x2.Spots ++ [three], false⟩, u)) ++ [(0, .room)])) := ok
            exact ⟨_, hF, g, X.set i.toNat (⟨x2.Spots ++ [three], false⟩, u), fst_set hX1 _ _, zX_set zx zu, zg2, ok, WS.mk' (.cons (.refl _) (.cons (.refl _) (.cons (.eq (mslO_len (by simp))) (.cons (.refl _) (.cons (.refl _) .nil))))) ok (WO.refl _)⟩
        ·
          rintro Y2 s' hF ⟨g, X, hX1, zx, zg, ok, hws⟩
          refine WP_ws hws ?_
          clear hws s'
          refine C_reg (mdl []) ?_
          refine S_bin rfl rfl (ev_add ..) ?_
          refine S_m (v := .int _ _) rfl ?_
          refine S_nil ?_
          refine ih (Y2, (IntKind.wrap .i64 (i + (1 : Int)))) _ hF ?_
          exact ⟨g, X, hX1, zx, zg, ok, WS.mk' (.cons (.refl _) (.cons (.refl _) (.cons (.refl _) (.cons (.refl _) (.cons (.refl _) .nil))))) ok (WO.refl _)⟩
      ·
        refine WP_exit ?_
        simp only [Exit.sel, Exit.blk, Exit.jmp, if_true, if_false, reduceIte, Nat.reduceEqDiff, Nat.succ_ne_zero, Nat.zero_ne_one, Nat.one_ne_zero]
        replace hF := hG1 _ (F_some hF)
        have hwo : WO (mo g cX X :: (hX X ++ [(0, .room)])) [] := WO_none _
        exact ⟨(), hF, (hwo.spec ok).1, WS.mk' (.cons (.refl _) (.cons (.refl _) .nil)) ok hwo⟩
  rintro _ s' hF ⟨ok, hws⟩
  refine WP_ws hws ?_
  clear hws s'
  refine C_join hF (fun (_ : Unit) s' => OK h [] ∧ WS s' ⟨mkSl 128 [(3, .sl 2 (List.map cT L) 0), (4, .sl 2 (List.map c_T_lecternref10_Stroke xg) 0)], Hp h []⟩) (fun J3 hF => ?_) ?_
  ·
    refine C_seq ?_
    refine C_reg (mdl []) ?_
    refine S_m (v := .sl _ _ _) rfl ?_
    refine S_lenL rfl ty_sl_23 ?_
    refine S_m (v := .int _ _) rfl ?_
    refine S_nil ?_
    refine WP_block ?_
    refine C_loop (σ := Int) hF (fun (i : Int) s' => OK h [] ∧ WS s' ⟨mkSl 128 [(3, .sl 2 (List.map cT L) 0), (4, .sl 2 (List.map c_T_lecternref10_Stroke xg) 0), (98, .int .i64 (L.length : Int)), (99, .int .i64 i)], Hp h []⟩) ?_ ?_
    ·
      exact ⟨ok, WS.mk' (.cons (.refl _) (.cons (.refl _) (.cons (.refl _) (.cons (.refl _) .nil)))) ok (WO.refl _)⟩
    ·
      rintro G1 hG1 rec i s' ih hF ⟨ok, hws⟩
      refine WP_ws hws ?_
      clear hws s'
      rw [K_l4] at hF
      refine C_seq ?_
      refine C_reg (mdl []) ?_
      refine S_bin rfl rfl (ev_lss ..) ?_
      refine S_nil ?_
      refine C_seq ?_
      refine C_if (b := (decide (i < (L.length : Int)))) rfl hF (fun hb hF => ?_) (fun hb hF => ?_)
      ·
        refine WP_skip ?_
        refine C_join hF (fun (_ : Unit) s' => OK h [] ∧ WS s' ⟨mkSl 128 [(3, .sl 2 (List.map cT L) 0), (4, .sl 2 (List.map c_T_lecternref10_Stroke xg) 0), (98, .int .i64 (L.length : Int)), (99, .int .i64 i)], Hp h []⟩) (fun J hF => ?_) ?_
        ·
          refine WP_block ?_
          refine C_seq ?_
          refine C_reg (mdl []) ?_
          refine S_m (v := .int _ _) rfl ?_
          refine S_a (v := .int _ _) rfl ?_
          refine S_nil ?_
          refine C_seq ?_
          refine C_drw (mdl [(106, 3), (111, 3), (119, 3), (122, 3)]) (by kernel_rfl) (by kernel_rfl) ?_
          refine S_m (v := .sl _ _ _) rfl ?_
          refine S_m (v := .int _ _) rfl ?_
          refine S_ix rfl rfl ty_sl_23 ty_sz_56 hF (fun x hx hF => ?_)
          refine S_faQ rfl ty_fd_56_0 ty_sz_54 rfl ?_
          refine S_ldQ rfl (p_one (v := .slx 1 (List.map c_cplx x.Spots) (List.map c_cplx [sv])) ty_ag_54 ty_sz_54 rfl) ?_
          refine S_m (v := .sl _ _ _) rfl ?_
          refine S_m (v := .int _ _) rfl ?_
          refine S_ix (f := fun _ => some ()) (G := fun _ => True) rfl rfl ty_sl_23 ty_sz_56 (op1 hx) (fun x3 hx3 _ => ?_)
          obtain rfl : x = x3 := by rw [hx] at hx3; exact Option.some.inj hx3
          refine S_faQ rfl ty_fd_56_0 ty_sz_54 rfl ?_
          refine S_ldQ rfl (p_one (v := .slx 1 (List.map c_cplx x.Spots) (List.map c_cplx [sv])) ty_ag_54 ty_sz_54 rfl) ?_
          refine S_lenX (L := x.Spots) rfl ty_sl_54 ?_
          refine S_bin rfl rfl (ev_add ..) ?_
          refine S_slX (c := c_cplx) (e := x.Spots) (sp := [sv]) rfl ty_sl_54 ty_sz_45 rfl hF (fun b hb6 hF => ?_)
          refine S_m (v := .sl _ _ _) rfl ?_
          refine S_m (v := .int _ _) rfl ?_
          refine S_ix (f := fun _ => some ()) (G := fun _ => True) rfl rfl ty_sl_23 ty_sz_56 (op1 hx) (fun x3 hx3 _ => ?_)
          obtain rfl : x = x3 := by rw [hx] at hx3; exact Option.some.inj hx3
          refine S_faQ rfl ty_fd_56_0 ty_sz_54 rfl ?_
          refine S_ldQ rfl (p_one (v := .slx 1 (List.map c_cplx x.Spots) (List.map c_cplx [sv])) ty_ag_54 ty_sz_54 rfl) ?_
          refine S_lenX (L := x.Spots) rfl ty_sl_54 ?_
          refine S_ixX (c := c_cplx) (L := b) rfl rfl ty_sl_54 ty_sz_45 hF (fun z hz hF => ?_)
          refine S_ldQ rfl (p_one ty_ag_45 ty_sz_45 rfl) ?_
          refine S_bin rfl rfl (e_cne (a := z) (b := sv)) ?_
          refine S_nil ?_
          refine C_if (b := (!ceq z sv)) rfl hF (fun hb7 hF => ?_) (fun hb7 hF => ?_)
          ·
            refine C_seq ?_
            refine C_reg (mdl []) ?_
            refine S_a (v := .bool _) rfl ?_
            refine S_nil ?_
            refine WP_ret ?_
            replace hF := hG1 _ (F_some hF)
            repeat (first | with_reducible refine Exit.sel_ret ?_ | with_reducible refine Exit.blk_ret ?_ | with_reducible refine Exit.jmp_ret ?_)
            refine C_ret (fn := Tryd.f10) rfl (.tmp (v := .bool false) rfl .nil) ?_
            exact ⟨_, _, (.refl _), WH.refl _, _, F_some hF, rfl⟩
          ·
            refine WP_skip ?_
            exact ⟨(), hF, ok, WS.mk' (.cons (.refl _) (.cons (.refl _) (.cons (.refl _) (.cons (.refl _) .nil)))) ok (WO.refl _)⟩
        ·
          rintro _ s' hF ⟨ok, hws⟩
          refine WP_ws hws ?_
          clear hws s'
          refine C_reg (mdl []) ?_
          refine S_bin rfl rfl (ev_add ..) ?_
          refine S_m (v := .int _ _) rfl ?_
          refine S_nil ?_
          refine ih (IntKind.wrap .i64 (i + (1 : Int))) _ hF ?_
          exact ⟨ok, WS.mk' (.cons (.refl _) (.cons (.refl _) (.cons (.refl _) (.cons (.refl _) .nil)))) ok (WO.refl _)⟩
      ·
        refine WP_exit ?_
        simp only [Exit.sel, Exit.blk, Exit.jmp, if_true, if_false, reduceIte, Nat.reduceEqDiff, Nat.succ_ne_zero, Nat.zero_ne_one, Nat.one_ne_zero]
        replace hF := hG1 _ (F_some hF)
        exact ⟨(), hF, ok, WS.mk' (.cons (.refl _) (.cons (.refl _) .nil)) ok (WO.refl _)⟩
  rintro _ s' hF ⟨ok, hws⟩
  refine WP_ws hws ?_
  clear hws s'
  refine C_seq ?_
  refine C_reg (mdl []) ?_
  refine S_m (v := .sl _ _ _) rfl ?_
  refine S_m (v := .sl _ _ _) rfl ?_
  refine S_call (F_lecternlaw10_same_ok _ hF fun z _ hF => ?_) (.cons (wd_T L) (.cons (.refl _) .nil))
  refine S_a (v := .bool _) rfl ?_
  refine S_nil ?_
  refine WP_ret ?_
  repeat (first | with_reducible refine Exit.sel_ret ?_ | with_reducible refine Exit.blk_ret ?_ | with_reducible refine Exit.jmp_ret ?_)
  refine C_ret (fn := Tryd.f10) rfl (.tmp (v := .bool z) rfl .nil) ?_
  exact ⟨_, _, (.refl _), WH.refl _, _, F_some hF, rfl⟩
theorem keeps_calls (p : List T_lecternlaw10_Line) (o : okLines p) (t : szLines p ≤ 1048576) (h : Heap) :
    CallsA Tryd.prog 10 [.sl 2 (List.map c_T_lecternlaw10_Line p) 0] h fun d _ => d = .bool true :=
  (keeps_w p (G := fun b => b = true) h ⟨true, keeps_all p (inOk_of p o t), rfl⟩).mono fun d h' ⟨r, hr, hd⟩ => by subst hr; exact hd
end Go.Proofs.YtocfjohangcajaaDoor
