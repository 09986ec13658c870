/- TrailOrders, TrailUps: the plain laws. No condition. -/
import Derived.Test.YtggnjahdjmncaaaDoorLt
set_option linter.unusedSimpArgs false
set_option linter.unusedVariables false
set_option maxRecDepth 20000
namespace Go.Proofs.YtggnjahdjmncaaaDoor

theorem wneg {x : Int} (h : x = -1 ∨ x = 0 ∨ x = 1) : IntKind.wrap .i64 (0 - x) = -x := by
  rw [w64 (by omega) (by omega)]; omega
theorem trailOrders (p q r : T_trail_Trail) (hp : p.Steps.length ≤ 9223372036854775807) (hq : q.Steps.length ≤ 9223372036854775807) (hr : r.Steps.length ≤ 9223372036854775807) : F_lecternlaw08_TrailOrders p q r = some true := by
  unfold F_lecternlaw08_TrailOrders
  have c := trailC_cmp
  simp only [awake_t, Option.bind_some, Bool.not_true, cond_false, F_cmpT p q hp hq, F_cmpT q r hq hr, F_cmpT p r hp hr, F_cmpT q p hq hp, F_under p q hp hq, F_under q p hq hp, F_under p r hp hr, letJ]
  rw [wneg (c.rng q p)]
  have e0 : (trailC p q != -trailC q p) = false := by simp [c.anti q p]
  have e1 : ((decide (trailC p q ≤ (0 : Int)) && decide (trailC q r ≤ (0 : Int))) && decide ((0 : Int) < trailC p r)) = false := by
    have := c.trans p q r
    rw [Bool.eq_false_iff]; simp only [ne_eq, Bool.and_eq_true, decide_eq_true_eq, not_and]; omega
  have e2 : ((decide ((0 : Int) ≤ trailC p q) && decide ((0 : Int) ≤ trailC q r)) && decide (trailC p r < (0 : Int))) = false := by
    have := c.trans r q p
    have a1 := c.anti p q; have a2 := c.anti q r; have a3 := c.anti p r
    rw [Bool.eq_false_iff]; simp only [ne_eq, Bool.and_eq_true, decide_eq_true_eq, not_and]; omega
  have e3 : ((trailC p q == (0 : Int)) && (trailC q r != trailC p r)) = false := by
    have := fun e => c.eqL (a := p) (b := q) r e
    by_cases e : trailC p q = 0
    · simp [this e]
    · simp [e]
  rw [e0, e1, e2, e3]
  simp only [Bool.or_false, cond_false]
  cases u : underP p q
  · simp
  · have le := under_le u
    have d0 : decide ((0 : Int) < trailC p q) = false := decide_eq_false (by omega)
    simp only [d0, Bool.and_false, cond_false, cond_true, Bool.true_and]
    have fin : (!((!underP p r && true) && decide ((0 : Int) ≤ trailC q r))) = true ∨ True := .inr trivial
    have tailp : (cond (decide (trailC p r < (0 : Int))) (some (!(!underP p r && decide ((0 : Int) ≤ trailC q r)))) (some (!(false && decide ((0 : Int) ≤ trailC q r))))) = some true := by
      by_cases h : trailC p r < 0
      · rw [decide_eq_true h, cond_true]
        cases u2 : underP p r
        · have := under_lt u h u2
          rw [decide_eq_false (by omega)]; rfl
        · rfl
      · rw [decide_eq_false h]; rfl
    cases u3 : underP q p
    · simp only [Bool.false_and, cond_false]; exact tailp
    · have := under_anti u u3
      simp only [this, bne_self_eq_false, Bool.and_false, cond_false]; exact tailp

theorem pre_one : ∀ {l m : List Int}, l <+: m → l.length < m.length → cmpL l m = -1
  | [], [], _, h => by simp at h
  | [], _ :: _, _, _ => by simp [cmpL]
  | a :: l, [], h, _ => by simp at h
  | a :: l, b :: m, h, hl => by
    obtain ⟨rfl, h'⟩ := List.cons_prefix_cons.1 h
    simp only [cmpL, cmpI_self]
    simpa using pre_one h' (by simpa using hl)
def emptyN : T_api_Name := ⟨[], []⟩
/-- The trail above. -/
def upP (p : T_trail_Trail) : T_trail_Trail := if p.Attr then ⟨p.Steps, false, emptyN⟩ else ⟨p.Steps.dropLast, false, emptyN⟩
def wt (p : T_trail_Trail) : Nat := p.Steps.length + (if p.Attr then 1 else 0)
theorem F_up (p : T_trail_Trail) (hp : p.Steps.length ≤ 200) : F_trail_Up p = some (upP p, decide (0 < wt p)) := by
  unfold F_trail_Up upP wt
  cases hA : p.Attr
  · simp only [cond_false, Bool.false_eq_true, if_false]
    by_cases h : 0 < p.Steps.length
    · rw [decide_eq_true (by omega), cond_true, w64 (by omega) (by omega)]
      have : (p.Steps.length : Int) - 1 = ((p.Steps.length - 1 : Nat) : Int) := by omega
      rw [this, slc_take (by omega), Option.bind_some]
      have hc : L_CloneInts (p.Steps.take (p.Steps.length - 1)) = some (p.Steps.take (p.Steps.length - 1)) := by
        unfold L_CloneInts; rw [if_pos (by simp; omega)]
      rw [hc, Option.bind_some, List.dropLast_eq_take]
      simp [h, emptyN]
    · have : p.Steps = [] := List.eq_nil_of_length_eq_zero (by omega)
      simp [this, emptyN]
  · have hc : L_CloneInts p.Steps = some p.Steps := by unfold L_CloneInts; rw [if_pos (by omega)]
    simp [hc, emptyN]
theorem under_refl (p : T_trail_Trail) : underP p p = true := by
  unfold underP
  split
  · simp [trailC_cmp.refl]
  · exact List.isPrefixOf_iff_prefix.2 (List.prefix_refl _)
/-- A trail on the way up from p. -/
def onWay (p c : T_trail_Trail) : Prop := c = p ∨ (c.Attr = false ∧ c.Steps <+: p.Steps)
theorem onWay.under {p c : T_trail_Trail} (h : onWay p c) : underP c p = true := by
  rcases h with rfl | ⟨h1, h2⟩
  · exact under_refl _
  · unfold underP; rw [h1]; exact List.isPrefixOf_iff_prefix.2 h2
theorem onWay.trans {p c q : T_trail_Trail} (h : onWay p c) (hu : underP q c = true) : underP q p = true := by
  rcases h with rfl | ⟨h1, h2⟩
  · exact hu
  · unfold underP at hu ⊢
    split at hu
    · rename_i hA
      exfalso
      have e : trailC q c = 0 := by simpa using hu
      unfold trailC at e
      split at e
      · rename_i h3; exact h3 e
      · simp [tailC, hA, h1] at e
    · rename_i hA
      rw [if_neg hA]
      exact List.isPrefixOf_iff_prefix.2 ((List.isPrefixOf_iff_prefix.1 hu).trans h2)
theorem onWay.up {p c : T_trail_Trail} (h : onWay p c) : onWay p (upP c) := by
  have hpre : c.Steps <+: p.Steps := by
    rcases h with rfl | ⟨_, h2⟩
    · exact List.prefix_refl _
    · exact h2
  unfold upP
  split
  · exact .inr ⟨rfl, hpre⟩
  · exact .inr ⟨rfl, (List.dropLast_prefix _).trans hpre⟩
theorem up_under (c : T_trail_Trail) : underP (upP c) c = true := by
  unfold upP
  split
  · exact List.isPrefixOf_iff_prefix.2 (List.prefix_refl _)
  · exact List.isPrefixOf_iff_prefix.2 (List.dropLast_prefix _)
theorem up_cmp {c : T_trail_Trail} (h : 0 < wt c) : trailC (upP c) c = -1 := by
  unfold upP wt at *
  split
  · rename_i hA
    have : cmpL c.Steps c.Steps = 0 := cmpL_cmp.refl _
    simp [trailC, this, tailC, hA]
  · rename_i hA
    rw [if_neg hA] at h
    have : cmpL c.Steps.dropLast c.Steps = -1 := pre_one (List.dropLast_prefix _) (by rw [List.length_dropLast]; omega)
    simp [trailC, this]
theorem up_wt {c : T_trail_Trail} (h : 0 < wt c) : wt (upP c) + 1 = wt c := by
  unfold upP wt at *
  split
  · rename_i hA; simp [hA]
  · rename_i hA
    rw [if_neg hA] at h
    simp [hA]; omega
theorem up_attr (c : T_trail_Trail) : (upP c).Attr = false := by unfold upP; split <;> rfl
theorem up_len (c : T_trail_Trail) : (upP c).Steps.length ≤ c.Steps.length := by unfold upP; split <;> simp

theorem trailUps (p q : T_trail_Trail) (hp : p.Steps.length ≤ 9223372036854775807) (hq : q.Steps.length ≤ 9223372036854775807) : F_lecternlaw08_TrailUps p q = some true := by
  unfold F_lecternlaw08_TrailUps
  simp only [awake_t, Option.bind_some, Bool.not_true, cond_false]
  by_cases h200 : (200 : Int) < p.Steps.length
  · rw [decide_eq_true h200, cond_true]
  rw [decide_eq_false h200, cond_false]
  simp only [letJ]
  obtain ⟨o, h1, h2⟩ := iter_spec (b := F_lecternlaw08_TrailUps_l0 p q)
    (fun i x => x.1 = (i : Int) ∧ ((x.2.2.2.2.2 = true ∧ wt ⟨x.2.1, x.2.2.1, ⟨x.2.2.2.1, x.2.2.2.2.1⟩⟩ + i = wt p ∧ onWay p ⟨x.2.1, x.2.2.1, ⟨x.2.2.2.1, x.2.2.2.2.1⟩⟩ ∧ x.2.1.length ≤ 200) ∨ (x.2.2.2.2.2 = false ∧ i = wt p + 1)))
    (fun o => o = .inl ((wt p : Int) + 1)) (wt p + 1) (x0 := ((0 : Int), p.Steps, p.Attr, p.Name.URI, p.Name.Local, true)) ⟨rfl, .inl ⟨rfl, by cases p; rfl, .inl (by cases p; rfl), by simp only; omega⟩⟩
    (fun i x rec hi ⟨hx, hI⟩ => by
      obtain ⟨n, S, A, U, L, k⟩ := x
      simp only at hx hI
      subst hx
      rcases hI with ⟨rfl, hw, hon, hlen⟩ | ⟨_, h⟩
      rotate_left
      · omega
      generalize hc : (⟨S, A, ⟨U, L⟩⟩ : T_trail_Trail) = c at hw hon
      have hcS : c.Steps.length ≤ 200 := by rw [← hc]; exact hlen
      have hwp : wt p ≤ 201 := by unfold wt; split <;> omega
      have hb : F_lecternlaw08_TrailUps_l0 p q rec ((i : Int), S, A, U, L, true) = rec (((i + 1 : Nat) : Int), (upP c).Steps, (upP c).Attr, (upP c).Name.URI, (upP c).Name.Local, decide (0 < wt c)) := by
        unfold F_lecternlaw08_TrailUps_l0
        simp only [cond_true, hc, letJ]
        have hulen := up_len c
        rw [F_under c p (by omega) hp, F_under q c hq (by omega), F_up c hcS]
        simp only [Option.bind_some, hon.under, Bool.not_true, cond_false]
        have wi : IntKind.wrap .i64 ((i : Int) + 1) = ((i + 1 : Nat) : Int) := by rw [w64 (by omega) (by omega)]; rfl
        have rest : (cond (decide (0 < wt c)) ((F_trail_Under (upP c) c).bind fun x66 => cond (!x66) (cond (true || (upP c).Attr) (some (.inr false)) (rec (IntKind.wrap .i64 ((i : Int) + 1), (upP c).Steps, (upP c).Attr, (upP c).Name.URI, (upP c).Name.Local, decide (0 < wt c)))) ((F_trail_Compare (upP c) c).bind fun x70 => cond ((x70 != (-1 : Int)) || (upP c).Attr) (some (.inr false)) (rec (IntKind.wrap .i64 ((i : Int) + 1), (upP c).Steps, (upP c).Attr, (upP c).Name.URI, (upP c).Name.Local, decide (0 < wt c)))))
          (rec (IntKind.wrap .i64 ((i : Int) + 1), (upP c).Steps, (upP c).Attr, (upP c).Name.URI, (upP c).Name.Local, decide (0 < wt c)))) = rec (((i + 1 : Nat) : Int), (upP c).Steps, (upP c).Attr, (upP c).Name.URI, (upP c).Name.Local, decide (0 < wt c)) := by
          rw [wi]
          by_cases h0 : 0 < wt c
          · rw [decide_eq_true h0, cond_true, F_under _ _ (by omega) (by omega), Option.bind_some, up_under, F_cmpT _ _ (by omega) (by omega), up_cmp h0, up_attr]; rfl
          · rw [decide_eq_false h0]; rfl
        by_cases hu : underP q c = true
        · simp only [hu, cond_true, F_under q p hq hp, Option.bind_some, hon.trans hu, Bool.not_true, cond_false]
          exact rest
        · have hu' : underP q c = false := by simpa using hu
          simp only [hu', cond_false]
          exact rest
      refine .inl ⟨_, hb, rfl, ?_⟩
      have eta : (⟨(upP c).Steps, (upP c).Attr, ⟨(upP c).Name.URI, (upP c).Name.Local⟩⟩ : T_trail_Trail) = upP c := rfl
      by_cases h0 : 0 < wt c
      · refine .inl ⟨decide_eq_true h0, ?_, ?_, Nat.le_trans (up_len c) hcS⟩
        · show wt (upP c) + (i + 1) = wt p
          have := up_wt h0; omega
        · exact hon.up
      · exact .inr ⟨decide_eq_false h0, by omega⟩)
    (fun x rec ⟨hx, hI⟩ => by
      obtain ⟨n, S, A, U, L, k⟩ := x
      simp only at hx hI
      rcases hI with ⟨_, hw, _⟩ | ⟨rfl, _⟩
      · omega
      · exact ⟨_, rfl, by rw [hx]; simp⟩) (n := FUEL) (by
      have hwp : wt p ≤ 201 := by unfold wt; split <;> omega
      unfold FUEL; omega)
  rw [h1, h2, Option.bind_some]
  simp only
  cases hA : p.Attr
  · rw [cond_false, w64 (by omega) (by omega)]; simp [wt, hA]
  · rw [cond_true, w64 (x := (p.Steps.length : Int) + 1) (by omega) (by omega), w64 (by omega) (by omega)]; simp [wt, hA]
end Go.Proofs.YtggnjahdjmncaaaDoor
