/- Trails read by the plain code; TrailTexts: the plain law. No condition. -/
import Derived.Test.YtggnjahdjmncaaaDoorLq8
set_option linter.unusedSimpArgs false
set_option linter.unusedVariables false
set_option maxRecDepth 20000
namespace Go.Proofs.YtggnjahdjmncaaaDoor
open Go.Lib (decDigits itoa decFrom digitVal)
/-- The name's end: the first brace, or the end. -/
theorem brace (s : List UInt8) (i : Nat) (hi : i ≤ s.length) (hl : s.length ≤ 1048576) : ∃ j : Nat, iter (F_lecternref08_Read_l2 s) FUEL (i : Int) = some (j : Int) ∧ i ≤ j ∧ j ≤ s.length ∧ (∀ t, i ≤ t → t < j → bt s t ≠ 123) ∧ (j = s.length ∨ bt s j = 123) := by
  obtain ⟨o, h1, j, rfl, h2⟩ := iter_spec (b := F_lecternref08_Read_l2 s) (fun k x => x = ((i + k : Nat) : Int) ∧ i + k ≤ s.length ∧ ∀ t, i ≤ t → t < i + k → bt s t ≠ 123) (fun o => ∃ j : Nat, o = (j : Int) ∧ i ≤ j ∧ j ≤ s.length ∧ (∀ t, i ≤ t → t < j → bt s t ≠ 123) ∧ (j = s.length ∨ bt s j = 123)) (s.length - i) (x0 := (i : Int)) ⟨rfl, by omega, fun t h1 h2 => by omega⟩
    (fun k x rec hk ⟨hx, hkl, hb⟩ => by
      subst hx
      unfold F_lecternref08_Read_l2
      simp only [letJ]
      have e : (((s.getD (i + k) 0).toNat : Nat) : Int) = (bt s (i + k) : Int) := rfl
      rw [decide_eq_true (by omega), cond_true, idx_bt (show i + k < s.length by omega), Option.bind_some, e]
      by_cases c : bt s (i + k) = 123
      · rw [show ((bt s (i + k) : Int) != (123 : Int)) = false by simp only [bne_eq_false_iff_eq]; omega, cond_false]
        exact .inr ⟨_, rfl, i + k, rfl, by omega, by omega, hb, .inr c⟩
      · rw [show ((bt s (i + k) : Int) != (123 : Int)) = true by simp only [bne_iff_ne, ne_eq]; omega, cond_true, w64 (by omega) (by omega)]
        exact .inl ⟨_, rfl, by omega, by omega, fun t h1 h2 => by
          by_cases ht : t = i + k
          · subst ht; exact c
          · exact hb t h1 (by omega)⟩)
    (fun x rec ⟨hx, hkl, hb⟩ => ⟨x, by
      subst hx
      unfold F_lecternref08_Read_l2
      simp only [letJ]
      rw [decide_eq_false (by omega), cond_false, cond_false], i + (s.length - i), hx, by omega, by omega, hb, .inl (by omega)⟩) (n := FUEL) (by unfold FUEL; omega)
  exact ⟨j, h1, h2⟩
theorem slc_nat {s : List UInt8} {i j : Nat} (h1 : i ≤ j) (h2 : j ≤ s.length) : slc s (i : Int) (j : Int) = some ((s.drop i).take (j - i)) := by
  unfold slc; rw [if_pos (by omega)]; simp
theorem showP_ne (p : T_trail_Trail) (h : showP p ≠ [47]) : showP p = stepsT p.Steps ++ tailT p := by
  unfold showP at *
  split at h
  · exact absurd rfl h
  · rename_i hh; rw [if_neg hh]
theorem stepsT_one {l : List Int} (h : stepsT l = [47]) : False := by
  cases l with
  | nil => simp [stepsT] at h
  | cons n l =>
    have h2 := congrArg List.length h
    have h3 : stepsT (n :: l) = 47 :: (itoa n ++ stepsT l) := by simp [stepsT]
    rw [h3] at h2
    have h4 : itoa n ≠ [] := by
      unfold Lib.itoa
      split
      · simp
      · exact digits_ne _
    have := List.length_pos_iff.2 h4
    simp at h2
    exact h4 h2.1
theorem show_slash {p : T_trail_Trail} (g : Good p) (h : showP p = [47]) : p = emptyT := by
  have h0 : candP (showP p) = p := cand_show p g
  rw [h] at h0
  rw [← h0]
  unfold candP
  rw [cut_no [47] (by simp)]
  simp only [Bool.false_eq_true, if_false, slash_split]
  rfl
theorem right_plain (st : List Int) (h1 : st.length ≤ 64) (h2 : ∀ n ∈ st, 0 ≤ n ∧ n ≤ 999999999) : F_trail_right (⟨st, false, ⟨[], []⟩⟩ : T_trail_Trail) = some true := by
  unfold F_trail_right
  simp only [letJ]
  rw [decide_eq_false (by omega), cond_false, contains_some _ (by omega), Option.bind_some]
  have : st.any badS = false := by
    rw [List.any_eq_false]
    intro n hn
    have := h2 n hn
    simp only [badS, Bool.or_eq_true, decide_eq_true_eq, not_or]; omega
  rw [this]; rfl
/-- At the steps' end of a shown trail. -/
theorem OI.fin {s : List UInt8} {st : List Int} {i : Nat} (o : OI s st i) (ns : ¬ SC s i) {p : T_trail_Trail} (g : Good p) (e : s = stepsT p.Steps ++ tailT p) : st = p.Steps ∧ s.drop i = tailT p := by
  have hs := o.suf g e
  have hp := o.pre p g e
  cases hd : p.Steps.drop st.length with
  | nil =>
    rw [hd] at hs
    refine ⟨?_, by rw [hs]; simp [stepsT]⟩
    have : p.Steps.length ≤ st.length := by
      have := congrArg List.length hd
      simp only [List.length_drop, List.length_nil] at this; omega
    rw [List.take_of_length_le this] at hp
    exact hp
  | cons a rest =>
    exfalso
    apply ns
    rw [hd] at hs
    have hs' : s.drop i = 47 :: (itoa a ++ (stepsT rest ++ tailT p)) := by rw [hs]; simp [stepsT]
    have ha := g.steps a (List.mem_of_mem_drop (by rw [hd]; simp))
    have hne : itoa a ≠ [] := by rw [itoa_nat a ha.1]; exact digits_ne _
    have hpos := List.length_pos_iff.2 hne
    have hlen := congrArg List.length hs'
    simp only [List.length_drop, List.length_cons, List.length_append] at hlen
    refine ⟨by omega, ?_, ?_⟩
    · have := bt_drop (t := 0) hs'
      rw [Nat.add_zero] at this
      rw [this]; rfl
    · rw [bt_drop (t := 1) hs']
      have : ((47 : UInt8) :: (itoa a ++ (stepsT rest ++ tailT p))).getD 1 0 = (itoa a)[0] := by
        simp only [List.getD, List.getElem?_cons_succ]
        rw [List.getElem?_append_left hpos, List.getElem?_eq_getElem hpos]; rfl
      rw [this]
      have := itoa_bytes ha.1 _ (List.getElem_mem hpos)
      omega
theorem tail_attr {p : T_trail_Trail} (h : p.Attr = true) : tailT p = 47 :: 64 :: (p.Name.Local ++ (if p.Name.URI = [] then [] else 123 :: (p.Name.URI ++ [125]))) := by
  unfold tailT
  rw [if_pos h]
  by_cases hU : p.Name.URI = [] <;> simp [hU]
theorem mem_bt {s : List UInt8} {i t : Nat} {l w : List UInt8} (h : s.drop i = l ++ w) (ht : t < l.length) : bt s (i + t) = l[t].toNat := by
  rw [bt_drop h]
  simp only [List.getD]
  rw [List.getElem?_append_left ht, List.getElem?_eq_getElem ht]; rfl
theorem F_read8 (s : List UInt8) (hl : s.length ≤ 1048576) : ∃ r, F_lecternref08_Read s = some r ∧ (r.2 = true → F_trail_right r.1 = some true ∧ showP r.1 = s ∧ r.1.Steps.length ≤ 64) ∧ (∀ p, Good p → F_trail_right p = some true → showP p = s → r = (p, true)) := by
  unfold F_lecternref08_Read
  by_cases h47 : s = [47]
  · subst h47
    refine ⟨(emptyT, true), rfl, fun _ => ⟨right_plain [] (by simp) (by simp), by rfl, by simp [emptyT]⟩, fun p g hr hs => by rw [show_slash g hs]⟩
  rw [show (s == ([47] : List UInt8)) = false by simpa using h47, cond_false]
  have hcomp : ∀ p, showP p = s → s = stepsT p.Steps ++ tailT p := fun p hp => by
    rw [← hp]; exact showP_ne p (by rw [hp]; exact h47)
  simp only [letJ]
  obtain ⟨o, h1, h2⟩ := outer s hl
  rw [h1, Option.bind_some]
  rcases h2 with ⟨st, i, rfl, hO, hns⟩ | ⟨t, rfl, hno⟩
  rotate_left
  · exact ⟨_, rfl, fun h => by simp at h, fun p g hr hs => absurd (hcomp p hs) (hno p g)⟩
  simp only
  have hle := hO.le
  by_cases hil : i = s.length
  · rw [show ((i : Int) == (s.length : Int)) = true by simp only [beq_iff_eq]; omega, cond_true]
    refine ⟨_, rfl, fun h => ?_, fun p g hr hs => ?_⟩
    · have hi0 : 0 < i := by
        have := of_decide_eq_true h
        omega
      have htxt : stepsT st = s := by rw [← hO.txt, hil, List.take_length]
      refine ⟨right_plain st hO.len hO.rng, ?_, hO.len⟩
      have hne : s ≠ [] := by intro e; rw [e] at hil; simp at hil; omega
      unfold showP tailT
      simp only [Bool.false_eq_true, if_false, List.append_nil, htxt, hne]
    · have e := hcomp p hs
      obtain ⟨f1, f2⟩ := hO.fin hns g e
      rw [hil, List.drop_length] at f2
      rcases tail_cases p with ⟨a1, _⟩ | ⟨_, w, a2⟩
      · have hn := g.plain a1
        have hne : s ≠ [] := by
          rw [← hs]; unfold showP; split
          · simp
          · assumption
        have hpos := List.length_pos_iff.2 hne
        rw [decide_eq_true (by omega)]
        obtain ⟨S, A, N⟩ := p
        simp only at f1 a1 hn
        subst f1 a1 hn
        rfl
      · rw [a2] at f2; cases f2
  rw [show ((i : Int) == (s.length : Int)) = false by simp only [beq_eq_false_iff_ne, ne_eq]; omega, cond_false, w64 (x := (i : Int) + 1) (by omega) (by omega)]
  by_cases att : i + 1 < s.length ∧ bt s i = 47 ∧ bt s (i + 1) = 64
  rotate_left
  · have hb : ∀ X : Option (T_trail_Trail × Bool), (cond (decide ((s.length : Int) ≤ (i : Int) + 1)) (cond true (cond true (some ((⟨[], false, ⟨[], []⟩⟩ : T_trail_Trail), false)) X) ((idx s ((i : Int) + 1)).bind fun x143 => cond ((x143.toNat : Int) != (64 : Int)) (some ((⟨[], false, ⟨[], []⟩⟩ : T_trail_Trail), false)) X))
        ((idx s (i : Int)).bind fun x139 => cond ((x139.toNat : Int) != (47 : Int)) (cond true (some ((⟨[], false, ⟨[], []⟩⟩ : T_trail_Trail), false)) X) ((idx s ((i : Int) + 1)).bind fun x143 => cond ((x143.toNat : Int) != (64 : Int)) (some ((⟨[], false, ⟨[], []⟩⟩ : T_trail_Trail), false)) X))) = some ((⟨[], false, ⟨[], []⟩⟩ : T_trail_Trail), false) := fun X => by
      by_cases c1 : i + 1 < s.length
      · have e : (((s.getD i 0).toNat : Nat) : Int) = (bt s i : Int) := rfl
        have e2 : (((s.getD (i + 1) 0).toNat : Nat) : Int) = (bt s (i + 1) : Int) := rfl
        rw [decide_eq_false (show ¬ (s.length : Int) ≤ (i : Int) + 1 by omega), cond_false, idx_bt (show i < s.length by omega), Option.bind_some, e]
        by_cases c2 : bt s i = 47
        · rw [show ((bt s i : Int) != (47 : Int)) = false by simp only [bne_eq_false_iff_eq]; omega, cond_false, show ((i : Int) + 1) = ((i + 1 : Nat) : Int) by omega, idx_bt c1, Option.bind_some, e2,
            show ((bt s (i + 1) : Int) != (64 : Int)) = true by simp only [bne_iff_ne, ne_eq]; omega, cond_true]
        · rw [show ((bt s i : Int) != (47 : Int)) = true by simp only [bne_iff_ne, ne_eq]; omega, cond_true, cond_true]
      · rw [decide_eq_true (show (s.length : Int) ≤ (i : Int) + 1 by omega)]; rfl
    refine ⟨_, hb _, fun h => by simp at h, fun p g hr hs => ?_⟩
    exfalso
    obtain ⟨f1, f2⟩ := hO.fin hns g (hcomp p hs)
    rcases tail_cases p with ⟨_, a2⟩ | ⟨_, w, a2⟩
    · rw [a2] at f2
      have := congrArg List.length f2
      simp only [List.length_drop, List.length_nil] at this
      omega
    · rw [a2] at f2
      have hlen := congrArg List.length f2
      simp only [List.length_drop, List.length_cons] at hlen
      apply att
      refine ⟨by omega, ?_, ?_⟩
      · have := bt_drop (t := 0) f2
        rw [Nat.add_zero] at this
        rw [this]; rfl
      · rw [bt_drop (t := 1) f2]; rfl
  obtain ⟨c1, c2, c3⟩ := att
  have e : (((s.getD i 0).toNat : Nat) : Int) = (bt s i : Int) := rfl
  have e2 : (((s.getD (i + 1) 0).toNat : Nat) : Int) = (bt s (i + 1) : Int) := rfl
  rw [decide_eq_false (show ¬ (s.length : Int) ≤ (i : Int) + 1 by omega), cond_false, idx_bt (show i < s.length by omega), Option.bind_some, e,
    show ((bt s i : Int) != (47 : Int)) = false by simp only [bne_eq_false_iff_eq]; omega, cond_false, show ((i : Int) + 1) = ((i + 1 : Nat) : Int) by omega, idx_bt c1, Option.bind_some, e2,
    show ((bt s (i + 1) : Int) != (64 : Int)) = false by simp only [bne_eq_false_iff_eq]; omega, cond_false, w64 (x := (i : Int) + 2) (by omega) (by omega), show ((i : Int) + 2) = ((i + 2 : Nat) : Int) by omega]
  obtain ⟨j, hj1, hj2, hj3, hj4, hj5⟩ := brace s (i + 2) (by omega) hl
  rw [hj1, Option.bind_some, slc_nat hj2 hj3, Option.bind_some]
  have hdrop : s.drop i = 47 :: 64 :: s.drop (i + 2) := by
    rw [drop_ne (show i < s.length by omega), drop_ne c1]
    have g1 : s[i] = 47 := UInt8.toNat_inj.1 (by have := c2; simp only [bt, List.getD, List.getElem?_eq_getElem (show i < s.length by omega), Option.getD_some] at this; exact this)
    have g2 : s[i + 1] = 64 := UInt8.toNat_inj.1 (by have := c3; simp only [bt, List.getD, List.getElem?_eq_getElem c1, Option.getD_some] at this; exact this)
    rw [g1, g2]
  have hs0 : s = stepsT st ++ 47 :: 64 :: s.drop (i + 2) := by
    rw [← hdrop, ← hO.txt, List.take_append_drop]
  have hsne : s ≠ [] := by intro h; rw [h] at c1; simp at c1
  have hcp : ∀ p, Good p → showP p = s → p.Attr = true ∧ st = p.Steps ∧ s.drop (i + 2) = p.Name.Local ++ (if p.Name.URI = [] then [] else 123 :: (p.Name.URI ++ [125])) := fun p g hs => by
    obtain ⟨f1, f2⟩ := hO.fin hns g (hcomp p hs)
    rcases tail_cases p with ⟨_, a2⟩ | ⟨a1, w, a2⟩
    · rw [a2, hdrop] at f2; cases f2
    · rw [tail_attr a1, hdrop] at f2
      exact ⟨a1, f1, (List.cons.inj (List.cons.inj f2).2).2⟩
  by_cases hjl : j = s.length
  · rw [decide_eq_false (show ¬ (j : Int) < (s.length : Int) by omega), cond_false]
    have hL : (s.drop (i + 2)).take (j - (i + 2)) = s.drop (i + 2) := List.take_of_length_le (by simp; omega)
    rw [hL]
    obtain ⟨b, hb, _⟩ := right_some (⟨st, true, ⟨[], s.drop (i + 2)⟩⟩ : T_trail_Trail) (by have := hO.len; simp only; omega) (by simp)
    rw [F_right8 _ (by have := hO.len; simp only; omega) (by simp), hb, Option.bind_some]
    refine ⟨_, rfl, fun h => ?_, fun p g hr hs => ?_⟩
    · simp only at h
      subst h
      refine ⟨hb, ?_, hO.len⟩
      unfold showP tailT
      simp only [if_true, List.append_nil]
      have : stepsT st ++ ([47, 64] ++ s.drop (i + 2)) = s := by
        conv => rhs; rw [hs0]
        rfl
      rw [this, if_neg hsne]
    · obtain ⟨a1, a2, a3⟩ := hcp p g hs
      have hU : p.Name.URI = [] := by
        apply Classical.byContradiction
        intro hU
        rw [if_neg hU] at a3
        have hlen := congrArg List.length a3
        simp only [List.length_drop, List.length_append, List.length_cons] at hlen
        apply hj4 (i + 2 + p.Name.Local.length) (by omega) (by omega)
        rw [bt_drop a3]
        simp [List.getD]
      rw [if_pos hU, List.append_nil] at a3
      have hp : p = ⟨st, true, ⟨[], s.drop (i + 2)⟩⟩ := by
        obtain ⟨S, A, U, L⟩ := p
        simp only at a1 a2 a3 hU
        subst a1 a2 hU
        rw [a3]
      rw [hp] at hr
      rw [hb] at hr
      rw [hp, Option.some.inj hr]
  have hjlt : j < s.length := by omega
  have hj123 : bt s j = 123 := by
    rcases hj5 with h | h
    · exact absurd h hjl
    · exact h
  have e4 : (((s.getD (s.length - 1) 0).toNat : Nat) : Int) = (bt s (s.length - 1) : Int) := rfl
  rw [decide_eq_true (show (j : Int) < (s.length : Int) by omega), cond_true, w64 (x := (s.length : Int) - 1) (by omega) (by omega), show ((s.length : Int) - 1) = ((s.length - 1 : Nat) : Int) by omega, idx_bt (show s.length - 1 < s.length by omega), Option.bind_some, e4, w64 (x := (j : Int) + 2) (by omega) (by omega)]
  have hdj : s.drop (i + 2) = (s.drop (i + 2)).take (j - (i + 2)) ++ 123 :: s.drop (j + 1) := by
    have h3 : s.drop j = 123 :: s.drop (j + 1) := by
      rw [drop_ne hjlt]
      have : s[j] = 123 := UInt8.toNat_inj.1 (by have := hj123; simp only [bt, List.getD, List.getElem?_eq_getElem hjlt, Option.getD_some] at this; exact this)
      rw [this]
    rw [← h3]
    have h4 : s.drop j = (s.drop (i + 2)).drop (j - (i + 2)) := by rw [List.drop_drop]; congr 1; omega
    rw [h4, List.take_append_drop]
  have hcp2 : ∀ p, Good p → showP p = s → p.Name.URI ≠ [] ∧ p.Name.Local = (s.drop (i + 2)).take (j - (i + 2)) ∧ s.drop (j + 1) = p.Name.URI ++ [125] ∧ p.Attr = true ∧ st = p.Steps := fun p g hs => by
    obtain ⟨a1, a2, a3⟩ := hcp p g hs
    have hlo := (g.loc a1).2
    have hU : p.Name.URI ≠ [] := fun hU => by
      rw [if_pos hU, List.append_nil] at a3
      have hlen := congrArg List.length a3
      simp only [List.length_drop] at hlen
      have := mem_bt (t := j - (i + 2)) (l := p.Name.Local) (w := []) (by rw [a3, List.append_nil]) (by omega)
      rw [show i + 2 + (j - (i + 2)) = j by omega, hj123] at this
      exact hlo _ (List.getElem_mem _) this.symm
    rw [if_neg hU] at a3
    have hlen := congrArg List.length a3
    simp only [List.length_drop, List.length_append, List.length_cons] at hlen
    have hjj : j = i + 2 + p.Name.Local.length := by
      rcases Nat.lt_trichotomy j (i + 2 + p.Name.Local.length) with h | h | h
      · exfalso
        have := mem_bt (t := j - (i + 2)) a3 (by omega)
        rw [show i + 2 + (j - (i + 2)) = j by omega, hj123] at this
        exact hlo _ (List.getElem_mem _) this.symm
      · exact h
      · exfalso
        apply hj4 (i + 2 + p.Name.Local.length) (by omega) (by omega)
        rw [bt_drop a3]
        simp [List.getD]
    have h5 : (s.drop (i + 2)).take (j - (i + 2)) = p.Name.Local := by
      rw [a3, List.take_append_of_le_length (by omega), List.take_of_length_le (by omega)]
    rw [h5] at hdj
    have h6 := List.append_cancel_left (a3.symm.trans hdj)
    exact ⟨hU, h5.symm, (List.cons.inj h6).2.symm, a1, a2⟩
  by_cases bad : bt s (s.length - 1) ≠ 125 ∨ s.length ≤ j + 2
  · have hbb : (((bt s (s.length - 1) : Int) != (125 : Int)) || decide ((s.length : Int) ≤ (j : Int) + 2)) = true := by
      simp only [Bool.or_eq_true, bne_iff_ne, ne_eq, decide_eq_true_eq]; omega
    rw [hbb, cond_true]
    refine ⟨_, rfl, fun h => by simp at h, fun p g hr hs => ?_⟩
    exfalso
    obtain ⟨b1, b2, b3, _⟩ := hcp2 p g hs
    have hpos := List.length_pos_iff.2 b1
    have hlen := congrArg List.length b3
    simp only [List.length_drop, List.length_append, List.length_singleton] at hlen
    rcases bad with h | h
    · apply h
      have := bt_drop (t := p.Name.URI.length) b3
      rw [show j + 1 + p.Name.URI.length = s.length - 1 by omega] at this
      rw [this]
      simp [List.getD]
    · omega
  have hbb : (((bt s (s.length - 1) : Int) != (125 : Int)) || decide ((s.length : Int) ≤ (j : Int) + 2)) = false := by
    rw [Bool.eq_false_iff]
    simp only [ne_eq, Bool.or_eq_true, bne_iff_ne, decide_eq_true_eq]; omega
  rw [hbb, cond_false, w64 (x := (j : Int) + 1) (by omega) (by omega), show ((j : Int) + 1) = ((j + 1 : Nat) : Int) by omega, slc_nat (by omega) (by omega), Option.bind_some]
  have hlast : s.drop (j + 1) = (s.drop (j + 1)).take (s.length - 1 - (j + 1)) ++ [125] := by
    have h3 : (s.drop (j + 1)).drop (s.length - 1 - (j + 1)) = [125] := by
      rw [List.drop_drop, show j + 1 + (s.length - 1 - (j + 1)) = s.length - 1 by omega, drop_ne (show s.length - 1 < s.length by omega), List.drop_of_length_le (by omega)]
      have h125 : bt s (s.length - 1) = 125 := by omega
      have : s[s.length - 1] = 125 := UInt8.toNat_inj.1 (by simp only [bt, List.getD, List.getElem?_eq_getElem (show s.length - 1 < s.length by omega), Option.getD_some] at h125; exact h125)
      rw [this]
    rw [← h3, List.take_append_drop]
  generalize hUd : (s.drop (j + 1)).take (s.length - 1 - (j + 1)) = U at *
  generalize hLd : (s.drop (i + 2)).take (j - (i + 2)) = L at *
  have hUne : U ≠ [] := by
    intro h
    have := congrArg List.length hUd
    rw [h] at this
    simp only [List.length_take, List.length_drop, List.length_nil] at this
    omega
  have hUl : U.length ≤ 1073741824 := by rw [← hUd]; simp; omega
  obtain ⟨b, hb, _⟩ := right_some (⟨st, true, ⟨U, L⟩⟩ : T_trail_Trail) (by have := hO.len; simp only; omega) hUl
  rw [F_right8 _ (by have := hO.len; simp only; omega) hUl, hb, Option.bind_some]
  refine ⟨_, rfl, fun h => ?_, fun p g hr hs => ?_⟩
  · simp only at h
    subst h
    refine ⟨hb, ?_, hO.len⟩
    have ht : stepsT st ++ tailT (⟨st, true, ⟨U, L⟩⟩ : T_trail_Trail) = s := by
      rw [tail_attr rfl]
      simp only [hUne, if_false]
      conv => rhs; rw [hs0, hdj, hlast]
    unfold showP
    simp only [ht, hsne, if_false]
  · obtain ⟨b1, b2, b3, b4, b5⟩ := hcp2 p g hs
    have hU : p.Name.URI = U := by
      rw [hlast] at b3
      exact (List.append_cancel_right b3).symm
    have hp : p = ⟨st, true, ⟨U, L⟩⟩ := by
      obtain ⟨S, A, U', L'⟩ := p
      simp only at b2 b4 b5 hU
      subst b2 b4 b5 hU
      rfl
    rw [hp] at hr
    rw [hb] at hr
    rw [hp, Option.some.inj hr]
end Go.Proofs.YtggnjahdjmncaaaDoor
