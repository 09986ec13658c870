/- Trails read; TrailBack: the plain law. No condition. -/
import Derived.Test.YtggnjahdjmncaaaDoorLw
set_option linter.unusedSimpArgs false
set_option linter.unusedVariables false
set_option maxRecDepth 20000
namespace Go.Proofs.YtggnjahdjmncaaaDoor

theorem ib_spec : ∀ (l : List UInt8) (c : UInt8), 0 ≤ Lib.indexByte l c → (Lib.indexByte l c).toNat < l.length ∧ l[(Lib.indexByte l c).toNat]? = some c
  | [], c, h => by simp [Lib.indexByte] at h
  | b :: l, c, h => by
    simp only [Lib.indexByte] at h ⊢
    split
    · rename_i e; simp [beq_iff_eq.1 e]
    · rename_i e
      rw [if_neg e] at h
      split
      · rename_i e2; rw [if_pos e2] at h; omega
      · rename_i e2
        rw [if_neg e2] at h
        have hge := Lib.indexByte_ge l c
        have hne : Lib.indexByte l c ≠ -1 := by simpa using e2
        obtain ⟨h1, h2⟩ := ib_spec l c (by omega)
        have : (Lib.indexByte l c + 1).toNat = (Lib.indexByte l c).toNat + 1 := by omega
        rw [this]
        exact ⟨by simp; omega, by simpa using h2⟩
theorem ib_at : ∀ (a r : List UInt8), (∀ c ∈ a, c.toNat ≠ 123) → Lib.indexByte (a ++ 123 :: r) 123 = (a.length : Int)
  | [], r, _ => by simp [Lib.indexByte]
  | b :: a, r, h => by
    have hb : (b == (123 : UInt8)) = false := by
      have := h b (by simp)
      simpa using fun e : b = 123 => this (by rw [e]; rfl)
    have ih := ib_at a r (fun c hc => h c (by simp [hc]))
    simp only [List.cons_append, Lib.indexByte, hb, Bool.false_eq_true, if_false, ih]
    rw [if_neg (by simp <;> omega)]
    simp
theorem ib_no : ∀ (a : List UInt8), (∀ c ∈ a, c.toNat ≠ 123) → Lib.indexByte a 123 = -1
  | [], _ => by simp [Lib.indexByte]
  | b :: a, h => by
    have hb : (b == (123 : UInt8)) = false := by
      have := h b (by simp)
      simpa using fun e : b = 123 => this (by rw [e]; rfl)
    have ih := ib_no a (fun c hc => h c (by simp [hc]))
    simp only [Lib.indexByte, hb, Bool.false_eq_true, if_false, ih]
    simp
/-- Behind the sign of an attribute: its namespace and its name. -/
def tailP (c : List UInt8) : List UInt8 × List UInt8 :=
  if 0 ≤ Lib.indexByte c 123 ∧ c.drop (c.length - 1) = [125] then ((c.drop ((Lib.indexByte c 123).toNat + 1)).take (c.length - 1 - ((Lib.indexByte c 123).toNat + 1)), c.take (Lib.indexByte c 123).toNat) else ([], c)
/-- The trail that a text would be. -/
def candP (s : List UInt8) : T_trail_Trail :=
  ⟨stepsOf [] (Lib.split (Lib.cut s [47, 64]).1 [47]), (Lib.cut s [47, 64]).2.2, if (Lib.cut s [47, 64]).2.2 then ⟨(tailP (Lib.cut s [47, 64]).2.1).1, (tailP (Lib.cut s [47, 64]).2.1).2⟩ else ⟨[], []⟩⟩
theorem F_suffix (c : List UInt8) (hc : c.length ≤ 1073741824) : F_strings_HasSuffix c [125] = some (decide (c.drop (c.length - 1) = [125])) := by
  unfold F_strings_HasSuffix F_stringslite_HasSuffix
  simp only [letJ, List.length_singleton]
  by_cases h : 1 ≤ c.length
  · rw [decide_eq_true (by omega), cond_true, w64 (by omega) (by omega)]
    have : slc c ((c.length : Int) - ((1 : Nat) : Int)) (c.length : Int) = some (c.drop (c.length - 1)) := by
      unfold slc
      rw [if_pos (by omega)]
      have e : ((c.length : Int) - ((1 : Nat) : Int)).toNat = c.length - 1 := by omega
      rw [e, Int.toNat_natCast, List.take_of_length_le (by simp)]
    rw [this, Option.bind_some, Option.bind_some]
    congr 1
    by_cases e : c.drop (c.length - 1) = [125] <;> simp [e]
  · rw [decide_eq_false (by omega), cond_false, Option.bind_some]
    have : c = [] := List.eq_nil_of_length_eq_zero (by omega)
    subst this; rfl
theorem tailP_uri (c : List UInt8) : (tailP c).1.length ≤ c.length := by
  unfold tailP
  split
  · simp; omega
  · simp
theorem cut_len (s sep : List UInt8) : (Lib.cut s sep).1.length ≤ s.length ∧ (Lib.cut s sep).2.1.length ≤ s.length := by
  unfold Lib.cut
  split <;> simp <;> omega
theorem cand_sizes (s : List UInt8) : (candP s).Steps.length ≤ 65 ∧ (candP s).Name.URI.length ≤ s.length := by
  refine ⟨stepsOf_len _ _ (by simp), ?_⟩
  unfold candP
  simp only
  split
  · exact Nat.le_trans (tailP_uri _) (cut_len _ _).2
  · simp
def emptyT : T_trail_Trail := ⟨[], false, ⟨[], []⟩⟩
theorem F_read0 (s : List UInt8) (hs : s.length ≤ 1048576) : F_trail_Read s = (F_trail_Show (candP s)).bind fun x78 => cond ((x78.2 != (0 : Int)) || (!(x78.1 == s))) (some (emptyT, (35 : Int))) (some (candP s, (0 : Int))) := by
  unfold F_trail_Read
  have hc : L_Cut s [47, 64] = some (Lib.cut s [47, 64]) := by unfold L_Cut; rw [if_pos (by omega)]
  rw [hc, Option.bind_some]
  have hcl := cut_len s [47, 64]
  unfold candP
  generalize Lib.cut s [47, 64] = c at *
  obtain ⟨c1, c2, c3⟩ := c
  simp only at hcl ⊢
  have hsp : L_Split c1 [47] = some (Lib.split c1 [47]) := by unfold L_Split; rw [if_pos ⟨by omega, by simp⟩]
  have hpl : (Lib.split c1 [47]).length ≤ 1073741824 := by
    have h1 := split_len (Lib.count c1 [47]) c1
    have h2 : Lib.count c1 [47] ≤ c1.length := by rw [Lib.count_one]; exact List.count_le_length
    unfold Lib.split; omega
  have hpx : ∀ x ∈ Lib.split c1 [47], x.length ≤ 1073741824 := fun x hx => by
    have := split_part _ _ x hx
    omega
  simp only [letJ, hsp, Option.bind_some]
  have hst := fun a u l => F_steps (Lib.split c1 [47]) a u l hpl hpx
  simp only [hst, Option.bind_some]
  cases c3
  · rfl
  simp only [cond_true, if_true]
  have hib : L_IndexByte c2 (123 : Int) = some (Lib.indexByte c2 123) := rfl
  rw [hib, Option.bind_some, F_suffix c2 (by omega)]
  have hge := Lib.indexByte_ge c2 123
  by_cases hi : 0 ≤ Lib.indexByte c2 123
  · rw [decide_eq_true hi, cond_true, Option.bind_some]
    obtain ⟨h1, h2⟩ := ib_spec c2 123 hi
    by_cases hsf : c2.drop (c2.length - 1) = [125]
    · rw [decide_eq_true hsf, cond_true]
      have hne : (Lib.indexByte c2 123).toNat ≠ c2.length - 1 := fun e => by
        rw [e] at h2
        have := congrArg (fun l : List UInt8 => l[0]?) hsf
        simp only [List.getElem?_drop, Nat.add_zero] at this
        rw [h2] at this
        simp at this
      have s1 : slc c2 (IntKind.wrap .i64 (Lib.indexByte c2 123 + (1 : Int))) (IntKind.wrap .i64 ((c2.length : Int) - (1 : Int))) = some ((c2.drop ((Lib.indexByte c2 123).toNat + 1)).take (c2.length - 1 - ((Lib.indexByte c2 123).toNat + 1))) := by
        rw [w64 (by omega) (by omega), w64 (by omega) (by omega)]
        unfold slc
        rw [if_pos (by omega)]
        have e1 : (Lib.indexByte c2 123 + (1 : Int)).toNat = (Lib.indexByte c2 123).toNat + 1 := by omega
        have e2 : ((c2.length : Int) - (1 : Int)).toNat = c2.length - 1 := by omega
        rw [e1, e2]
      have s2 : slc c2 (0 : Int) (Lib.indexByte c2 123) = some (c2.take (Lib.indexByte c2 123).toNat) := by
        unfold slc
        rw [if_pos (by omega)]; simp
      rw [s1, Option.bind_some, s2, Option.bind_some]
      unfold tailP
      rw [if_pos ⟨hi, hsf⟩]; rfl
    · rw [decide_eq_false hsf, cond_false]
      unfold tailP
      rw [if_neg (fun h => hsf h.2)]; rfl
  · rw [decide_eq_false hi, cond_false, cond_false]
    unfold tailP
    rw [if_neg (fun h => hi h.1)]; rfl
theorem cut_at (a r : List UInt8) (h : ∀ c ∈ a, c ≠ 64) : Lib.cut (a ++ 47 :: 64 :: r) [47, 64] = (a, r, true) := by
  unfold Lib.cut
  rw [index_at a r h, if_pos (by omega)]
  simp [List.drop_append]
theorem cut_no (a : List UInt8) (h : ∀ c ∈ a, c ≠ 64) : Lib.cut a [47, 64] = (a, [], false) := by
  unfold Lib.cut
  rw [index_no a h, if_neg (by omega)]
theorem slash_split : stepsOf [] (Lib.split [47] [47]) = [] := by kernel_rfl
theorem stepsOf_nil (r : List (List UInt8)) : stepsOf [] ([] :: r) = stepsOf [] r := by
  simp only [stepsOf]
  have : (atoiP []).2 = true := by kernel_rfl
  simp [this]
theorem cand_show (p : T_trail_Trail) (g : Good p) : candP (showP p) = p := by
  have hst : ∀ n ∈ p.Steps, 0 ≤ n := fun n hn => (g.steps n hn).1
  have hsteps : stepsOf [] (Lib.split (stepsT p.Steps) [47]) = p.Steps := by
    rw [split_all _ hst, stepsOf_nil, stepsOf_all _ _ g.steps (by simpa using g.len)]; simp
  have h64 := steps_64 p.Steps hst
  obtain ⟨S, A, U, L⟩ := p
  unfold showP tailT
  cases A
  · have hn := g.plain rfl
    simp only at hn hsteps h64 ⊢
    obtain ⟨rfl, rfl⟩ : U = [] ∧ L = [] := by injection hn with a b; exact ⟨a, b⟩
    simp only [Bool.false_eq_true, if_false, List.append_nil]
    by_cases hS : stepsT S = []
    · rw [if_pos hS]
      have : S = [] := by
        cases S with
        | nil => rfl
        | cons n S => simp [stepsT] at hS
      subst this
      unfold candP
      rw [cut_no [47] (by simp)]
      simp only [Bool.false_eq_true, if_false, slash_split]
    · rw [if_neg hS]
      unfold candP
      rw [cut_no _ h64]
      simp only [Bool.false_eq_true, if_false, hsteps]
  · have hlo := (g.loc rfl).2
    simp only at hlo hsteps h64 ⊢
    simp only [if_true]
    have e : ∀ t : List UInt8, stepsT S ++ (([47, 64] ++ L) ++ t) = stepsT S ++ 47 :: 64 :: (L ++ t) := fun t => by simp
    rw [e, if_neg (by simp)]
    unfold candP
    rw [cut_at _ _ h64]
    simp only [if_true, hsteps]
    by_cases hU : U = []
    · subst hU
      simp only [if_true, List.append_nil]
      unfold tailP
      rw [ib_no L hlo, if_neg (fun h => by have := h.1; omega)]
    · rw [if_neg hU]
      have e2 : L ++ (([123] ++ U) ++ [125]) = L ++ 123 :: (U ++ [125]) := by simp
      rw [e2]
      unfold tailP
      rw [ib_at L _ hlo]
      have hlen : (L ++ 123 :: (U ++ [125])).length = L.length + U.length + 2 := by simp; omega
      have hd : (L ++ 123 :: (U ++ [125])).drop ((L ++ 123 :: (U ++ [125])).length - 1) = [125] := by
        rw [hlen]
        have : L ++ 123 :: (U ++ [125]) = (L ++ 123 :: U) ++ [125] := by simp
        rw [this, List.drop_append]
        have e3 : (L ++ 123 :: U).length = L.length + U.length + 1 := by simp; omega
        rw [e3, List.drop_of_length_le (by rw [e3]; omega)]
        simp
      rw [if_pos ⟨by omega, hd⟩, hlen]
      simp only [Int.toNat_natCast]
      have h1 : (L ++ 123 :: (U ++ [125])).drop (L.length + 1) = U ++ [125] := by
        rw [List.drop_append, List.drop_of_length_le (by omega)]; simp
      have h2 : L.length + U.length + 2 - 1 - (L.length + 1) = U.length := by omega
      rw [h1, h2]
      simp
/-- Reading a text: the trail whose text it is, if there is one. -/
theorem F_read (s : List UInt8) (hs : s.length ≤ 1048576) : ∃ r, F_trail_Read s = some r ∧ (r = (emptyT, 35) ∨ (r = (candP s, 0) ∧ F_trail_right (candP s) = some true ∧ Good (candP s) ∧ showP (candP s) = s)) ∧ (F_trail_right (candP s) = some true → showP (candP s) = s → r = (candP s, 0)) := by
  obtain ⟨h1, h2⟩ := cand_sizes s
  obtain ⟨b, hb, hg, hsh⟩ := F_show (candP s) (by omega) (by omega)
  rw [F_read0 s hs, hsh, Option.bind_some]
  cases b
  · exact ⟨_, rfl, .inl rfl, fun h => by rw [hb] at h; cases h⟩
  · simp only [if_true, bne_self_eq_false, Bool.false_or]
    by_cases e : showP (candP s) = s
    · rw [show (showP (candP s) == s) = true by simpa using e]
      exact ⟨_, rfl, .inr ⟨rfl, hb, hg rfl, e⟩, fun _ _ => rfl⟩
    · rw [show (showP (candP s) == s) = false by simpa using e]
      exact ⟨_, rfl, .inl rfl, fun _ h => absurd h e⟩
theorem showP_len (p : T_trail_Trail) (g : Good p) : (showP p).length ≤ 2000 := by
  have h1 := stepsT_len p.Steps g.steps
  have h2 := g.len
  have ht : (tailT p).length ≤ 400 := by
    unfold tailT
    cases hA : p.Attr
    · simp
    · have h3 := g.uri hA
      have h4 := (g.loc hA).1
      by_cases hU : p.Name.URI = []
      · simp [hU]; omega
      · simp [hU]; omega
  unfold showP
  by_cases h : stepsT p.Steps ++ tailT p = []
  · rw [if_pos h]; simp
  · rw [if_neg h, List.length_append]; omega
theorem same5 (l : List Int) (hl : l.length ≤ 1048576) : F_lecternref05_SameInts l l = some true := by
  unfold F_lecternref05_SameInts
  simp only [bne_self_eq_false, cond_false, letJ]
  obtain ⟨o, h1, h2⟩ := iter_spec (b := F_lecternref05_SameInts_l0 l l) (fun i x => x = (i : Int)) (fun o => o = .inl ()) l.length (x0 := (0 : Int)) rfl
    (fun i x rec hi hx => .inl ⟨((i + 1 : Nat) : Int), by
      subst hx
      unfold F_lecternref05_SameInts_l0
      rw [decide_eq_true (by omega), cond_true, idx_some hi, Option.bind_some, Option.bind_some, bne_self_eq_false, cond_false, w64 (by omega) (by omega)]; rfl, rfl⟩)
    (fun x rec hx => ⟨_, by
      subst hx
      unfold F_lecternref05_SameInts_l0
      rw [decide_eq_false (by omega), cond_false], rfl⟩) (n := FUEL) (by unfold FUEL; omega)
  rw [h1, h2]; rfl
theorem F_same (p : T_trail_Trail) (hl : p.Steps.length ≤ 1048576) : F_lecternref08_Same p p = some true := by
  unfold F_lecternref08_Same
  simp only [beq_self_eq_true, Bool.and_true, letJ, cond_true, same5 _ hl, Option.bind_some]
theorem trailBack (p : T_trail_Trail) (s : List UInt8) (hl : p.Steps.length ≤ 1048576) (hu : p.Name.URI.length ≤ 1048576) (hs : s.length ≤ 1048576) : F_lecternlaw08_TrailBack p s = some true := by
  unfold F_lecternlaw08_TrailBack F_lecternlaw08_doc
  simp only [awake_t, Option.bind_some, Bool.not_true, cond_false, letJ]
  obtain ⟨b, hb, hg, hsh⟩ := F_show p (by omega) (by omega)
  have second : ((F_trail_Read s).bind fun x48 => cond (x48.2 != (0 : Int)) (some true) ((F_trail_Show x48.1).bind fun x51 => some ((x51.2 == (0 : Int)) && (x51.1 == s)))) = some true := by
    obtain ⟨r, hr, hr2, _⟩ := F_read s hs
    rw [hr, Option.bind_some]
    rcases hr2 with rfl | ⟨rfl, h1, h2, h3⟩
    · rfl
    · obtain ⟨c1, c2⟩ := cand_sizes s
      obtain ⟨b2, hb2, _, hsh2⟩ := F_show (candP s) (by omega) (by omega)
      rw [h1] at hb2
      obtain rfl := Option.some.inj hb2
      simp only [bne_self_eq_false, cond_false, hsh2, Option.bind_some, if_true, h3, beq_self_eq_true, Bool.and_true]
  rw [hsh, Option.bind_some]
  cases b
  · exact second
  have g := hg rfl
  have hlen := showP_len p g
  have hcand := cand_show p g
  obtain ⟨r, hr, _, hr3⟩ := F_read (showP p) (by omega)
  rw [hcand] at hr3
  have := hr3 hb rfl
  subst this
  simp only [if_true, beq_self_eq_true, cond_true, hr, Option.bind_some, bne_self_eq_false, cond_false, F_cmpT p p (by omega) (by omega), trailC_cmp.refl, F_same p hl, Bool.not_true]
  exact second
end Go.Proofs.YtggnjahdjmncaaaDoor
