/- Trails that are right: the law's code answers always, and what a right trail's name is like. No condition. -/
import Derived.Test.YtggnjahdjmncaaaDoorLt
import Derived.Lib.MapLaws
import Derived.Lib.TrimUEq
set_option linter.unusedSimpArgs false
set_option linter.unusedVariables false
set_option maxRecDepth 20000
namespace Go.Proofs.YtggnjahdjmncaaaDoor
open Go.Lib (decodeL decodeN)

theorem decN_facts (n b0 b1 b2 b3 : Nat) : (b0 < 128 → decodeN n b0 b1 b2 b3 = (b0, 1)) ∧ (2 ≤ (decodeN n b0 b1 b2 b3).2 → 128 ≤ b1) ∧ (3 ≤ (decodeN n b0 b1 b2 b3).2 → 128 ≤ b2) ∧ (4 ≤ (decodeN n b0 b1 b2 b3).2 → 128 ≤ b3) ∧ (decodeN n b0 b1 b2 b3).2 ≤ 4 := by
  unfold decodeN
  repeat' split
  all_goals refine ⟨fun h => ?_, fun h => ?_, fun h => ?_, fun h => ?_, ?_⟩
  all_goals first | rfl | omega | (simp only at *; omega)
theorem getD_drop (p : List UInt8) (x k : Nat) : (p.drop x).getD k 0 = p.getD (x + k) 0 := by simp [List.getD, List.getElem?_drop]
theorem dec_bytes (p : List UInt8) (x : Nat) (hx : x < p.length) : 1 ≤ (decodeL (p.drop x)).2 ∧ x + (decodeL (p.drop x)).2 ≤ p.length ∧ ((p.getD x 0).toNat < 128 → decodeL (p.drop x) = ((p.getD x 0).toNat, 1)) ∧ ∀ k, 1 ≤ k → k < (decodeL (p.drop x)).2 → 128 ≤ (p.getD (x + k) 0).toNat := by
  have hne : p.drop x ≠ [] := by intro h; have := congrArg List.length h; simp at this; omega
  have h1 := Lib.decodeL_width (p.drop x)
  have h2 := Lib.decodeL_le (p.drop x) hne
  have e := Lib.decodeL_N (p.drop x)
  simp only [getD_drop] at e
  have f := decN_facts (p.drop x).length (p.getD (x + 0) 0).toNat (p.getD (x + 1) 0).toNat (p.getD (x + 2) 0).toNat (p.getD (x + 3) 0).toNat
  rw [← e] at f
  obtain ⟨f0, f1, f2, f3, f4⟩ := f
  rw [List.length_drop] at h2
  refine ⟨h1, by omega, fun h => f0 h, fun k hk1 hk2 => ?_⟩
  match k, hk1, hk2 with
  | 1, _, hk => exact f1 (by omega)
  | 2, _, hk => exact f2 (by omega)
  | 3, _, hk => exact f3 (by omega)
  | k + 4, _, hk => omega
theorem dec_at (p : List UInt8) (x : Nat) : (rnS p x = ((decodeL (p.drop x)).1 : Int)) ∧ wdS p x = (decodeL (p.drop x)).2 := by
  have := Lib.decodeL_drop ⟨p.toArray⟩ x
  simp only at this
  unfold rnS wdS
  rw [← this]
  exact ⟨rfl, rfl⟩

/-- The spans' search answers always. -/
theorem in_some (r : Int) (l : List T_char_span) (hl : l.length ≤ 9223372036854775807) : ∃ b, F_char_in r l = some b := by
  unfold F_char_in
  simp only [letJ]
  obtain ⟨o, h1, _⟩ := iter_spec (b := F_char_in_l0 r l) (fun i x => x = (i : Int)) (fun _ => True) l.length (x0 := (0 : Int)) rfl
    (fun i x rec hi hx => by
      subst hx
      unfold F_char_in_l0
      rw [decide_eq_true (by omega), cond_true, idx_some hi, Option.bind_some, w64 (by omega) (by omega)]
      cases decide (r ≤ l[i].hi)
      · exact .inl ⟨_, rfl, rfl⟩
      · exact .inr ⟨_, rfl, trivial⟩)
    (fun x rec hx => ⟨_, by
      subst hx
      unfold F_char_in_l0
      rw [decide_eq_false (by omega), cond_false], trivial⟩) (n := FUEL) (by unfold FUEL; omega)
  rw [h1, Option.bind_some]
  cases o <;> exact ⟨_, rfl⟩
theorem in_bind {γ : Type} (r : Int) (k : Bool → Option γ) (hk : ∀ b, ∃ c, k b = some c) (l : List T_char_span) (hl : l.length ≤ 9223372036854775807) : ∃ c, (F_char_in r l).bind k = some c := by
  obtain ⟨b, hb⟩ := in_some r l hl
  rw [hb]; exact hk b
theorem isStart_some (r : Int) : ∃ b, F_char_IsStart r = some b := by
  unfold F_char_IsStart
  cases decide (r < (128 : Int))
  · rw [cond_false]
    exact in_bind r _ (fun b => ⟨_, rfl⟩) _ (by decide)
  · exact ⟨_, rfl⟩
theorem isPart_some (r : Int) : ∃ b, F_char_IsPart r = some b := by
  unfold F_char_IsPart
  obtain ⟨b, hb⟩ := isStart_some r
  rw [hb, Option.bind_some]
  simp only [letJ]
  generalize ((((b || (r == (45 : Int))) || (r == (46 : Int))) || ((decide ((48 : Int) ≤ r)) && (decide (r ≤ (57 : Int))))) || (r == (183 : Int))) = c
  cases c
  · rw [cond_false]
    exact in_bind r _ (fun b => ⟨_, rfl⟩) _ (by decide)
  · exact ⟨_, rfl⟩
theorem isChar_some (r : Int) : ∃ b, F_char_IsChar r = some b := by
  unfold F_char_IsChar
  simp only [letJ]
  generalize (((r == (9 : Int)) || (r == (10 : Int))) || (r == (13 : Int))) = c
  cases c
  · rw [cond_false]
    exact in_bind r _ (fun b => ⟨_, rfl⟩) _ (by decide)
  · exact ⟨_, rfl⟩
theorem part123 : F_char_IsPart 123 = some false := by kernel_rfl

/-- A name's bytes: none is an opening brace. -/
theorem name_some (p : List UInt8) : ∃ b, F_char_Name p = some b ∧ (b = true → p.length ≤ 100 ∧ ∀ c ∈ p, c.toNat ≠ 123) := by
  unfold F_char_Name
  simp only [letJ]
  by_cases hbad : ((p == ([] : List UInt8)) || decide ((100 : Int) < (p.length : Int))) = true
  · rw [hbad]; exact ⟨false, rfl, fun h => by cases h⟩
  have hb' : ((p == ([] : List UInt8)) || decide ((100 : Int) < (p.length : Int))) = false := by simpa using hbad
  have hlen : p.length ≤ 100 := by
    have h := (Bool.or_eq_false_iff.1 hb').2
    have := of_decide_eq_false h
    omega
  rw [hb', cond_false]
  have hv : L_ValidString p = some (Lib.validD p) := by unfold L_ValidString; rw [if_pos (by omega)]
  rw [hv, Option.bind_some]
  cases Lib.validD p
  · exact ⟨false, rfl, fun h => by cases h⟩
  simp only [Bool.not_true, cond_false]
  obtain ⟨o, h1, h2⟩ := iter_spec (b := F_char_Name_l0 p) (fun i x => i ≤ x ∧ x ≤ p.length ∧ ∀ k, k < x → (p.getD k 0).toNat ≠ 123) (fun o => match o with | .inl _ => ∀ k, k < p.length → (p.getD k 0).toNat ≠ 123 | .inr b => b = false) p.length (x0 := (0 : Nat)) ⟨Nat.le_refl _, Nat.zero_le _, fun k hk => by omega⟩
    (fun i x rec hi ⟨hx1, hx2, hx3⟩ => by
      by_cases hxl : x < p.length
      · obtain ⟨d1, d2, d3, d4⟩ := dec_bytes p x hxl
        obtain ⟨e1, e2⟩ := dec_at p x
        obtain ⟨bs, hs⟩ := isStart_some (rnS p x)
        obtain ⟨bp, hp⟩ := isPart_some (rnS p x)
        unfold F_char_Name_l0
        simp only [letJ]
        rw [decide_eq_true hxl, cond_true, hs, hp]
        simp only [Option.bind_some]
        cases bp
        · refine .inr ⟨.inr false, ?_, rfl⟩
          simp only [Bool.not_false, cond_true]
          generalize (((x : Nat) : Int) == (0 : Int)) = c
          cases c <;> cases bs <;> rfl
        · have next : (x + wdS p x) ≤ p.length ∧ ∀ k, k < x + wdS p x → (p.getD k 0).toNat ≠ 123 := by
            rw [e2]
            refine ⟨d2, fun k hk => ?_⟩
            by_cases hkx : k < x
            · exact hx3 k hkx
            · by_cases hk0 : k = x
              · subst hk0
                intro h123
                have := d3 (by omega)
                rw [this] at e1
                simp only [h123] at e1
                rw [e1] at hp
                have := part123.symm.trans hp
                cases this
              · have := d4 (k - x) (by omega) (by omega)
                rw [show x + (k - x) = k by omega] at this
                omega
          have hres : ∀ c : Bool, (cond c (cond (!bs) (cond true (some (.inr false)) (rec (x + wdS p x))) (cond (!true) (some (.inr false)) (rec (x + wdS p x)))) (cond false (cond true (some (.inr false)) (rec (x + wdS p x))) (cond (!true) (some (.inr false)) (rec (x + wdS p x)))) : Option (Unit ⊕ Bool)) = rec (x + wdS p x) ∨ (cond c (cond (!bs) (cond true (some (.inr false)) (rec (x + wdS p x))) (cond (!true) (some (.inr false)) (rec (x + wdS p x)))) (cond false (cond true (some (.inr false)) (rec (x + wdS p x))) (cond (!true) (some (.inr false)) (rec (x + wdS p x)))) : Option (Unit ⊕ Bool)) = some (.inr false) := by
            intro c; cases c <;> cases bs <;> first | exact .inl rfl | exact .inr rfl
          rcases hres (((x : Nat) : Int) == (0 : Int)) with h | h
          · exact .inl ⟨x + wdS p x, h, by rw [e2]; omega, next.1, next.2⟩
          · exact .inr ⟨.inr false, h, rfl⟩
      · refine .inr ⟨.inl (), ?_, fun k hk => hx3 k (by omega)⟩
        unfold F_char_Name_l0
        rw [decide_eq_false hxl, cond_false])
    (fun x rec ⟨hx1, hx2, hx3⟩ => ⟨.inl (), by
      unfold F_char_Name_l0
      rw [decide_eq_false (by omega), cond_false], fun k hk => hx3 k (by omega)⟩) (n := FUEL) (by unfold FUEL; omega)
  rw [h1, Option.bind_some]
  cases o with
  | inl u =>
    refine ⟨true, rfl, fun _ => ⟨hlen, fun c hc => ?_⟩⟩
    obtain ⟨k, hk, e⟩ := List.getElem_of_mem hc
    have := h2 k hk
    simpa [List.getD, hk, e] using this
  | inr b =>
    simp only at h2
    subst h2
    exact ⟨false, rfl, fun h => by cases h⟩
theorem next_some (p : List UInt8) (x : Nat) (hx : x < p.length) (hl : p.length ≤ 1073741824) : ∃ r, F_char_Next p (x : Int) = some r ∧ (r.2.2 = 0 → r.2.1 = ((x + (decodeL (p.drop x)).2 : Nat) : Int)) := by
  obtain ⟨d1, d2, d3, d4⟩ := dec_bytes p x hx
  unfold F_char_Next
  rw [decide_eq_false (by omega), decide_eq_false (by omega)]
  simp only [Bool.or_self, cond_false]
  have hs : slc p (x : Int) (p.length : Int) = some (p.drop x) := by
    unfold slc; rw [if_pos (by omega)]; simp only [Int.toNat_natCast]; rw [List.take_of_length_le (by simp)]
  rw [hs, Option.bind_some]
  have hne : p.drop x ≠ [] := by intro h; have := congrArg List.length h; simp at this; omega
  have hd : L_DecodeRune (p.drop x) = some (((decodeL (p.drop x)).1 : Int), ((decodeL (p.drop x)).2 : Int)) := by
    unfold L_DecodeRune Lib.decodeGo
    rw [if_neg hne, if_neg (by
      show ¬ ((p.drop x).toArray.size = 0)
      simp; omega)]
    rfl
  rw [hd, Option.bind_some]
  obtain ⟨b, hb⟩ := isChar_some ((decodeL (p.drop x)).1 : Int)
  simp only
  cases ((((decodeL (p.drop x)).1 : Int) == (65533 : Int)) && decide (((decodeL (p.drop x)).2 : Int) < (3 : Int)))
  · rw [cond_false, hb, Option.bind_some]
    cases b
    · exact ⟨_, rfl, fun h => by simp at h⟩
    · refine ⟨_, rfl, fun _ => ?_⟩
      simp only
      rw [w64 (by omega) (by omega)]; omega
  · exact ⟨_, rfl, fun h => by simp at h⟩
theorem fault_some (p : List UInt8) (hl : p.length ≤ 1073741824) : ∃ r, F_char_Fault p = some r := by
  unfold F_char_Fault
  simp only [letJ]
  obtain ⟨o, h1, _⟩ := iter_spec (b := F_char_Fault_l0 p) (fun i x => ∃ j : Nat, x = (j : Int) ∧ i ≤ j ∧ j ≤ p.length) (fun _ => True) p.length (x0 := (0 : Int)) ⟨0, rfl, Nat.le_refl _, Nat.zero_le _⟩
    (fun i x rec hi ⟨j, hx, hj1, hj2⟩ => by
      subst hx
      unfold F_char_Fault_l0
      by_cases hjl : j < p.length
      · obtain ⟨r, hr, hn⟩ := next_some p j hjl hl
        obtain ⟨d1, d2, d3, d4⟩ := dec_bytes p j hjl
        rw [decide_eq_true (by omega), cond_true, hr, Option.bind_some]
        by_cases e : r.2.2 = 0
        · rw [show (r.2.2 != (0 : Int)) = false by simpa using e, cond_false]
          exact .inl ⟨_, rfl, _, hn e, by omega, d2⟩
        · rw [show (r.2.2 != (0 : Int)) = true by simpa using e, cond_true]
          exact .inr ⟨_, rfl, trivial⟩
      · rw [decide_eq_false (by omega), cond_false]
        exact .inr ⟨_, rfl, trivial⟩)
    (fun x rec ⟨j, hx, hj1, hj2⟩ => ⟨_, by
      subst hx
      unfold F_char_Fault_l0
      rw [decide_eq_false (by omega), cond_false], trivial⟩) (n := FUEL) (by unfold FUEL; omega)
  rw [h1, Option.bind_some]
  cases o <;> exact ⟨_, rfl⟩
def badS (n : Int) : Bool := (decide (n < (0 : Int))) || (decide ((999999999 : Int) < n))
theorem contains_some (l : List Int) (hl : l.length ≤ 9223372036854775807) : F_slices_ContainsFunc_int_int l F_trail_right_1 = some (l.any badS) := by
  unfold F_slices_ContainsFunc_int_int F_slices_IndexFunc_int_int
  simp only [letJ]
  obtain ⟨o, h1, h2⟩ := iter_spec (b := F_slices_IndexFunc_int_int_l0 l F_trail_right_1) (fun i x => x = (i : Int) ∧ l.any badS = (l.drop i).any badS) (fun o => match o with | .inl _ => l.any badS = false | .inr n => 0 ≤ n ∧ l.any badS = true) l.length (x0 := (0 : Int)) ⟨rfl, by simp⟩
    (fun i x rec hi ⟨hx, hI⟩ => by
      subst hx
      rw [drop_ne hi, List.any_cons] at hI
      unfold F_slices_IndexFunc_int_int_l0
      rw [decide_eq_true (by omega), cond_true, idx_some hi, Option.bind_some, show F_trail_right_1 l[i] = some (badS l[i]) from rfl, Option.bind_some, w64 (by omega) (by omega)]
      cases e : badS l[i]
      · rw [e, Bool.false_or] at hI
        exact .inl ⟨_, rfl, rfl, hI⟩
      · rw [e, Bool.true_or] at hI
        exact .inr ⟨.inr (i : Int), rfl, show (0 : Int) ≤ (i : Int) ∧ _ from ⟨by omega, hI⟩⟩)
    (fun x rec ⟨hx, hI⟩ => ⟨.inl (), by
      subst hx
      unfold F_slices_IndexFunc_int_int_l0
      rw [decide_eq_false (by omega), cond_false], by show l.any badS = false; rw [hI, List.drop_length]; rfl⟩) (n := FUEL) (by unfold FUEL; omega)
  rw [h1, Option.bind_some]
  cases o with
  | inl u => simp only at h2; rw [h2]; rfl
  | inr n =>
    obtain ⟨h3, h4⟩ := h2
    rw [h4]
    show (some n).bind _ = _
    rw [Option.bind_some, decide_eq_true h3]
/-- What a right trail is like. -/
structure Good (p : T_trail_Trail) : Prop where
  len : p.Steps.length ≤ 64
  steps : ∀ n ∈ p.Steps, 0 ≤ n ∧ n ≤ 999999999
  plain : p.Attr = false → p.Name = ⟨[], []⟩
  uri : p.Attr = true → p.Name.URI.length ≤ 100
  loc : p.Attr = true → p.Name.Local.length ≤ 100 ∧ ∀ c ∈ p.Name.Local, c.toNat ≠ 123
theorem right_some (p : T_trail_Trail) (hl : p.Steps.length ≤ 9223372036854775807) (hu : p.Name.URI.length ≤ 1073741824) : ∃ b, F_trail_right p = some b ∧ (b = true → Good p) := by
  unfold F_trail_right
  simp only [letJ]
  by_cases h64 : (64 : Int) < p.Steps.length
  · rw [decide_eq_true h64]; exact ⟨false, rfl, fun h => by cases h⟩
  rw [decide_eq_false h64, cond_false, contains_some _ hl, Option.bind_some]
  cases hany : p.Steps.any badS
  case true => exact ⟨false, rfl, fun h => by cases h⟩
  have hst : ∀ n ∈ p.Steps, 0 ≤ n ∧ n ≤ 999999999 := fun n hn => by
    have := List.any_eq_false.1 hany n hn
    simp only [badS, Bool.or_eq_true, decide_eq_true_eq, not_or] at this
    omega
  simp only [cond_false]
  cases hA : p.Attr
  · refine ⟨_, rfl, fun h => ⟨by omega, hst, fun _ => ?_, fun h => by simp [hA] at h, fun h => by simp [hA] at h⟩⟩
    simp only [Bool.and_true, Bool.and_eq_true, beq_iff_eq] at h
    rcases hp : p.Name with ⟨u, l⟩
    rw [hp] at h
    simp only at h
    rw [h.1, h.2]
  · obtain ⟨r, hr⟩ := fault_some p.Name.URI hu
    obtain ⟨b, hb, hb2⟩ := name_some p.Name.Local
    simp only [Bool.not_true, cond_false]
    rw [hr, Option.bind_some, hb, Option.bind_some]
    refine ⟨_, rfl, fun h => ⟨by omega, hst, fun h => by simp [hA] at h, fun _ => ?_, fun _ => ?_⟩⟩
    · simp only [Bool.and_eq_true, decide_eq_true_eq] at h
      omega
    · simp only [Bool.and_eq_true, decide_eq_true_eq] at h
      exact hb2 h.1.1
end Go.Proofs.YtggnjahdjmncaaaDoor
