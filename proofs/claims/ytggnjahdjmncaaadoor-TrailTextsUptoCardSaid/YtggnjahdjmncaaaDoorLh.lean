/- Right trails: the plain code's answer is the code's (2). No condition. -/
import Derived.Test.YtggnjahdjmncaaaDoorLf
set_option linter.unusedSimpArgs false
set_option linter.unusedVariables false
set_option maxRecDepth 20000
namespace Go.Proofs.YtggnjahdjmncaaaDoor
open Go.Lib (decodeL decodeN)
theorem decN_two (n b0 b1 b2 b3 : Nat) : (decodeN n b0 b1 b2 b3).2 = 2 → (decodeN n b0 b1 b2 b3).1 ≤ 2047 := by
  unfold decodeN
  repeat' split
  all_goals first | (intro h; simp only at h; omega) | (intro _; simp only; omega)
theorem badR_iff (l : List UInt8) (x : Nat) (hx : x < l.length) : ((((decodeL (l.drop x)).1 : Int) == (65533 : Int)) && decide (((decodeL (l.drop x)).2 : Int) < (3 : Int))) = badR (decodeL (l.drop x)) := by
  obtain ⟨d1, _⟩ := dec_bytes l x hx
  have e := Lib.decodeL_N (l.drop x)
  have h2 := decN_two (l.drop x).length ((l.drop x).getD 0 0).toNat ((l.drop x).getD 1 0).toNat ((l.drop x).getD 2 0).toNat ((l.drop x).getD 3 0).toNat
  rw [← e] at h2
  unfold badR
  rw [Bool.eq_iff_iff]
  simp only [Bool.and_eq_true, beq_iff_eq, decide_eq_true_eq]
  omega
theorem F_next (p : List UInt8) (x : Nat) (hx : x < p.length) (hl : p.length ≤ 1073741824) : F_char_Next p (x : Int) = some (if badR (decodeL (p.drop x)) then (0, 0, 20) else if charP (decodeL (p.drop x)).1 then (((decodeL (p.drop x)).1 : Int), ((x + (decodeL (p.drop x)).2 : Nat) : Int), 0) else (0, 0, 21)) := by
  obtain ⟨d1, d2, d3, d4⟩ := dec_bytes p x hx
  unfold F_char_Next
  rw [decide_eq_false (by omega), decide_eq_false (by omega)]
  simp only [Bool.or_self, cond_false]
  have hs : slc p (x : Int) (p.length : Int) = some (p.drop x) := by
    unfold slc; rw [if_pos (by omega)]; simp only [Int.toNat_natCast]; rw [List.take_of_length_le (by simp)]
  rw [hs, Option.bind_some]
  have hne : p.drop x ≠ [] := by intro h; have := congrArg List.length h; simp at this; omega
  have hd : L_DecodeRune (p.drop x) = some (((decodeL (p.drop x)).1 : Int), ((decodeL (p.drop x)).2 : Int)) := by
    unfold L_DecodeRune Lib.decodeGo
    rw [if_neg hne, if_neg (by
      show ¬ ((p.drop x).toArray.size = 0)
      simp; omega)]
    rfl
  rw [hd, Option.bind_some]
  simp only [badR_iff p x hx, F_isChar, Option.bind_some]
  cases badR (decodeL (p.drop x))
  · cases charP ((decodeL (p.drop x)).1 : Int)
    · rfl
    · simp only [cond_false, Bool.not_true, Bool.false_eq_true, if_false, if_true]
      rw [w64 (by omega) (by omega)]; rfl
  · rfl
theorem F_fault (p : List UInt8) (hl : p.length ≤ 1073741824) : F_lecternref01_Fault p = F_char_Fault p := by
  unfold F_lecternref01_Fault F_char_Fault
  simp only [letJ]
  have := iter_congr (b1 := F_lecternref01_Fault_l0 p) (b2 := F_char_Fault_l0 p) (fun x => ∃ j : Nat, x = (j : Int) ∧ j ≤ p.length) (fun rec1 rec2 x ⟨j, hx, hj⟩ hrec => by
    subst hx
    unfold F_lecternref01_Fault_l0 F_char_Fault_l0
    by_cases hjl : j < p.length
    · obtain ⟨d1, d2, d3, d4⟩ := dec_bytes p j hjl
      rw [decide_eq_true (show (j : Int) < (p.length : Int) by omega), cond_true, cond_true, F_read1 p j hjl hl, F_next p j hjl hl, Option.bind_some, Option.bind_some]
      cases badR (decodeL (p.drop j))
      · simp only [Bool.false_eq_true, if_false, F_char1, Option.bind_some]
        have hz : (((decodeL (p.drop j)).2 : Int) == (0 : Int)) = false := by simp only [beq_eq_false_iff_ne, ne_eq]; omega
        rw [hz, cond_false]
        cases charP ((decodeL (p.drop j)).1 : Int)
        · rfl
        · simp only [Bool.not_true, cond_false, if_true, bne_self_eq_false]
          rw [w64 (by omega) (by omega)]
          have := hrec ((j + (decodeL (p.drop j)).2 : Nat) : Int) ⟨_, rfl, d2⟩
          rw [← this]; rfl
      · rfl
    · rw [decide_eq_false (by omega), cond_false, cond_false]) FUEL (0 : Int) ⟨0, rfl, Nat.zero_le _⟩
  rw [this]
/-- Runes that may stand in a name, from a place on. -/
def okN (l : List UInt8) : Nat → Nat → Bool
  | 0, _ => true
  | n + 1, j => if j < l.length then !badR (decodeL (l.drop j)) && (partP (decodeL (l.drop j)).1 && ((!decide (j = 0) || startP (decodeL (l.drop j)).1) && okN l n (j + (decodeL (l.drop j)).2))) else true
theorem okN_valid (l : List UInt8) : ∀ n j, l.length ≤ j + n → okN l n j = true → Lib.validD (l.drop j) = true
  | 0, j, h, _ => by rw [List.drop_of_length_le (by omega)]; rfl
  | n + 1, j, h, hok => by
    by_cases hj : j < l.length
    · obtain ⟨d1, d2, d3, d4⟩ := dec_bytes l j hj
      simp only [okN, if_pos hj, Bool.and_eq_true, Bool.not_eq_true'] at hok
      have hne : l.drop j ≠ [] := by intro h; have := congrArg List.length h; simp at this; omega
      have hb := hok.1
      unfold badR at hb
      rw [Lib.validD_step _ hne, if_neg (of_decide_eq_false hb), List.drop_drop]
      exact okN_valid l n _ (by omega) hok.2.2.2
    · rw [List.drop_of_length_le (by omega)]; rfl
def nameP (l : List UInt8) : Bool := !(decide (l = []) || decide (100 < l.length)) && okN l l.length 0
theorem F_name1 (l : List UInt8) : F_lecternref01_Name l = some (nameP l) := by
  unfold F_lecternref01_Name nameP
  by_cases c : l = [] ∨ 100 < l.length
  · have e1 : (((l.length : Int) == (0 : Int)) || decide ((100 : Int) < (l.length : Int))) = true := by
      simp only [Bool.or_eq_true, beq_iff_eq, decide_eq_true_eq]
      rcases c with rfl | c
      · left; rfl
      · right; omega
    have e2 : (decide (l = []) || decide (100 < l.length)) = true := by simpa using c
    rw [e1, e2]; rfl
  · have hl : l.length ≤ 100 := by omega
    have hne : 0 < l.length := List.length_pos_iff.2 fun h => c (.inl h)
    have e1 : (((l.length : Int) == (0 : Int)) || decide ((100 : Int) < (l.length : Int))) = false := by
      simp only [Bool.or_eq_false_iff, beq_eq_false_iff_ne, decide_eq_false_iff_not]; omega
    have e2 : (decide (l = []) || decide (100 < l.length)) = false := by
      simp only [Bool.or_eq_false_iff, decide_eq_false_iff_not]
      exact ⟨fun h => c (.inl h), by omega⟩
    rw [e1, e2, cond_false, Bool.not_false, Bool.true_and]
    simp only [letJ]
    obtain ⟨o, h1, h2⟩ := iter_spec (b := F_lecternref01_Name_l0 l) (fun i x => ∃ j : Nat, x = (j : Int) ∧ i ≤ j ∧ j ≤ l.length ∧ okN l l.length 0 = okN l (l.length - i) j) (fun o => match o with | .inl _ => okN l l.length 0 = true | .inr b => b = false ∧ okN l l.length 0 = false) l.length (x0 := (0 : Int)) ⟨0, rfl, Nat.le_refl _, Nat.zero_le _, rfl⟩
      (fun i x rec hi ⟨j, hx, hij, hjl, hI⟩ => by
        subst hx
        have es : l.length - i = (l.length - (i + 1)) + 1 := by omega
        rw [es, okN] at hI
        unfold F_lecternref01_Name_l0
        by_cases hj : j < l.length
        · obtain ⟨d1, d2, d3, d4⟩ := dec_bytes l j hj
          rw [if_pos hj] at hI
          simp only [letJ]
          rw [decide_eq_true (show (j : Int) < (l.length : Int) by omega), cond_true, F_read1 l j hj (by omega), Option.bind_some]
          cases hb : badR (decodeL (l.drop j))
          · rw [hb] at hI
            simp only [Bool.false_eq_true, if_false, F_part1, F_start1, Option.bind_some]
            have hz : (((decodeL (l.drop j)).2 : Int) == (0 : Int)) = false := by simp only [beq_eq_false_iff_ne, ne_eq]; omega
            rw [hz, cond_false]
            cases hp : partP ((decodeL (l.drop j)).1 : Int)
            · rw [hp] at hI
              exact .inr ⟨.inr false, rfl, rfl, by simpa using hI⟩
            · rw [hp] at hI
              simp only [Bool.not_true, cond_false]
              have ez : ((j : Int) == (0 : Int)) = decide (j = 0) := by
                rw [Bool.eq_iff_iff]; simp only [beq_iff_eq, decide_eq_true_eq]; omega
              rw [ez, w64 (by omega) (by omega)]
              cases hd0 : decide (j = 0)
              · rw [hd0] at hI
                exact .inl ⟨((j + (decodeL (l.drop j)).2 : Nat) : Int), rfl, _, rfl, by omega, d2, by simpa using hI⟩
              · rw [hd0] at hI
                cases hs : startP ((decodeL (l.drop j)).1 : Int)
                · rw [hs] at hI
                  exact .inr ⟨.inr false, rfl, rfl, by simpa using hI⟩
                · rw [hs] at hI
                  exact .inl ⟨((j + (decodeL (l.drop j)).2 : Nat) : Int), rfl, _, rfl, by omega, d2, by simpa using hI⟩
          · rw [hb] at hI
            exact .inr ⟨.inr false, rfl, rfl, by simpa using hI⟩
        · rw [if_neg hj] at hI
          rw [decide_eq_false (by omega), cond_false]
          exact .inr ⟨.inl (), rfl, hI⟩)
      (fun x rec ⟨j, hx, hij, hjl, hI⟩ => ⟨.inl (), by
        subst hx
        unfold F_lecternref01_Name_l0
        rw [decide_eq_false (by omega), cond_false], by show okN l l.length 0 = true; rw [hI, Nat.sub_self]; rfl⟩) (n := FUEL) (by unfold FUEL; omega)
    rw [h1, Option.bind_some]
    cases o with
    | inl u => simp only at h2; rw [h2]
    | inr b => obtain ⟨rfl, h3⟩ := h2; rw [h3]
theorem F_nameC (l : List UInt8) : F_char_Name l = some (nameP l) := by
  unfold F_char_Name nameP
  simp only [letJ]
  by_cases c : l = [] ∨ 100 < l.length
  · have e1 : ((l == ([] : List UInt8)) || decide ((100 : Int) < (l.length : Int))) = true := by
      simp only [Bool.or_eq_true, beq_iff_eq, decide_eq_true_eq]
      rcases c with rfl | c
      · left; rfl
      · right; omega
    have e2 : (decide (l = []) || decide (100 < l.length)) = true := by simpa using c
    rw [e1, e2]; rfl
  · have hl : l.length ≤ 100 := by omega
    have hne : 0 < l.length := List.length_pos_iff.2 fun h => c (.inl h)
    have e1 : ((l == ([] : List UInt8)) || decide ((100 : Int) < (l.length : Int))) = false := by
      simp only [Bool.or_eq_false_iff, beq_eq_false_iff_ne, decide_eq_false_iff_not]
      exact ⟨fun h => c (.inl h), by omega⟩
    have e2 : (decide (l = []) || decide (100 < l.length)) = false := by
      simp only [Bool.or_eq_false_iff, decide_eq_false_iff_not]
      exact ⟨fun h => c (.inl h), by omega⟩
    rw [e1, e2, cond_false, Bool.not_false, Bool.true_and]
    have hv : L_ValidString l = some (Lib.validD l) := by unfold L_ValidString; rw [if_pos (by omega)]
    rw [hv, Option.bind_some]
    cases hval : Lib.validD l
    · have : okN l l.length 0 = false := by
        cases hok : okN l l.length 0
        · rfl
        · have := okN_valid l l.length 0 (by omega) hok
          rw [List.drop_zero, hval] at this; cases this
      rw [this]; rfl
    simp only [Bool.not_true, cond_false]
    obtain ⟨o, h1, h2⟩ := iter_spec (b := F_char_Name_l0 l) (fun i x => i ≤ x ∧ x ≤ l.length ∧ okN l l.length 0 = okN l (l.length - i) x ∧ Lib.validD (l.drop x) = true) (fun o => match o with | .inl _ => okN l l.length 0 = true | .inr b => b = false ∧ okN l l.length 0 = false) l.length (x0 := (0 : Nat)) ⟨Nat.le_refl _, Nat.zero_le _, rfl, by simpa using hval⟩
      (fun i j rec hi ⟨hij, hjl, hI, hV⟩ => by
        have es : l.length - i = (l.length - (i + 1)) + 1 := by omega
        rw [es, okN] at hI
        unfold F_char_Name_l0
        by_cases hj : j < l.length
        · obtain ⟨d1, d2, d3, d4⟩ := dec_bytes l j hj
          obtain ⟨r1, r2⟩ := dec_at l j
          have hne : l.drop j ≠ [] := by intro h; have := congrArg List.length h; simp at this; omega
          rw [Lib.validD_step _ hne] at hV
          have hb : badR (decodeL (l.drop j)) = false := by
            unfold badR
            apply decide_eq_false
            intro h; rw [if_pos h] at hV; cases hV
          rw [if_neg (of_decide_eq_false hb), List.drop_drop] at hV
          rw [if_pos hj, hb] at hI
          simp only [letJ]
          rw [decide_eq_true hj, cond_true]
          simp only [r1, r2, F_isPart, F_isStart, Option.bind_some]
          have ez : (((j : Nat) : Int) == (0 : Int)) = decide (j = 0) := by
            rw [Bool.eq_iff_iff]; simp only [beq_iff_eq, decide_eq_true_eq]; omega
          rw [ez]
          cases hp : partP ((decodeL (l.drop j)).1 : Int)
          · rw [hp] at hI
            refine .inr ⟨.inr false, ?_, rfl, by simpa using hI⟩
            cases decide (j = 0) <;> cases startP ((decodeL (l.drop j)).1 : Int) <;> rfl
          · rw [hp] at hI
            cases hd0 : decide (j = 0)
            · rw [hd0] at hI
              exact .inl ⟨j + (decodeL (l.drop j)).2, rfl, by omega, d2, by simpa using hI, hV⟩
            · rw [hd0] at hI
              cases hs : startP ((decodeL (l.drop j)).1 : Int)
              · rw [hs] at hI
                exact .inr ⟨.inr false, rfl, rfl, by simpa using hI⟩
              · rw [hs] at hI
                exact .inl ⟨j + (decodeL (l.drop j)).2, rfl, by omega, d2, by simpa using hI, hV⟩
        · rw [if_neg hj] at hI
          rw [decide_eq_false hj, cond_false]
          exact .inr ⟨.inl (), rfl, hI⟩)
      (fun j rec ⟨hij, hjl, hI, hV⟩ => ⟨.inl (), by
        unfold F_char_Name_l0
        rw [decide_eq_false (by omega), cond_false], by show okN l l.length 0 = true; rw [hI, Nat.sub_self]; rfl⟩) (n := FUEL) (by unfold FUEL; omega)
    rw [h1, Option.bind_some]
    cases o with
    | inl u => simp only at h2; rw [h2]
    | inr b => obtain ⟨rfl, h3⟩ := h2; rw [h3]
theorem F_right8 (p : T_trail_Trail) (hl : p.Steps.length ≤ 9223372036854775807) (hu : p.Name.URI.length ≤ 1073741824) : F_lecternref08_Right p = F_trail_right p := by
  unfold F_lecternref08_Right F_trail_right
  simp only [letJ]
  by_cases h64 : (64 : Int) < p.Steps.length
  · rw [decide_eq_true h64]; rfl
  rw [decide_eq_false h64, cond_false, cond_false, contains_some _ hl, Option.bind_some]
  obtain ⟨o, h1, h2⟩ := iter_spec (b := F_lecternref08_Right_l0 p) (fun i x => x = (i : Int) ∧ p.Steps.any badS = (p.Steps.drop i).any badS) (fun o => match o with | .inl _ => p.Steps.any badS = false | .inr b => b = false ∧ p.Steps.any badS = true) p.Steps.length (x0 := (0 : Int)) ⟨rfl, by simp⟩
    (fun i x rec hi ⟨hx, hI⟩ => by
      subst hx
      rw [drop_ne hi, List.any_cons] at hI
      unfold F_lecternref08_Right_l0
      rw [decide_eq_true (by omega), cond_true, idx_some hi, Option.bind_some, w64 (by omega) (by omega), show ((decide (p.Steps[i] < (0 : Int))) || (decide ((999999999 : Int) < p.Steps[i]))) = badS p.Steps[i] from rfl]
      cases e : badS p.Steps[i]
      · rw [e, Bool.false_or] at hI
        exact .inl ⟨_, rfl, rfl, hI⟩
      · rw [e, Bool.true_or] at hI
        exact .inr ⟨.inr false, rfl, rfl, hI⟩)
    (fun x rec ⟨hx, hI⟩ => ⟨.inl (), by
      subst hx
      unfold F_lecternref08_Right_l0
      rw [decide_eq_false (by omega), cond_false], by show p.Steps.any badS = false; rw [hI, List.drop_length]; rfl⟩) (n := FUEL) (by unfold FUEL; omega)
  rw [h1, Option.bind_some]
  cases o with
  | inr b => obtain ⟨rfl, h3⟩ := h2; rw [h3]; rfl
  | inl u =>
    simp only at h2
    rw [h2, F_fault _ hu, F_name1, F_nameC]; rfl
end Go.Proofs.YtggnjahdjmncaaaDoor
