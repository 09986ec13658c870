/- Trails read by the plain code: the loops. No condition. -/
import Derived.Test.YtggnjahdjmncaaaDoorLs
set_option linter.unusedSimpArgs false
set_option linter.unusedVariables false
set_option maxRecDepth 20000
namespace Go.Proofs.YtggnjahdjmncaaaDoor
open Go.Lib (decDigits itoa decFrom digitVal)
def isD (s : List UInt8) (j : Nat) : Prop := j < s.length ∧ 48 ≤ bt s j ∧ bt s j ≤ 57
theorem take_snoc {α : Type} {l : List α} {k : Nat} {c : α} (h : l[k]? = some c) : l.take (k + 1) = l.take k ++ [c] := by
  rw [List.take_add_one, h]; rfl
theorem getD_get {s : List UInt8} {j : Nat} (h : j < s.length) : s[j]? = some (s.getD j 0) := by simp [List.getD, h]
/-- The digits behind a stroke. -/
theorem inner (s : List UInt8) (i : Nat) (hi : i + 1 < s.length) (hl : s.length ≤ 1048576) :
    ∃ (k n : Nat), iter (F_lecternref08_Read_l1 s (i : Int)) FUEL (((i + 1 : Nat) : Int), (0 : Int)) = some (((i + 1 + k : Nat) : Int), (n : Int)) ∧ k ≤ 9 ∧ i + 1 + k ≤ s.length ∧ (∀ t, t < k → isD s (i + 1 + t)) ∧ decFrom 0 ((s.drop (i + 1)).take k) = some n ∧ n < 10 ^ k ∧ (k = 9 ∨ ¬ isD s (i + 1 + k)) := by
  obtain ⟨o, h1, h2⟩ := iter_spec (b := F_lecternref08_Read_l1 s (i : Int)) (fun k x => ∃ n : Nat, x = (((i + 1 + k : Nat) : Int), (n : Int)) ∧ i + 1 + k ≤ s.length ∧ (∀ t, t < k → isD s (i + 1 + t)) ∧ decFrom 0 ((s.drop (i + 1)).take k) = some n ∧ n < 10 ^ k)
    (fun o => ∃ (k n : Nat), o = (((i + 1 + k : Nat) : Int), (n : Int)) ∧ k ≤ 9 ∧ i + 1 + k ≤ s.length ∧ (∀ t, t < k → isD s (i + 1 + t)) ∧ decFrom 0 ((s.drop (i + 1)).take k) = some n ∧ n < 10 ^ k ∧ (k = 9 ∨ ¬ isD s (i + 1 + k))) 9
    (x0 := (((i + 1 : Nat) : Int), (0 : Int))) ⟨0, rfl, by omega, fun t ht => by omega, rfl, by simp⟩
    (fun k x rec hk ⟨n, hx, hkl, hd, hn, hp⟩ => by
      subst hx
      have hp9 : n < 1000000000 := Nat.lt_of_lt_of_le hp (by
        have : (10 : Nat) ^ k ≤ 10 ^ 9 := Nat.pow_le_pow_right (by omega) (by omega)
        simpa using this)
      unfold F_lecternref08_Read_l1
      simp only [letJ]
      by_cases hj : i + 1 + k < s.length
      · have hb := bt_lt s (i + 1 + k)
        have e : (((s.getD (i + 1 + k) 0).toNat : Nat) : Int) = (bt s (i + 1 + k) : Int) := rfl
        rw [w64 (x := ((i + 1 + k : Nat) : Int) - (i : Int)) (by omega) (by omega), decide_eq_true (show ((i + 1 + k : Nat) : Int) < (s.length : Int) by omega), decide_eq_true (show ((i + 1 + k : Nat) : Int) - (i : Int) ≤ 9 by omega), Bool.and_self, cond_true, idx_bt hj]
        simp only [Option.bind_some, e]
        by_cases c1 : 48 ≤ bt s (i + 1 + k)
        · rw [decide_eq_true (show (48 : Int) ≤ (bt s (i + 1 + k) : Int) by omega), cond_true]
          by_cases c2 : bt s (i + 1 + k) ≤ 57
          · rw [decide_eq_true (show (bt s (i + 1 + k) : Int) ≤ 57 by omega), cond_true, wu8 (by omega) (by omega), w64 (x := (bt s (i + 1 + k) : Int) - 48) (by omega) (by omega), w64 (x := ((i + 1 + k : Nat) : Int) + 1) (by omega) (by omega), w64 (x := (10 : Int) * (n : Int)) (by omega) (by omega), w64 (by omega) (by omega)]
            refine .inl ⟨(((i + 1 + (k + 1) : Nat) : Int), ((n * 10 + (bt s (i + 1 + k) - 48) : Nat) : Int)), ?_, _, rfl, by omega, fun t ht => ?_, ?_, ?_⟩
            · congr 2; omega
            · by_cases htk : t < k
              · exact hd t htk
              · have : t = k := by omega
                subst this
                exact ⟨hj, c1, c2⟩
            · have hg : (s.drop (i + 1))[k]? = some (s.getD (i + 1 + k) 0) := by rw [List.getElem?_drop]; exact getD_get hj
              rw [take_snoc hg, decFrom_append, hn, Option.bind_some]
              have hv : digitVal (s.getD (i + 1 + k) 0) = some (bt s (i + 1 + k) - 48) := by unfold Lib.digitVal; rw [if_pos ⟨c1, c2⟩]
              simp only [Lib.decFrom, hv]
            · rw [Nat.pow_succ]; omega
          · rw [decide_eq_false (show ¬ (bt s (i + 1 + k) : Int) ≤ 57 by omega), cond_false]
            exact .inr ⟨_, rfl, k, n, rfl, by omega, by omega, hd, hn, hp, .inr fun h => c2 h.2.2⟩
        · rw [decide_eq_false (show ¬ (48 : Int) ≤ (bt s (i + 1 + k) : Int) by omega), cond_false, cond_false]
          exact .inr ⟨_, rfl, k, n, rfl, by omega, by omega, hd, hn, hp, .inr fun h => c1 h.2.1⟩
      · rw [decide_eq_false (show ¬ ((i + 1 + k : Nat) : Int) < (s.length : Int) by omega), Bool.false_and, cond_false, cond_false, cond_false]
        exact .inr ⟨_, rfl, k, n, rfl, by omega, by omega, hd, hn, hp, .inr fun h => hj h.1⟩)
    (fun x rec ⟨n, hx, hkl, hd, hn, hp⟩ => ⟨x, by
      subst hx
      unfold F_lecternref08_Read_l1
      simp only [letJ]
      rw [w64 (x := ((i + 1 + 9 : Nat) : Int) - (i : Int)) (by omega) (by omega), decide_eq_false (show ¬ ((i + 1 + 9 : Nat) : Int) - (i : Int) ≤ 9 by omega), Bool.and_false, cond_false, cond_false, cond_false], 9, n, hx, by omega, hkl, hd, hn, hp, .inl rfl⟩) (n := FUEL) (by unfold FUEL; omega)
  obtain ⟨k, n, rfl, h3⟩ := h2
  exact ⟨k, n, h1, h3⟩
theorem stepsT_append (l m : List Int) : stepsT (l ++ m) = stepsT l ++ stepsT m := by simp [stepsT]
/-- A run of digits behind a stroke, within a shown trail. -/
theorem run_eq (s : List UInt8) (i k n : Nat) (m : Int) (w : List UInt8) (hs : s.drop i = 47 :: (itoa m ++ w)) (hw : w = [] ∨ ∃ w', w = 47 :: w') (h0 : 0 ≤ m) (h1 : m ≤ 999999999)
    (hk9 : k ≤ 9) (hkl : i + 1 + k ≤ s.length) (hd : ∀ t, t < k → isD s (i + 1 + t)) (hn : decFrom 0 ((s.drop (i + 1)).take k) = some n) (hend : k = 9 ∨ ¬ isD s (i + 1 + k)) : k = (itoa m).length ∧ (n : Int) = m := by
  have hdrop : s.drop (i + 1) = itoa m ++ w := by
    have := congrArg (List.drop 1) hs
    rw [List.drop_drop] at this
    rw [this]; rfl
  have hil := itoa_len h0 h1
  have hib := itoa_bytes h0
  have hat : ∀ t, s.getD (i + 1 + t) 0 = (itoa m ++ w).getD t 0 := fun t => by rw [← hdrop, getD_drop]
  have hslen : s.length = i + 1 + (itoa m).length + w.length := by
    have h2 := congrArg List.length hs
    simp only [List.length_drop, List.length_cons, List.length_append] at h2
    omega
  have hk : k = (itoa m).length := by
    rcases Nat.lt_trichotomy k (itoa m).length with h | h | h
    · exfalso
      rcases hend with e | e
      · omega
      · apply e
        refine ⟨by omega, ?_⟩
        have : bt s (i + 1 + k) = ((itoa m)[k]'h).toNat := by
          show (s.getD (i + 1 + k) 0).toNat = _
          rw [hat]
          simp only [List.getD]
          rw [List.getElem?_append_left h, List.getElem?_eq_getElem h]; rfl
        rw [this]
        exact hib _ (List.getElem_mem h)
    · exact h
    · exfalso
      obtain ⟨d1, d2, d3⟩ := hd (itoa m).length h
      rcases hw with rfl | ⟨w', rfl⟩
      · simp at hslen; omega
      · have : bt s (i + 1 + (itoa m).length) = 47 := by
          show (s.getD (i + 1 + (itoa m).length) 0).toNat = _
          rw [hat]
          simp [List.getD]
        omega
  refine ⟨hk, ?_⟩
  rw [hdrop, hk, List.take_left', itoa_nat m h0, digits_read _ _ (Nat.lt_succ_self _)] at hn
  · have := Option.some.inj hn; omega
  · rfl
end Go.Proofs.YtggnjahdjmncaaaDoor
