/- The plain code's reading of UTF-8, faults and names: the same as the library's. No condition. -/
import Derived.Test.YtggnjahdjmncaaaDoorLd
set_option linter.unusedSimpArgs false
set_option linter.unusedVariables false
set_option maxRecDepth 20000
namespace Go.Proofs.YtggnjahdjmncaaaDoor
open Go.Lib (decodeL decodeN)
abbrev bt (l : List UInt8) (k : Nat) : Nat := (l.getD k 0).toNat
theorem bt_lt (l : List UInt8) (k : Nat) : bt l k < 256 := (l.getD k 0).toNat_lt
theorem idx_bt {l : List UInt8} {k : Nat} (h : k < l.length) : idx l (k : Int) = some (l.getD k 0) := by
  rw [idx_some h]; simp [List.getD, h]
theorem loop_step (l : List UInt8) (i k : Nat) (n : Int) (rec : Int × Int → Option (Int ⊕ (Int × Int))) (r : Int) (hk : (k : Int) < n) (hik : i + k < l.length) (hl : l.length ≤ 1073741824) (hr0 : 0 ≤ r) (hr1 : r ≤ 1073741824) :
    F_lecternref01_Read_l0 l (i : Int) n rec (r, (k : Int)) = if bt l (i + k) < 128 ∨ 191 < bt l (i + k) then some (.inr ((0 : Int), (0 : Int))) else rec (64 * r + (bt l (i + k) : Int) - 128, ((k + 1 : Nat) : Int)) := by
  have hb := bt_lt l (i + k)
  unfold F_lecternref01_Read_l0
  simp only
  rw [decide_eq_true hk, cond_true, w64 (x := (i : Int) + (k : Int)) (by omega) (by omega), show ((i : Int) + (k : Int)) = ((i + k : Nat) : Int) by omega, idx_bt hik, Option.bind_some]
  have e : (((l.getD (i + k) 0).toNat : Nat) : Int) = (bt l (i + k) : Int) := rfl
  rw [e, w64 (x := (bt l (i + k) : Int)) (by omega) (by omega)]
  by_cases c : bt l (i + k) < 128 ∨ 191 < bt l (i + k)
  · rw [if_pos c]
    have : (decide ((bt l (i + k) : Int) < (128 : Int)) || decide ((191 : Int) < (bt l (i + k) : Int))) = true := by simp only [Bool.or_eq_true, decide_eq_true_eq]; omega
    rw [this, cond_true]
  · rw [if_neg c]
    have : (decide ((bt l (i + k) : Int) < (128 : Int)) || decide ((191 : Int) < (bt l (i + k) : Int))) = false := by simp only [Bool.or_eq_false_iff, decide_eq_false_iff_not]; omega
    rw [this, cond_false, w64 (x := (64 : Int) * r) (by omega) (by omega), w64 (x := (64 : Int) * r + (bt l (i + k) : Int)) (by omega) (by omega), w64 (x := (64 : Int) * r + (bt l (i + k) : Int) - 128) (by omega) (by omega), w64 (x := (k : Int) + 1) (by omega) (by omega)]; rfl
theorem loop_end (l : List UInt8) (i : Int) (n : Int) (rec : Int × Int → Option (Int ⊕ (Int × Int))) (r : Int) : F_lecternref01_Read_l0 l i n rec (r, n) = some (.inl r) := by
  unfold F_lecternref01_Read_l0
  simp only
  rw [decide_eq_false (by omega), cond_false]
theorem loop2 (l : List UInt8) (i : Nat) (r : Int) (hik : i + 2 ≤ l.length) (hl : l.length ≤ 1073741824) (hr0 : 0 ≤ r) (hr1 : r ≤ 1000) :
    iter (F_lecternref01_Read_l0 l (i : Int) 2) FUEL (r, 1) = some (if bt l (i + 1) < 128 ∨ 191 < bt l (i + 1) then .inr (0, 0) else .inl (64 * r + (bt l (i + 1) : Int) - 128)) := by
  have key : ∀ N, iter (F_lecternref01_Read_l0 l (i : Int) 2) (N + 2) (r, ((1 : Nat) : Int)) = some (if bt l (i + 1) < 128 ∨ 191 < bt l (i + 1) then .inr (0, 0) else .inl (64 * r + (bt l (i + 1) : Int) - 128)) := fun N => by
    show F_lecternref01_Read_l0 l (i : Int) 2 (iter _ (N + 1)) (r, ((1 : Nat) : Int)) = _
    rw [loop_step l i 1 2 _ r (by omega) (by omega) hl hr0 (by omega)]
    split
    · rfl
    · show F_lecternref01_Read_l0 l (i : Int) 2 (iter _ N) (_, 2) = _
      rw [loop_end]
  rw [show FUEL = 18446744073709551614 + 2 from rfl]; exact key _
theorem loop3 (l : List UInt8) (i : Nat) (r : Int) (hik : i + 3 ≤ l.length) (hl : l.length ≤ 1073741824) (hr0 : 0 ≤ r) (hr1 : r ≤ 1000) :
    iter (F_lecternref01_Read_l0 l (i : Int) 3) FUEL (r, 1) = some (if bt l (i + 1) < 128 ∨ 191 < bt l (i + 1) then .inr (0, 0) else if bt l (i + 2) < 128 ∨ 191 < bt l (i + 2) then .inr (0, 0) else .inl (64 * (64 * r + (bt l (i + 1) : Int) - 128) + (bt l (i + 2) : Int) - 128)) := by
  have h1 := bt_lt l (i + 1)
  have key : ∀ N, iter (F_lecternref01_Read_l0 l (i : Int) 3) (N + 3) (r, ((1 : Nat) : Int)) = some (if bt l (i + 1) < 128 ∨ 191 < bt l (i + 1) then .inr (0, 0) else if bt l (i + 2) < 128 ∨ 191 < bt l (i + 2) then .inr (0, 0) else .inl (64 * (64 * r + (bt l (i + 1) : Int) - 128) + (bt l (i + 2) : Int) - 128)) := fun N => by
    show F_lecternref01_Read_l0 l (i : Int) 3 (iter _ (N + 2)) (r, ((1 : Nat) : Int)) = _
    rw [loop_step l i 1 3 _ r (by omega) (by omega) hl hr0 (by omega)]
    split
    · rfl
    · rename_i c
      show F_lecternref01_Read_l0 l (i : Int) 3 (iter _ (N + 1)) (_, ((2 : Nat) : Int)) = _
      rw [loop_step l i 2 3 _ _ (by omega) (by omega) hl (by omega) (by omega)]
      split
      · rfl
      · show F_lecternref01_Read_l0 l (i : Int) 3 (iter _ N) (_, 3) = _
        rw [loop_end]
  rw [show FUEL = 18446744073709551613 + 3 from rfl]; exact key _
theorem loop4 (l : List UInt8) (i : Nat) (r : Int) (hik : i + 4 ≤ l.length) (hl : l.length ≤ 1073741824) (hr0 : 0 ≤ r) (hr1 : r ≤ 1000) :
    iter (F_lecternref01_Read_l0 l (i : Int) 4) FUEL (r, 1) = some (if bt l (i + 1) < 128 ∨ 191 < bt l (i + 1) then .inr (0, 0) else if bt l (i + 2) < 128 ∨ 191 < bt l (i + 2) then .inr (0, 0) else if bt l (i + 3) < 128 ∨ 191 < bt l (i + 3) then .inr (0, 0) else .inl (64 * (64 * (64 * r + (bt l (i + 1) : Int) - 128) + (bt l (i + 2) : Int) - 128) + (bt l (i + 3) : Int) - 128)) := by
  have h1 := bt_lt l (i + 1)
  have h2 := bt_lt l (i + 2)
  have key : ∀ N, iter (F_lecternref01_Read_l0 l (i : Int) 4) (N + 4) (r, ((1 : Nat) : Int)) = some (if bt l (i + 1) < 128 ∨ 191 < bt l (i + 1) then .inr (0, 0) else if bt l (i + 2) < 128 ∨ 191 < bt l (i + 2) then .inr (0, 0) else if bt l (i + 3) < 128 ∨ 191 < bt l (i + 3) then .inr (0, 0) else .inl (64 * (64 * (64 * r + (bt l (i + 1) : Int) - 128) + (bt l (i + 2) : Int) - 128) + (bt l (i + 3) : Int) - 128)) := fun N => by
    show F_lecternref01_Read_l0 l (i : Int) 4 (iter _ (N + 3)) (r, ((1 : Nat) : Int)) = _
    rw [loop_step l i 1 4 _ r (by omega) (by omega) hl hr0 (by omega)]
    split
    · rfl
    · rename_i c
      show F_lecternref01_Read_l0 l (i : Int) 4 (iter _ (N + 2)) (_, ((2 : Nat) : Int)) = _
      rw [loop_step l i 2 4 _ _ (by omega) (by omega) hl (by omega) (by omega)]
      split
      · rfl
      · rename_i c2
        show F_lecternref01_Read_l0 l (i : Int) 4 (iter _ (N + 1)) (_, ((3 : Nat) : Int)) = _
        rw [loop_step l i 3 4 _ _ (by omega) (by omega) hl (by omega) (by omega)]
        split
        · rfl
        · show F_lecternref01_Read_l0 l (i : Int) 4 (iter _ N) (_, 4) = _
          rw [loop_end]
  rw [show FUEL = 18446744073709551612 + 4 from rfl]; exact key _
theorem bad3 {r least : Int} : (((decide (r < least)) || (decide ((1114111 : Int) < r))) || ((decide ((55296 : Int) ≤ r)) && (decide (r ≤ (57343 : Int))))) = decide ((r < least ∨ 1114111 < r) ∨ (55296 ≤ r ∧ r ≤ 57343)) := by
  simp only [Bool.decide_or, Bool.decide_and]
theorem F_readN (l : List UInt8) (i : Nat) (hi : i < l.length) (hl : l.length ≤ 1073741824) : F_lecternref01_Read l (i : Int) = some (readN (l.length - i) (bt l i) (bt l (i + 1)) (bt l (i + 2)) (bt l (i + 3))) := by
  have h0 := bt_lt l i
  unfold F_lecternref01_Read
  rw [idx_bt hi, Option.bind_some]
  have e : (((l.getD i 0).toNat : Nat) : Int) = (bt l i : Int) := rfl
  simp only [e, letJ, bad3]
  rw [w64 (x := (bt l i : Int)) (by omega) (by omega)]
  unfold readN
  by_cases c0 : bt l i < 128
  · rw [if_pos c0, decide_eq_true (by omega), cond_true]
  rw [if_neg c0, decide_eq_false (show ¬ ((bt l i : Int) < 128) by omega), cond_false]
  by_cases c2 : 192 ≤ bt l i ∧ bt l i < 224
  · rw [if_pos c2, decide_eq_true (show (192 : Int) ≤ (bt l i : Int) by omega), decide_eq_true (show (bt l i : Int) < 224 by omega), Bool.and_self, cond_true, w64 (x := (i : Int) + 2) (by omega) (by omega)]
    by_cases g : l.length - i < 2
    · rw [if_pos g, decide_eq_true (show (l.length : Int) < (i : Int) + 2 by omega), cond_true]
    · rw [if_neg g, decide_eq_false (show ¬ ((l.length : Int) < (i : Int) + 2) by omega), cond_false, w64 (x := (bt l i : Int) - 192) (by omega) (by omega), loop2 l i _ (by omega) hl (by omega) (by omega), Option.bind_some]
      by_cases f1 : bt l (i + 1) < 128 ∨ 191 < bt l (i + 1)
      · rw [if_pos f1, if_pos f1]
      · rw [if_neg f1, if_neg f1]
        simp only
        split
        · rename_i hh; rw [decide_eq_true hh, cond_true]
        · rename_i hh; rw [decide_eq_false hh, cond_false]
  rw [if_neg c2, show (decide ((192 : Int) ≤ (bt l i : Int)) && decide ((bt l i : Int) < 224)) = false by simp only [Bool.and_eq_false_iff, decide_eq_false_iff_not]; omega, cond_false]
  by_cases c3 : 224 ≤ bt l i ∧ bt l i < 240
  · rw [if_pos c3, decide_eq_true (show (224 : Int) ≤ (bt l i : Int) by omega), decide_eq_true (show (bt l i : Int) < 240 by omega), Bool.and_self, cond_true, w64 (x := (i : Int) + 3) (by omega) (by omega)]
    by_cases g : l.length - i < 3
    · rw [if_pos g, decide_eq_true (show (l.length : Int) < (i : Int) + 3 by omega), cond_true]
    · rw [if_neg g, decide_eq_false (show ¬ ((l.length : Int) < (i : Int) + 3) by omega), cond_false, w64 (x := (bt l i : Int) - 224) (by omega) (by omega), loop3 l i _ (by omega) hl (by omega) (by omega), Option.bind_some]
      by_cases f1 : bt l (i + 1) < 128 ∨ 191 < bt l (i + 1)
      · rw [if_pos f1, if_pos f1]
      · rw [if_neg f1, if_neg f1]
        by_cases f2 : bt l (i + 2) < 128 ∨ 191 < bt l (i + 2)
        · rw [if_pos f2, if_pos f2]
        · rw [if_neg f2, if_neg f2]
          simp only
          split
          · rename_i hh; rw [decide_eq_true hh, cond_true]
          · rename_i hh; rw [decide_eq_false hh, cond_false]
  rw [if_neg c3, show (decide ((224 : Int) ≤ (bt l i : Int)) && decide ((bt l i : Int) < 240)) = false by simp only [Bool.and_eq_false_iff, decide_eq_false_iff_not]; omega, cond_false]
  by_cases c4 : 240 ≤ bt l i ∧ bt l i < 248
  · rw [if_pos c4, decide_eq_true (show (240 : Int) ≤ (bt l i : Int) by omega), decide_eq_true (show (bt l i : Int) < 248 by omega), Bool.and_self, cond_true, w64 (x := (i : Int) + 4) (by omega) (by omega)]
    by_cases g : l.length - i < 4
    · rw [if_pos g, decide_eq_true (show (l.length : Int) < (i : Int) + 4 by omega), cond_true]
    · rw [if_neg g, decide_eq_false (show ¬ ((l.length : Int) < (i : Int) + 4) by omega), cond_false, w64 (x := (bt l i : Int) - 240) (by omega) (by omega), loop4 l i _ (by omega) hl (by omega) (by omega), Option.bind_some]
      by_cases f1 : bt l (i + 1) < 128 ∨ 191 < bt l (i + 1)
      · rw [if_pos f1, if_pos f1]
      · rw [if_neg f1, if_neg f1]
        by_cases f2 : bt l (i + 2) < 128 ∨ 191 < bt l (i + 2)
        · rw [if_pos f2, if_pos f2]
        · rw [if_neg f2, if_neg f2]
          by_cases f3 : bt l (i + 3) < 128 ∨ 191 < bt l (i + 3)
          · rw [if_pos f3, if_pos f3]
          · rw [if_neg f3, if_neg f3]
            simp only
            split
            · rename_i hh; rw [decide_eq_true hh, cond_true]
            · rename_i hh; rw [decide_eq_false hh, cond_false]
  rw [if_neg c4, show (decide ((240 : Int) ≤ (bt l i : Int)) && decide ((bt l i : Int) < 248)) = false by simp only [Bool.and_eq_false_iff, decide_eq_false_iff_not]; omega, cond_false]
/-- The plain code reads what the library reads. -/
theorem F_read1 (l : List UInt8) (i : Nat) (hi : i < l.length) (hl : l.length ≤ 1073741824) : F_lecternref01_Read l (i : Int) = some (if badR (decodeL (l.drop i)) then (0, 0) else (((decodeL (l.drop i)).1 : Int), ((decodeL (l.drop i)).2 : Int))) := by
  rw [F_readN l i hi hl, readN_eq _ _ _ _ _ (by omega) (bt_lt _ _) (bt_lt _ _) (bt_lt _ _) (bt_lt _ _)]
  have e := Lib.decodeL_N (l.drop i)
  simp only [getD_drop, List.length_drop] at e
  rw [e]; rfl
end Go.Proofs.YtggnjahdjmncaaaDoor
