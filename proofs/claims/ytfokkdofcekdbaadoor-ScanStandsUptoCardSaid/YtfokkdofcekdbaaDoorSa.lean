/- The scanner's small functions. No condition. -/
import Derived.Test.YtfokkdofcekdbaaDoorCh
import Derived.Lib.Index
set_option linter.unusedSimpArgs false
set_option linter.unusedVariables false
namespace Go.Proofs.YtfokkdofcekdbaaDoor
open Go.Lib (decodeL decodeN)

theorem slc_drop {α : Type} {l : List α} {n : Nat} (h : n ≤ l.length) : slc l (n : Int) (l.length : Int) = some (l.drop n) := by
  unfold slc; rw [if_pos (by omega)]; simp only [Int.toNat_natCast]; rw [List.take_of_length_le (by simp)]
theorem slc_take0 {α : Type} {l : List α} {n : Nat} (h : n ≤ l.length) : slc l (0 : Int) (n : Int) = some (l.take n) := by
  unfold slc; rw [if_pos (by omega)]; simp
/-- Does a word stand at a place? -/
def hereP (b : List UInt8) (i : Nat) (w : List UInt8) : Bool := w.isPrefixOf (b.drop i)
theorem isPre_take (w l : List UInt8) : w.isPrefixOf l = (decide (w.length ≤ l.length) && (l.take w.length == w)) := by
  rw [Bool.eq_iff_iff, List.isPrefixOf_iff_prefix, Bool.and_eq_true, decide_eq_true_eq, beq_iff_eq, List.prefix_iff_eq_take]
  constructor
  · intro h
    refine ⟨?_, h.symm⟩
    have := congrArg List.length h
    rw [List.length_take] at this; omega
  · rintro ⟨_, h⟩; exact h.symm
theorem hasPrefix_eq (l w : List UInt8) : F_bytes_HasPrefix l w = some (w.isPrefixOf l) := by
  unfold F_bytes_HasPrefix F_bytes_Equal
  simp only [letJ]
  rw [isPre_take]
  by_cases h : w.length ≤ l.length
  · rw [decide_eq_true (show (w.length : Int) ≤ (l.length : Int) by omega), cond_true, slc_take0 h, Option.bind_some, Option.bind_some, decide_eq_true h, Bool.true_and]
  · rw [decide_eq_false (show ¬ (w.length : Int) ≤ (l.length : Int) by omega), cond_false, decide_eq_false h, Bool.false_and]
theorem here_eq (b : List UInt8) (i : Nat) (w : List UInt8) (hi : i ≤ b.length) : F_scan_scanner_here ⟨b, (i : Int)⟩ w = some (hereP b i w) := by
  unfold F_scan_scanner_here
  dsimp only
  rw [slc_drop hi, Option.bind_some, hasPrefix_eq, Option.bind_some]; rfl
theorem hereP_len {b : List UInt8} {i : Nat} {w : List UInt8} (h : hereP b i w = true) (hi : i ≤ b.length) : i + w.length ≤ b.length := by
  unfold hereP at h
  rw [isPre_take, Bool.and_eq_true, decide_eq_true_eq, List.length_drop] at h
  omega
theorem hereP_get {b : List UInt8} {i : Nat} {c : UInt8} {w : List UInt8} (h : hereP b i (c :: w) = true) : b[i]? = some c := by
  unfold hereP at h
  rw [List.isPrefixOf_iff_prefix] at h
  obtain ⟨r, hr⟩ := h
  have : (b.drop i)[0]? = some c := by rw [← hr]; rfl
  rwa [List.getElem?_drop, Nat.add_zero] at this
theorem hereP_one {b : List UInt8} {i : Nat} {c : UInt8} : hereP b i [c] = (b[i]? == some c) := by
  unfold hereP
  by_cases hi : i < b.length
  · rw [List.drop_eq_getElem_cons hi, List.getElem?_eq_getElem hi]
    simp only [List.isPrefixOf, Bool.and_true]
    rw [Bool.eq_iff_iff, beq_iff_eq, beq_iff_eq, Option.some.injEq]
    exact ⟨fun h => h.symm, fun h => h.symm⟩
  · rw [List.drop_eq_nil_of_le (by omega), List.getElem?_eq_none (by omega)]; rfl
def wsP (c : UInt8) : Bool := decide ((0 : Int) ≤ Lib.indexByte [32, 9, 10, 13] c)
theorem spaces_eq (b : List UInt8) (a : Int) (i : Nat) (hi : i ≤ b.length) (hb : b.length ≤ 1073741824) : F_scan_scanner_spaces ⟨b, a⟩ (i : Int) = some ((sk wsP b i : Nat) : Int) := by
  unfold F_scan_scanner_spaces
  simp only [letJ]
  have := scan_loop (b := F_scan_scanner_spaces_l0 ⟨b, a⟩) wsP b (fun rec i h => by
    unfold F_scan_scanner_spaces_l0
    simp only [letJ]
    rw [decide_eq_true (by omega), cond_true, idx_some h, Option.bind_some]
    unfold L_IndexByte
    rw [nat_u8, Option.bind_some, w64 (by omega) (by omega)]
    rfl) (fun rec => by
    unfold F_scan_scanner_spaces_l0
    simp only [letJ]
    rw [decide_eq_false (by omega), cond_false, cond_false]) FUEL (b.length - i) i (by omega) (by unfold FUEL; omega)
  rw [this, Option.bind_some]
theorem sign_eq (b : List UInt8) (i : Nat) (w : List UInt8) (hi : i ≤ b.length) (hb : b.length ≤ 1073741824) : F_scan_scanner_sign ⟨b, (i : Int)⟩ w = some (if hereP b i w = true then (0, ⟨b, ((i + w.length : Nat) : Int)⟩) else (23, ⟨b, (i : Int)⟩)) := by
  unfold F_scan_scanner_sign
  rw [here_eq b i w hi, Option.bind_some]
  cases h : hereP b i w with
  | false => rfl
  | true =>
    have := hereP_len h hi
    dsimp only
    rw [Bool.not_true, cond_false, if_pos rfl, w64 (by omega) (by omega)]; rfl
/-- equals: it goes on, or not. -/
theorem equals_sp (b : List UInt8) (i : Nat) (hi : i ≤ b.length) (hb : b.length ≤ 1073741824) : ∃ (e : Int) (j : Nat), F_scan_scanner_equals ⟨b, (i : Int)⟩ = some (e, ⟨b, (j : Int)⟩) ∧ i ≤ j ∧ j ≤ b.length := by
  obtain ⟨s1, s2⟩ := sk_le wsP b i hi
  unfold F_scan_scanner_equals
  rw [spaces_eq b _ i hi hb, Option.bind_some]
  dsimp only
  rw [sign_eq b _ _ s2 hb, Option.bind_some]
  cases h : hereP b (sk wsP b i) [61] with
  | false =>
    obtain ⟨t1, t2⟩ := sk_le wsP b _ s2
    rw [if_neg (by simp)]
    dsimp only
    rw [spaces_eq b _ _ s2 hb, Option.bind_some]
    exact ⟨23, _, rfl, by omega, t2⟩
  | true =>
    have hl := hereP_len h s2
    obtain ⟨t1, t2⟩ := sk_le wsP b _ hl
    rw [if_pos rfl]
    dsimp only
    rw [spaces_eq b _ _ hl hb, Option.bind_some]
    exact ⟨0, _, rfl, by omega, t2⟩
theorem ixB_lt (l : List UInt8) (c : UInt8) (h : 0 ≤ Lib.indexByte l c) : Lib.indexByte l c < l.length := by
  induction l with
  | nil => simp [Lib.indexByte] at h
  | cons b l ih =>
    simp only [Lib.indexByte] at h ⊢
    split
    · rw [List.length_cons]; omega
    · rename_i hb
      rw [if_neg hb] at h
      split at h
      · omega
      · rename_i h1
        rw [if_neg h1]
        have h2 := Lib.indexByte_ge l c
        have h3 : Lib.indexByte l c ≠ -1 := by simpa using h1
        have := ih (by omega)
        rw [List.length_cons]; omega
theorem ixB_nat (l : List UInt8) (c : UInt8) (h : ¬ Lib.indexByte l c < 0) : ∃ n : Nat, Lib.indexByte l c = (n : Int) ∧ n < l.length := by
  have := ixB_lt l c (by omega)
  exact ⟨(Lib.indexByte l c).toNat, by omega, by omega⟩
theorem quoted_sp (b : List UInt8) (i : Nat) (hi : i ≤ b.length) (hb : b.length ≤ 1073741824) : ∃ (v : List UInt8) (e : Int) (j : Nat), F_scan_scanner_quoted ⟨b, (i : Int)⟩ = some ((v, e), ⟨b, (j : Int)⟩) ∧ i ≤ j ∧ j ≤ b.length ∧ v.length ≤ b.length ∧ (e = 0 → i < j) := by
  have none : ∃ (v : List UInt8) (e : Int) (j : Nat), (some ((([] : List UInt8), (23 : Int)), (⟨b, (i : Int)⟩ : T_scan_scanner)) : Option (((List UInt8) × Int) × T_scan_scanner)) = some ((v, e), ⟨b, (j : Int)⟩) ∧ i ≤ j ∧ j ≤ b.length ∧ v.length ≤ b.length ∧ (e = 0 → i < j) := ⟨[], 23, i, rfl, Nat.le_refl _, hi, Nat.zero_le _, fun h => by omega⟩
  have main : i < b.length → ∃ (v : List UInt8) (e : Int) (j : Nat), ((slc b (IntKind.wrap .i64 ((i : Int) + (1 : Int))) (b.length : Int)).bind fun x7 =>
      (idx b (i : Int)).bind fun x8 =>
      (L_bIndexByte x7 (x8.toNat : Int)).bind fun x9 =>
     cond (decide (x9 < (0 : Int)))
      (some ((([] : List UInt8), (23 : Int)), (⟨b, (i : Int)⟩ : T_scan_scanner)))
      ((slc x7 (0 : Int) x9).bind fun x11 =>
      some ((x11, (0 : Int)), (⟨b, (IntKind.wrap .i64 ((i : Int) + (IntKind.wrap .i64 (x9 + (2 : Int)))))⟩ : T_scan_scanner)))) = some ((v, e), ⟨b, (j : Int)⟩) ∧ i ≤ j ∧ j ≤ b.length ∧ v.length ≤ b.length ∧ (e = 0 → i < j) := by
    intro hlt
    rw [w64 (x := (i : Int) + 1) (by omega) (by omega), show (i : Int) + 1 = ((i + 1 : Nat) : Int) by omega, slc_drop hlt, Option.bind_some, idx_some hlt, Option.bind_some]
    unfold L_bIndexByte
    rw [nat_u8, Option.bind_some]
    by_cases hn : Lib.indexByte (b.drop (i + 1)) b[i] < 0
    · rw [decide_eq_true hn, cond_true]; exact none
    · obtain ⟨n, e1, e2⟩ := ixB_nat _ _ hn
      rw [decide_eq_false hn, cond_false, e1, slc_take0 (Nat.le_of_lt e2), Option.bind_some]
      rw [List.length_drop] at e2
      rw [w64 (x := (n : Int) + 2) (by omega) (by omega), w64 (by omega) (by omega)]
      refine ⟨_, 0, i + (n + 2), rfl, by omega, by omega, ?_, fun _ => by omega⟩
      rw [List.length_take, List.length_drop]; omega
  unfold F_scan_scanner_quoted
  dsimp only
  rw [here_eq b i _ hi, here_eq b i _ hi, Option.bind_some]
  simp only [letJ]
  cases h1 : hereP b i [39] with
  | true =>
    have := hereP_len h1 hi
    rw [Bool.not_true, cond_false, cond_false]
    exact main (by simp at this; omega)
  | false =>
    rw [Bool.not_false, cond_true, Option.bind_some]
    cases h2 : hereP b i [34] with
    | true =>
      have := hereP_len h2 hi
      rw [Bool.not_true, cond_false]
      exact main (by simp at this; omega)
    | false => rw [Bool.not_false, cond_true]; exact none

/-! ## Names -/
theorem decodeRune_eq (b : List UInt8) (i : Nat) (hi : i < b.length) : L_DecodeRune (b.drop i) = some (((decodeL (b.drop i)).1 : Int), ((decodeL (b.drop i)).2 : Int)) := by
  have hne : b.drop i ≠ [] := by intro h; have := congrArg List.length h; simp at this; omega
  unfold L_DecodeRune Lib.decodeGo
  rw [if_neg hne, if_neg (by
    show ¬ ((b.drop i).toArray.size = 0)
    simp; omega)]
  rfl
theorem split_some (q : List UInt8) (hq : q.length ≤ 1073741824) : ∃ r, F_char_Split q = some r := by
  unfold F_char_Split L_Cut
  rw [if_pos (by omega), Option.bind_some]
  simp only [letJ, F_nameC, Option.bind_some]
  cases (Lib.cut q [58]).2.2 <;> cases nameP q <;> cases nameP (Lib.cut q [58]).1 <;> cases nameP (Lib.cut q [58]).2.1 <;> exact ⟨_, rfl⟩
theorem name_sp (b : List UInt8) (i : Nat) (hi : i ≤ b.length) (hb : b.length ≤ 1073741824) : ∃ (v : List UInt8) (e : Int) (j : Nat), F_scan_scanner_name ⟨b, (i : Int)⟩ = some ((v, e), ⟨b, (j : Int)⟩) ∧ i ≤ j ∧ j ≤ b.length ∧ v.length ≤ b.length ∧ (e = 0 → v ≠ [] ∧ i < j) := by
  have key : ∃ o : Int, iter (F_scan_scanner_name_l0 ⟨b, (i : Int)⟩) FUEL (i : Int) = some o ∧ ∃ j : Nat, o = (j : Int) ∧ i ≤ j ∧ j ≤ b.length := by
    refine iter_spec (b := F_scan_scanner_name_l0 ⟨b, (i : Int)⟩) (fun k x => ∃ j : Nat, x = (j : Int) ∧ i + k ≤ j ∧ j ≤ b.length) _ (b.length - i) (x0 := (i : Int)) ⟨i, rfl, by omega, hi⟩ ?_ ?_ (n := FUEL) (by unfold FUEL; omega)
    · rintro k x rec hk ⟨j, rfl, h1, h2⟩
      unfold F_scan_scanner_name_l0
      dsimp only
      by_cases hj : j < b.length
      · obtain ⟨d1, d2, _⟩ := dec_bytes b j hj
        rw [decide_eq_true (by omega), cond_true, slc_drop h2, Option.bind_some, decodeRune_eq b j hj, Option.bind_some]
        simp only [letJ, F_isPart, F_isStart, Option.bind_some]
        have hgo : IntKind.wrap .i64 ((j : Int) + ((decodeL (b.drop j)).2 : Int)) = ((j + (decodeL (b.drop j)).2 : Nat) : Int) := by rw [w64 (by omega) (by omega)]; omega
        rw [hgo]
        have two : ∀ c : Bool, (∃ y, cond c (some (j : Int)) (rec ((j + (decodeL (b.drop j)).2 : Nat) : Int)) = rec y ∧ ∃ j' : Nat, y = (j' : Int) ∧ i + (k + 1) ≤ j' ∧ j' ≤ b.length) ∨ (∃ o, cond c (some (j : Int)) (rec ((j + (decodeL (b.drop j)).2 : Nat) : Int)) = some o ∧ ∃ j' : Nat, o = (j' : Int) ∧ i ≤ j' ∧ j' ≤ b.length) := by
          intro c
          cases c with
          | false => exact .inl ⟨_, rfl, _, rfl, by omega, d2⟩
          | true => exact .inr ⟨_, rfl, j, rfl, by omega, h2⟩
        cases ((decodeL (b.drop j)).1 : Int) != 58 with
        | false => exact two false
        | true =>
          cases partP ((decodeL (b.drop j)).1 : Int) with
          | false => exact two true
          | true =>
            cases ((j : Int) == (i : Int)) with
            | false => exact two false
            | true => exact two (!startP ((decodeL (b.drop j)).1 : Int))
      · rw [decide_eq_false (by omega), cond_false]
        exact .inr ⟨_, rfl, j, rfl, by omega, h2⟩
    · rintro x rec ⟨j, rfl, h1, h2⟩
      have : j = b.length := by omega
      subst this
      unfold F_scan_scanner_name_l0
      dsimp only
      rw [decide_eq_false (by omega), cond_false]
      exact ⟨_, rfl, _, rfl, hi, Nat.le_refl _⟩
  obtain ⟨o, e1, j, rfl, h1, h2⟩ := key
  unfold F_scan_scanner_name
  simp only [letJ]
  rw [e1, Option.bind_some]
  have hsl : slc b (i : Int) (j : Int) = some ((b.drop i).take (j - i)) := by
    unfold slc; rw [if_pos (by omega)]; simp only [Int.toNat_natCast]
  rw [hsl, Option.bind_some]
  have hlen : ((b.drop i).take (j - i)).length = j - i := by rw [List.length_take, List.length_drop]; omega
  generalize (b.drop i).take (j - i) = w at hlen
  by_cases hw : w = []
  · rw [show (w == []) = true by simp [hw], cond_true]
    exact ⟨[], 23, i, rfl, Nat.le_refl _, hi, Nat.zero_le _, fun h => by omega⟩
  · obtain ⟨r, hr⟩ := split_some w (by omega)
    rw [show (w == []) = false by simp [hw], cond_false, hr, Option.bind_some]
    cases r.2.2 with
    | false => exact ⟨[], 24, i, rfl, Nat.le_refl _, hi, Nat.zero_le _, fun h => by omega⟩
    | true =>
      have : 0 < w.length := List.length_pos_iff.2 hw
      exact ⟨w, 0, j, rfl, h1, h2, by omega, fun _ => ⟨hw, by omega⟩⟩
end Go.Proofs.YtfokkdofcekdbaaDoor
