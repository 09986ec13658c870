/- Trails shown and read: the code's texts, said plainly. No condition. -/
import Derived.Test.YtggnjahdjmncaaaDoorLr
import Derived.Lib.AtoiTie
import Derived.Lib.SplitLaws
import Derived.Lib.IndexMore
set_option linter.unusedSimpArgs false
set_option linter.unusedVariables false
set_option maxRecDepth 20000
namespace Go.Proofs.YtggnjahdjmncaaaDoor
open Go.Lib (decDigits itoa nDigits decFrom digitVal splitK occAt)

theorem nDigits_le : ∀ (k u : Nat), u < 10 ^ (k + 1) → nDigits u ≤ k + 1
  | 0, u, h => by rw [Lib.nDigits_small (by simpa using h)]; exact Nat.le_refl 1
  | k + 1, u, h => by
    by_cases h10 : u < 10
    · rw [Lib.nDigits_small h10]; omega
    · rw [Lib.nDigits_big h10]
      have : u / 10 < 10 ^ (k + 1) := by
        rw [Nat.div_lt_iff_lt_mul (by omega)]
        rw [Nat.pow_succ] at h; exact h
      have := nDigits_le k (u / 10) this
      omega
theorem itoa_nat (n : Int) (h : 0 ≤ n) : itoa n = decDigits n.toNat := by unfold Lib.itoa; rw [if_neg (by omega)]
theorem itoa_len {n : Int} (h0 : 0 ≤ n) (h1 : n ≤ 999999999) : (itoa n).length ≤ 9 := by
  rw [itoa_nat n h0, Lib.decDigits_length]
  exact nDigits_le 8 _ (by omega)
theorem digits_bytes : ∀ (k u : Nat), u < k → ∀ c ∈ decDigits u, 48 ≤ c.toNat ∧ c.toNat ≤ 57
  | 0, u, h, _, _ => by omega
  | k + 1, u, h, c, hc => by
    rw [Lib.decDigits] at hc
    split at hc
    · simp only [List.mem_singleton] at hc; subst hc
      rename_i h10
      simp only [UInt8.toNat_ofNat']; omega
    · rename_i h10
      rcases List.mem_append.1 hc with h1 | h1
      · exact digits_bytes k (u / 10) (by omega) c h1
      · simp only [List.mem_singleton] at h1; subst h1
        simp only [UInt8.toNat_ofNat']; omega
theorem itoa_bytes {n : Int} (h0 : 0 ≤ n) : ∀ c ∈ itoa n, 48 ≤ c.toNat ∧ c.toNat ≤ 57 := by
  rw [itoa_nat n h0]; exact digits_bytes _ _ (Nat.lt_succ_self _)
theorem decFrom_append : ∀ (l m : List UInt8) (acc : Nat), decFrom acc (l ++ m) = (decFrom acc l).bind fun a => decFrom a m
  | [], m, acc => rfl
  | b :: l, m, acc => by
    simp only [List.cons_append, Lib.decFrom]
    cases digitVal b with
    | none => rfl
    | some d => exact decFrom_append l m _
theorem digit_one (d acc : Nat) (h : d < 10) : decFrom acc [UInt8.ofNat (48 + d)] = some (acc * 10 + d) := by
  have e : (UInt8.ofNat (48 + d)).toNat = 48 + d := by simp only [UInt8.toNat_ofNat']; omega
  have : digitVal (UInt8.ofNat (48 + d)) = some d := by unfold Lib.digitVal; rw [e, if_pos (by omega)]; congr 1; omega
  simp only [Lib.decFrom, this]
theorem digits_read : ∀ (k u : Nat), u < k → decFrom 0 (decDigits u) = some u
  | 0, u, h => by omega
  | k + 1, u, h => by
    rw [Lib.decDigits]
    split
    · rename_i h10; rw [digit_one u 0 h10]; simp
    · rename_i h10
      rw [decFrom_append, digits_read k (u / 10) (by omega), Option.bind_some, digit_one _ _ (by omega)]
      congr 1; omega
theorem digits_ne (u : Nat) : decDigits u ≠ [] := by
  rw [Lib.decDigits]; split <;> simp
theorem atoi_itoa {n : Int} (h0 : 0 ≤ n) (h1 : n ≤ 999999999) : atoiP (itoa n) = (n, false) := by
  have hl := itoa_len h0 h1
  have hb := itoa_bytes h0
  unfold atoiP
  rw [Lib.atoiAll_short _ (by omega)]
  have hr := digits_read _ n.toNat (Nat.lt_succ_self _)
  have hne := digits_ne n.toNat
  rw [← itoa_nat n h0] at hr hne
  have : Lib.atoi (itoa n) = some n := by
    cases hi : itoa n with
    | nil => exact absurd hi hne
    | cons b r =>
      rw [hi] at hr hb
      have hbb := hb b (by simp)
      simp only [Lib.atoi]
      rw [if_neg (by intro e; have := congrArg UInt8.toNat (beq_iff_eq.1 e); simp at this; omega), if_neg (by intro e; have := congrArg UInt8.toNat (beq_iff_eq.1 e); simp at this; omega)]
      unfold Lib.decNat
      simp only [List.isEmpty_cons, Bool.false_eq_true, if_false, hr, Option.map_some]
      congr 1; omega
  rw [this]; rfl

/-- The steps' text. -/
def stepsT (l : List Int) : List UInt8 := l.flatMap fun n => (47 : UInt8) :: itoa n
def tailT (p : T_trail_Trail) : List UInt8 := if p.Attr then ([47, 64] ++ p.Name.Local) ++ (if p.Name.URI = [] then [] else ([123] ++ p.Name.URI) ++ [125]) else []
def showP (p : T_trail_Trail) : List UInt8 := if stepsT p.Steps ++ tailT p = [] then [47] else stepsT p.Steps ++ tailT p
theorem stepsT_take {l : List Int} {i : Nat} (h : i < l.length) : stepsT (l.take (i + 1)) = stepsT (l.take i) ++ ([47] ++ itoa l[i]) := by
  unfold stepsT
  rw [List.take_add_one, List.getElem?_eq_getElem h, List.flatMap_append]; simp
theorem stepsT_len : ∀ (l : List Int), (∀ n ∈ l, 0 ≤ n ∧ n ≤ 999999999) → (stepsT l).length ≤ l.length * 10
  | [], _ => by simp [stepsT]
  | n :: l, h => by
    have h1 := itoa_len (h n (by simp)).1 (h n (by simp)).2
    have h2 := stepsT_len l (fun m hm => h m (by simp [hm]))
    unfold stepsT at *
    simp only [List.flatMap_cons, List.length_append, List.length_cons]
    omega
theorem F_orS (x : List UInt8) : F_cmp_Or_string [x, ([47] : List UInt8)] = some (if x = [] then [47] else x) := by
  have key : ∀ n, iter (F_cmp_Or_string_l0 [x, [47]]) (n + 2) (0 : Int) = some (.inr (if x = [] then [47] else x)) := fun n => by
    have a0 : ∀ r, F_cmp_Or_string_l0 [x, [47]] r 0 = if x = [] then r 1 else some (.inr x) := fun r => by
      cases x with
      | nil => rfl
      | cons a t => rfl
    have a1 : ∀ r, F_cmp_Or_string_l0 [x, [47]] r 1 = some (.inr [47]) := fun r => rfl
    show F_cmp_Or_string_l0 [x, [47]] (iter _ (n + 1)) 0 = _
    rw [a0]
    show (if x = [] then F_cmp_Or_string_l0 [x, [47]] (iter _ n) 1 else _) = _
    rw [a1]
    by_cases h : x = [] <;> simp [h]
  unfold F_cmp_Or_string
  simp only [letJ]
  rw [show FUEL = 18446744073709551614 + 2 from rfl, key]; rfl
theorem F_show (p : T_trail_Trail) (hl : p.Steps.length ≤ 9223372036854775807) (hu : p.Name.URI.length ≤ 1073741824) : ∃ b, F_trail_right p = some b ∧ (b = true → Good p) ∧ F_trail_Show p = some (if b then (showP p, 0) else ([], 35)) := by
  obtain ⟨b, hb, hg⟩ := right_some p hl hu
  refine ⟨b, hb, hg, ?_⟩
  unfold F_trail_Show
  rw [hb, Option.bind_some]
  cases b
  · rfl
  have g := hg rfl
  simp only [Bool.not_true, cond_false, letJ, if_true]
  have hsl := stepsT_len p.Steps g.steps
  have h64 := g.len
  obtain ⟨o, h1, h2⟩ := iter_spec (b := F_trail_Show_l0 p) (fun i x => x = (stepsT (p.Steps.take i), (i : Int))) (fun o => o = stepsT p.Steps) p.Steps.length (x0 := (([] : List UInt8), (0 : Int))) (by simp [stepsT])
    (fun i x rec hi hx => .inl ⟨(stepsT (p.Steps.take (i + 1)), ((i + 1 : Nat) : Int)), by
      subst hx
      have hb := g.steps _ (List.getElem_mem hi)
      have hn := itoa_len hb.1 hb.2
      have ht := stepsT_len (p.Steps.take i) (fun n hn => g.steps n (List.mem_of_mem_take hn))
      have htl : (p.Steps.take i).length ≤ 64 := by simp; omega
      have hit : L_Itoa p.Steps[i] = some (itoa p.Steps[i]) := by unfold L_Itoa; rw [if_pos (by omega)]
      unfold F_trail_Show_l0
      simp only
      rw [decide_eq_true (by omega), cond_true, idx_some hi, Option.bind_some, hit, Option.bind_some]
      unfold cat
      rw [if_pos (by simp only [List.length_singleton]; omega), Option.bind_some, if_pos (by simp only [List.length_append, List.length_singleton]; omega), Option.bind_some, w64 (by omega) (by omega), stepsT_take hi]; rfl, rfl⟩)
    (fun x rec hx => ⟨_, by
      subst hx
      unfold F_trail_Show_l0
      simp only
      rw [decide_eq_false (by omega), cond_false], by rw [List.take_length]⟩) (n := FUEL) (by unfold FUEL; omega)
  rw [h1, Option.bind_some, h2]
  have hcat : ∀ {a b : List UInt8}, a.length + b.length ≤ 9223372036854775807 → cat a b = some (a ++ b) := fun h => by unfold cat; rw [if_pos h]
  unfold showP tailT
  cases hA : p.Attr
  · simp only [cond_false, F_orS, Option.bind_some, Bool.false_eq_true, if_false, List.append_nil]
  · have hlo := (g.loc hA).1
    have hur := g.uri hA
    simp only [cond_true, if_true]
    rw [hcat (by simp only [List.length_cons, List.length_nil]; omega), Option.bind_some, hcat (by simp only [List.length_append, List.length_cons, List.length_nil]; omega), Option.bind_some]
    by_cases hU : p.Name.URI = []
    · simp only [hU, beq_self_eq_true, Bool.not_true, cond_false, F_orS, Option.bind_some, if_true, List.append_nil]
    · have : (p.Name.URI == ([] : List UInt8)) = false := by simpa using hU
      rw [this, Bool.not_false, cond_true, hcat (by simp only [List.length_singleton]; omega), Option.bind_some, hcat (by simp only [List.length_append, List.length_singleton]; omega), Option.bind_some,
        hcat (by simp only [List.length_append, List.length_cons, List.length_nil]; omega), Option.bind_some, F_orS, Option.bind_some]
      simp only [hU, if_false, List.append_assoc]

/-- The steps that parts spell. -/
def stepsOf : List Int → List (List UInt8) → List Int
  | acc, [] => acc
  | acc, x :: r => stepsOf (if !(atoiP x).2 && decide ((acc.length : Int) ≤ 64) then acc ++ [(atoiP x).1] else acc) r
theorem stepsOf_len : ∀ (r : List (List UInt8)) (acc : List Int), acc.length ≤ 65 → (stepsOf acc r).length ≤ 65
  | [], acc, h => h
  | x :: r, acc, h => by
    simp only [stepsOf]
    split
    · rename_i hc
      simp only [Bool.and_eq_true, decide_eq_true_eq] at hc
      exact stepsOf_len r _ (by simp; omega)
    · exact stepsOf_len r _ h
theorem F_steps (parts : List (List UInt8)) (a : Bool) (u l : List UInt8) (hp : parts.length ≤ 1073741824) (hx : ∀ x ∈ parts, x.length ≤ 1073741824) :
    iter (F_trail_Read_l0 parts) FUEL (([] : List Int), a, u, l, (0 : Int)) = some (stepsOf [] parts, a, u, l) := by
  obtain ⟨o, h1, h2⟩ := iter_spec (b := F_trail_Read_l0 parts) (fun i x => ∃ acc : List Int, x = (acc, a, u, l, (i : Int)) ∧ acc.length ≤ 65 ∧ stepsOf [] parts = stepsOf acc (parts.drop i)) (fun o => o = (stepsOf [] parts, a, u, l)) parts.length (x0 := (([] : List Int), a, u, l, (0 : Int))) ⟨[], rfl, by simp, by simp⟩
    (fun i x rec hi ⟨acc, hx0, hal, hI⟩ => by
      subst hx0
      rw [drop_ne hi] at hI
      simp only [stepsOf] at hI
      have hat : L_Atoi parts[i] = some (atoiP parts[i]) := by unfold L_Atoi; rw [if_pos (by have := hx _ (List.getElem_mem hi); omega)]
      unfold F_trail_Read_l0
      simp only [letJ]
      rw [decide_eq_true (by omega), cond_true, idx_some hi, Option.bind_some, hat, Option.bind_some, w64 (by omega) (by omega)]
      cases hc : (!(atoiP parts[i]).2 && decide ((acc.length : Int) ≤ 64))
      · rw [hc] at hI
        exact .inl ⟨(acc, a, u, l, ((i + 1 : Nat) : Int)), rfl, acc, rfl, hal, by simpa using hI⟩
      · rw [hc] at hI
        simp only [Bool.and_eq_true, decide_eq_true_eq] at hc
        exact .inl ⟨(acc ++ [(atoiP parts[i]).1], a, u, l, ((i + 1 : Nat) : Int)), by rw [cond_true, app_some (by simp only [List.length_singleton]; omega) (by simp only [List.length_singleton]; omega), Option.bind_some]; rfl, _, rfl, by simp; omega, by simpa using hI⟩)
    (fun x rec ⟨acc, hx0, hal, hI⟩ => ⟨(acc, a, u, l), by
      subst hx0
      unfold F_trail_Read_l0
      simp only
      rw [decide_eq_false (by omega), cond_false], by rw [hI, List.drop_length]; rfl⟩) (n := FUEL) (by unfold FUEL; omega)
  rw [h1, h2]
theorem stepsOf_all : ∀ (l : List Int) (acc : List Int), (∀ n ∈ l, 0 ≤ n ∧ n ≤ 999999999) → acc.length + l.length ≤ 64 → stepsOf acc (l.map itoa) = acc ++ l
  | [], acc, _, _ => by simp [stepsOf]
  | n :: l, acc, h, hl => by
    have h1 := h n (by simp)
    simp only [List.length_cons] at hl
    simp only [List.map_cons, stepsOf, atoi_itoa h1.1 h1.2, Bool.not_false, Bool.true_and]
    rw [if_pos (by simp; omega), stepsOf_all l _ (fun m hm => h m (by simp [hm])) (by simp; omega)]
    simp

theorem split_len : ∀ (k : Nat) (s : List UInt8), (splitK [47] 0 k s).length ≤ k + 1
  | 0, s => by simp [Lib.splitK]
  | k + 1, s => by
    simp only [Lib.splitK]
    split
    · simp
    · have := split_len k (s.drop ((Lib.index s [47]).toNat + [(47 : UInt8)].length))
      simp only [List.length_cons] at this ⊢
      omega
theorem split_part : ∀ (k : Nat) (s : List UInt8), ∀ x ∈ splitK [47] 0 k s, x.length ≤ s.length
  | 0, s, x, hx => by simp only [Lib.splitK, List.mem_singleton] at hx; subst hx; exact Nat.le_refl _
  | k + 1, s, x, hx => by
    simp only [Lib.splitK] at hx
    split at hx
    · simp only [List.mem_singleton] at hx; subst hx; exact Nat.le_refl _
    · rcases List.mem_cons.1 hx with rfl | h
      · simp; omega
      · have := split_part k _ x h
        simp only [List.length_drop] at this
        omega
theorem index_47 : ∀ (a r : List UInt8), (∀ c ∈ a, c ≠ 47) → Lib.index (a ++ 47 :: r) [47] = (a.length : Int)
  | [], r, _ => by simp [Lib.index, List.isPrefixOf]
  | b :: a, r, h => by
    have hb := h b (by simp)
    have ih := index_47 a r (fun c hc => h c (by simp [hc]))
    have hnb : ((47 : UInt8) == b) = false := by simpa using fun e => hb e.symm
    simp only [List.cons_append, Lib.index, List.isPrefixOf, hnb, Bool.false_and, Bool.false_eq_true, if_false, ih]
    rw [if_neg (by simp <;> omega)]
    simp
theorem split_steps : ∀ (l : List Int) (a : List UInt8), (∀ n ∈ l, 0 ≤ n) → (∀ c ∈ a, c ≠ 47) → splitK [47] 0 l.length (a ++ stepsT l) = a :: l.map itoa
  | [], a, _, _ => by simp [Lib.splitK, stepsT]
  | n :: l, a, h, ha => by
    have e : a ++ stepsT (n :: l) = a ++ 47 :: (itoa n ++ stepsT l) := by simp [stepsT]
    have hi := index_47 a (itoa n ++ stepsT l) ha
    rw [e, List.length_cons, Lib.splitK, hi, if_neg (by simp <;> omega)]
    have ih := split_steps l (itoa n) (fun m hm => h m (by simp [hm])) (fun c hc e => by
      have := itoa_bytes (h n (by simp)) c hc
      subst e; simp at this)
    simp only [Int.toNat_natCast, Nat.add_zero, List.length_singleton]
    rw [List.take_left', List.map_cons, ← ih]
    · congr 2
      rw [List.drop_append]
      simp
    · rfl
theorem count_itoa {n : Int} (h : 0 ≤ n) : (itoa n).count 47 = 0 := List.count_eq_zero.2 fun hc => by
  have := itoa_bytes h _ hc
  simp at this
theorem count_steps : ∀ l : List Int, (∀ n ∈ l, 0 ≤ n) → (stepsT l).count 47 = l.length
  | [], _ => by simp [stepsT]
  | n :: l, h => by
    have e : stepsT (n :: l) = 47 :: (itoa n ++ stepsT l) := by simp [stepsT]
    rw [e, List.count_cons_self, List.count_append, count_itoa (h n (by simp)), count_steps l (fun m hm => h m (by simp [hm]))]
    simp
theorem split_all (l : List Int) (h : ∀ n ∈ l, 0 ≤ n) : Lib.split (stepsT l) [47] = [] :: l.map itoa := by
  unfold Lib.split
  rw [Lib.count_one, count_steps l h]
  exact split_steps l [] h (by simp)
theorem steps_64 (l : List Int) (h : ∀ n ∈ l, 0 ≤ n) : ∀ c ∈ stepsT l, c ≠ 64 := fun c hc e => by
  unfold stepsT at hc
  obtain ⟨n, hn, hc⟩ := List.mem_flatMap.1 hc
  rcases List.mem_cons.1 hc with h1 | h1
  · rw [e] at h1; cases h1
  · have := itoa_bytes (h n hn) c h1
    subst e; simp at this
theorem index_at (a r : List UInt8) (h : ∀ c ∈ a, c ≠ 64) : Lib.index (a ++ 47 :: 64 :: r) [47, 64] = (a.length : Int) := by
  induction a with
  | nil => simp [Lib.index, List.isPrefixOf]
  | cons b a ih =>
    have ih := ih (fun c hc => h c (by simp [hc]))
    have hnp : ([47, 64] : List UInt8).isPrefixOf (b :: (a ++ 47 :: 64 :: r)) = false := by
      cases a with
      | nil => simp [List.isPrefixOf]
      | cons c a =>
        have hc := h c (by simp)
        have : ((64 : UInt8) == c) = false := by simpa using fun e => hc e.symm
        simp [List.isPrefixOf, this]
    simp only [List.cons_append, Lib.index, hnp, Bool.false_eq_true, if_false, ih]
    rw [if_neg (by simp <;> omega)]
    simp
theorem index_no (a : List UInt8) (h : ∀ c ∈ a, c ≠ 64) : Lib.index a [47, 64] = -1 := by
  induction a with
  | nil => simp [Lib.index]
  | cons b a ih =>
    have ih := ih (fun c hc => h c (by simp [hc]))
    have hnp : ([47, 64] : List UInt8).isPrefixOf (b :: a) = false := by
      cases a with
      | nil => simp [List.isPrefixOf]
      | cons c a =>
        have hc := h c (by simp)
        have : ((64 : UInt8) == c) = false := by simpa using fun e => hc e.symm
        simp [List.isPrefixOf, this]
    simp only [Lib.index, hnp, Bool.false_eq_true, if_false, ih]
    simp
end Go.Proofs.YtggnjahdjmncaaaDoor
