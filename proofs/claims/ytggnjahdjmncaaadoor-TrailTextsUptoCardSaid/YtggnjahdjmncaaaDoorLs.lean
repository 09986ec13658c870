/- Trails shown by the plain code. No condition. -/
import Derived.Test.YtggnjahdjmncaaaDoorLh
set_option linter.unusedSimpArgs false
set_option linter.unusedVariables false
set_option maxRecDepth 20000
namespace Go.Proofs.YtggnjahdjmncaaaDoor
open Go.Lib (decDigits itoa decFrom digitVal)
theorem wu8 {x : Int} (h0 : 0 ≤ x) (h1 : x ≤ 255) : IntKind.wrap .u8 x = x := by
  have e : IntKind.wrap .u8 x = x % 256 := by simp [IntKind.wrap, IntKind.bits, IntKind.signed]
  rw [e]; omega
theorem cat_ok {a b : List UInt8} (h : a.length + b.length ≤ 9223372036854775807) : cat a b = some (a ++ b) := by unfold cat; rw [if_pos h]
theorem F_digits (n : Int) (h0 : 0 ≤ n) (h1 : n ≤ 999999999) : F_lecternref08_digits n = some (itoa n) := by
  unfold F_lecternref08_digits
  simp only [letJ]
  rw [itoa_nat n h0]
  obtain ⟨u, rfl⟩ : ∃ u : Nat, n = (u : Int) := ⟨n.toNat, by omega⟩
  rw [Int.toNat_natCast]
  obtain ⟨o, h2, h3⟩ := iter_spec (b := F_lecternref08_digits_l0) (fun i x => ∃ (m : Nat) (s : List UInt8), x = ((m : Int), s) ∧ m + i ≤ u ∧ decDigits u = decDigits m ++ s ∧ s.length ≤ i) (fun o => ∃ (m : Nat) (s : List UInt8), o = ((m : Int), s) ∧ m ≤ 9 ∧ decDigits u = decDigits m ++ s ∧ s.length ≤ 1000000000) u (x0 := ((u : Int), ([] : List UInt8))) ⟨u, [], rfl, by omega, by simp, by simp⟩
    (fun i x rec hi ⟨m, s, hx, hm, hd, hs⟩ => by
      subst hx
      unfold F_lecternref08_digits_l0
      simp only
      by_cases c : 9 < m
      · have et : Int.tmod (m : Int) (10 : Int) = ((m % 10 : Nat) : Int) := rfl
        have ed : Int.tdiv (m : Int) (10 : Int) = ((m / 10 : Nat) : Int) := rfl
        have hu : u8 (IntKind.wrap .u8 (IntKind.wrap .i64 ((48 : Int) + ((m % 10 : Nat) : Int)))) = some (UInt8.ofNat (48 + m % 10)) := by
          rw [w64 (by omega) (by omega), wu8 (by omega) (by omega)]
          unfold u8
          rw [if_pos (by omega)]
          congr 2
        rw [decide_eq_true (by omega), cond_true, et, ed, hu, Option.bind_some, cat_ok (by simp only [List.length_singleton]; omega), Option.bind_some, w64 (by omega) (by omega)]
        refine .inl ⟨_, rfl, m / 10, _, rfl, by omega, ?_, by simp; omega⟩
        rw [hd, Lib.decDigits, dif_neg (by omega)]
        simp
      · rw [decide_eq_false (by omega), cond_false]
        exact .inr ⟨_, rfl, m, s, rfl, by omega, hd, by omega⟩)
    (fun x rec ⟨m, s, hx, hm, hd, hs⟩ => ⟨x, by
      subst hx
      unfold F_lecternref08_digits_l0
      simp only
      rw [decide_eq_false (by omega), cond_false], m, s, hx, by omega, hd, by omega⟩) (n := FUEL) (by unfold FUEL; omega)
  obtain ⟨m, s, rfl, hm, hd, hs⟩ := h3
  rw [h2, Option.bind_some]
  simp only
  have hu : u8 (IntKind.wrap .u8 (IntKind.wrap .i64 ((48 : Int) + (m : Int)))) = some (UInt8.ofNat (48 + m)) := by
    rw [w64 (by omega) (by omega), wu8 (by omega) (by omega)]
    unfold u8
    rw [if_pos (by omega)]
    congr 2
  rw [hu, Option.bind_some, cat_ok (by simp only [List.length_singleton]; omega), Option.bind_some, hd, Lib.decDigits, dif_pos (by omega)]
theorem F_show8 (p : T_trail_Trail) (g : Good p) : F_lecternref08_Show p = some (showP p) := by
  unfold F_lecternref08_Show
  simp only [letJ]
  have hsl := stepsT_len p.Steps g.steps
  have h64 := g.len
  obtain ⟨o, h1, h2⟩ := iter_spec (b := F_lecternref08_Show_l0 p) (fun i x => x = (stepsT (p.Steps.take i), (i : Int))) (fun o => o = stepsT p.Steps) p.Steps.length (x0 := (([] : List UInt8), (0 : Int))) (by simp [stepsT])
    (fun i x rec hi hx => .inl ⟨(stepsT (p.Steps.take (i + 1)), ((i + 1 : Nat) : Int)), by
      subst hx
      have hb := g.steps _ (List.getElem_mem hi)
      have hn := itoa_len hb.1 hb.2
      have ht := stepsT_len (p.Steps.take i) (fun n hn => g.steps n (List.mem_of_mem_take hn))
      have htl : (p.Steps.take i).length ≤ 64 := by simp; omega
      unfold F_lecternref08_Show_l0
      simp only
      rw [decide_eq_true (by omega), cond_true, idx_some hi, Option.bind_some, cat_ok (by simp only [List.length_singleton]; omega), Option.bind_some, F_digits _ hb.1 hb.2, Option.bind_some,
        cat_ok (by simp only [List.length_append, List.length_singleton]; omega), Option.bind_some, w64 (by omega) (by omega), stepsT_take hi, List.append_assoc]; rfl, rfl⟩)
    (fun x rec hx => ⟨_, by
      subst hx
      unfold F_lecternref08_Show_l0
      simp only
      rw [decide_eq_false (by omega), cond_false], by rw [List.take_length]⟩) (n := FUEL) (by unfold FUEL; omega)
  rw [h1, Option.bind_some, h2]
  have fin : ∀ t : List UInt8, cond (t == ([] : List UInt8)) (some ([47] : List UInt8)) (some t) = some (if t = [] then [47] else t) := fun t => by
    by_cases h : t = []
    · subst h; rfl
    · rw [show (t == ([] : List UInt8)) = false by simpa using h, if_neg h]; rfl
  unfold showP tailT
  cases hA : p.Attr
  · simp only [cond_false, fin, Bool.false_eq_true, if_false, List.append_nil]
  · have hlo := (g.loc hA).1
    have hur := g.uri hA
    simp only [cond_true, if_true]
    rw [cat_ok (by simp only [List.length_cons, List.length_nil]; omega), Option.bind_some, cat_ok (by simp only [List.length_append, List.length_cons, List.length_nil]; omega), Option.bind_some]
    by_cases hU : p.Name.URI = []
    · simp only [hU, beq_self_eq_true, Bool.not_true, cond_false, fin, if_true, List.append_nil, List.append_assoc]
    · have : (p.Name.URI == ([] : List UInt8)) = false := by simpa using hU
      rw [this, Bool.not_false, cond_true, cat_ok (by simp only [List.length_append, List.length_cons, List.length_nil]; omega), Option.bind_some, cat_ok (by simp only [List.length_append, List.length_cons, List.length_nil]; omega), Option.bind_some,
        cat_ok (by simp only [List.length_append, List.length_cons, List.length_nil]; omega), Option.bind_some, fin]
      simp only [hU, if_false, List.append_assoc]
/-- Digits that spell a number without leading zeros are its own. -/
theorem canon : ∀ (k : Nat) (l : List UInt8) (n : Nat), l.length = k + 1 → (∀ c ∈ l, 48 ≤ c.toNat ∧ c.toNat ≤ 57) → decFrom 0 l = some n → (2 ≤ l.length → (l.getD 0 0).toNat ≠ 48) → decDigits n = l ∧ (2 ≤ l.length → 10 ≤ n)
  | 0, l, n, hl, hd, hn, h0 => by
    match l, hl with
    | [c], _ => ?_
    have hc := hd c (by simp)
    have : digitVal c = some (c.toNat - 48) := by unfold Lib.digitVal; rw [if_pos hc]
    simp only [Lib.decFrom, this, Nat.zero_mul, Nat.zero_add, Option.some.injEq] at hn
    subst hn
    refine ⟨?_, fun h => by simp at h⟩
    rw [Lib.decDigits, dif_pos (by omega)]
    congr 1
    apply UInt8.toNat_inj.1
    simp only [UInt8.toNat_ofNat']; omega
  | k + 1, l, n, hl, hd, hn, h0 => by
    have hne : l ≠ [] := by intro h; subst h; simp at hl
    obtain ⟨l', c, rfl⟩ : ∃ l' c, l = l' ++ [c] := ⟨l.dropLast, l.getLast hne, (List.dropLast_concat_getLast hne).symm⟩
    have hl' : l'.length = k + 1 := by simpa using hl
    rw [decFrom_append] at hn
    obtain ⟨m, hm, hn⟩ := Option.bind_eq_some_iff.1 hn
    have hhead : (l'.getD 0 0).toNat ≠ 48 := by
      have := h0 (by simp; omega)
      rwa [show (l' ++ [c]).getD 0 0 = l'.getD 0 0 by
        simp only [List.getD]
        rw [List.getElem?_append_left (by omega)]] at this
    obtain ⟨ih, _⟩ := canon k l' m hl' (fun c hc => hd c (by simp [hc])) hm (fun _ => hhead)
    have hc := hd c (by simp)
    have hv : digitVal c = some (c.toNat - 48) := by unfold Lib.digitVal; rw [if_pos hc]
    simp only [Lib.decFrom, hv, Option.some.injEq] at hn
    have hm0 : m ≠ 0 := by
      intro e
      subst e
      rw [Lib.decDigits, dif_pos (by omega)] at ih
      rw [← ih] at hhead
      exact hhead rfl
    subst hn
    refine ⟨?_, fun _ => by omega⟩
    rw [Lib.decDigits, dif_neg (by omega)]
    have e1 : (m * 10 + (c.toNat - 48)) / 10 = m := by omega
    have e2 : (m * 10 + (c.toNat - 48)) % 10 = c.toNat - 48 := by omega
    rw [e1, e2, ih]
    congr 2
    apply UInt8.toNat_inj.1
    simp only [UInt8.toNat_ofNat']; omega
/-- No leading zero. -/
theorem digits_head : ∀ (k u : Nat), u < k → 2 ≤ (decDigits u).length → ((decDigits u).getD 0 0).toNat ≠ 48
  | 0, u, h, _ => by omega
  | k + 1, u, h, h2 => by
    by_cases h10 : u < 10
    · rw [Lib.decDigits, dif_pos h10] at h2; simp at h2
    · rw [Lib.decDigits, dif_neg h10]
      have hne := digits_ne (u / 10)
      have hpos : 0 < (decDigits (u / 10)).length := List.length_pos_iff.2 hne
      have e : (decDigits (u / 10) ++ [UInt8.ofNat (48 + u % 10)]).getD 0 0 = (decDigits (u / 10)).getD 0 0 := by
        simp only [List.getD]
        rw [List.getElem?_append_left hpos]
      rw [e]
      by_cases h100 : u / 10 < 10
      · rw [Lib.decDigits, dif_pos h100]
        show (UInt8.ofNat (48 + u / 10)).toNat ≠ 48
        simp only [UInt8.toNat_ofNat']; omega
      · refine digits_head k (u / 10) (by omega) ?_
        rw [Lib.decDigits, dif_neg h100]
        have := List.length_pos_iff.2 (digits_ne (u / 10 / 10))
        simp only [List.length_append, List.length_singleton]; omega
end Go.Proofs.YtggnjahdjmncaaaDoor
