/- The scanner's library functions: they answer. No condition. -/
import Derived.Test.YtfokkdofcekdbaaDoorSa
import Derived.Laws.BitsAllLaws
import Derived.Lib.SlTrimSet
set_option linter.unusedSimpArgs false
set_option linter.unusedVariables false
namespace Go.Proofs.YtfokkdofcekdbaaDoor
open Go.Lib (decodeL decodeN)

theorem iter_dec {σ ρ : Type} {b : (σ → Option ρ) → σ → Option ρ} (μ : σ → Nat) (I : σ → Prop) (R : ρ → Prop)
    (step : ∀ x, I x → (∃ y, (∀ rec, b rec x = rec y) ∧ I y ∧ μ y < μ x) ∨ (∃ o, (∀ rec, b rec x = some o) ∧ R o)) :
    ∀ (n : Nat) (x : σ), I x → μ x < n → ∃ o, iter b n x = some o ∧ R o
  | 0, x, _, h => by omega
  | n + 1, x, hI, h1 => by
    rcases step x hI with ⟨y, e1, hI', hm⟩ | ⟨o, e1, hR⟩
    · obtain ⟨o, g1, hR⟩ := iter_dec μ I R step n y hI' (by omega)
      exact ⟨o, by show b (iter b n) x = _; rw [e1, g1], hR⟩
    · exact ⟨o, e1 _, hR⟩

/-! ## strings.EqualFold -/
theorem eqf_l2 (p0 p1 : List UInt8) (h0 : p0.length ≤ 1073741824) (h1 : p1.length ≤ 1073741824) : ∃ o, iter (F_strings_EqualFold_l2 p0 p1) FUEL (0 : Int) = some o ∧
    (∀ a, o = .inr (.inl a) → ∃ (i : Nat) (g0 : i < p0.length) (g1 : i < p1.length), a = (i : Int) ∧ (128 : Int) ≤ ior .u8 (p0[i].toNat : Int) (p1[i].toNat : Int)) := by
  refine iter_dec (b := F_strings_EqualFold_l2 p0 p1) (fun x => p0.length - x.toNat) (fun x => ∃ i : Nat, x = (i : Int) ∧ i ≤ p0.length) _ ?_ FUEL (0 : Int) ⟨0, rfl, Nat.zero_le _⟩ (by unfold FUEL; omega)
  rintro _ ⟨i, rfl, hi⟩
  by_cases hlt : i < p0.length ∧ i < p1.length
  · obtain ⟨g0, g1⟩ := hlt
    have hmin : decide ((i : Int) < (if (p1.length : Int) < (p0.length : Int) then (p1.length : Int) else (p0.length : Int))) = true := by
      apply decide_eq_true; split <;> omega
    have hb : ∀ rec, F_strings_EqualFold_l2 p0 p1 rec (i : Int) = cond (decide ((128 : Int) ≤ (ior .u8 (p0[i].toNat : Int) (p1[i].toNat : Int))))
        (some (.inr (.inl (i : Int)))) (cond ((p1[i].toNat : Int) == (p0[i].toNat : Int)) (rec ((i + 1 : Nat) : Int))
          (cond (decide ((p1[i].toNat : Int) < (p0[i].toNat : Int)))
            (cond (((decide ((65 : Int) ≤ (p1[i].toNat : Int))) && (decide ((p1[i].toNat : Int) ≤ (90 : Int)))) && ((p0[i].toNat : Int) == (IntKind.wrap .u8 ((IntKind.wrap .u8 ((p1[i].toNat : Int) + (97 : Int))) - (65 : Int))))) (rec ((i + 1 : Nat) : Int)) (some (.inr (.inr false))))
            (cond (((decide ((65 : Int) ≤ (p0[i].toNat : Int))) && (decide ((p0[i].toNat : Int) ≤ (90 : Int)))) && ((p1[i].toNat : Int) == (IntKind.wrap .u8 ((IntKind.wrap .u8 ((p0[i].toNat : Int) + (97 : Int))) - (65 : Int))))) (rec ((i + 1 : Nat) : Int)) (some (.inr (.inr false)))))) := by
      intro rec
      unfold F_strings_EqualFold_l2
      simp only [letJ]
      rw [hmin, cond_true, idx_some g0, Option.bind_some, idx_some g1, Option.bind_some, w64 (by omega) (by omega)]
      rfl
    have go : ∃ y : Int, y = ((i + 1 : Nat) : Int) ∧ (∃ i : Nat, y = (i : Int) ∧ i ≤ p0.length) ∧ p0.length - y.toNat < p0.length - ((i : Nat) : Int).toNat := ⟨_, rfl, ⟨_, rfl, g0⟩, by omega⟩
    obtain ⟨y, hy, hI, hm⟩ := go
    cases c1 : decide ((128 : Int) ≤ (ior .u8 (p0[i].toNat : Int) (p1[i].toNat : Int))) with
    | true =>
      right
      exact ⟨.inr (.inl (i : Int)), fun rec => by rw [hb, c1, cond_true], fun a ha => by
        injection ha with ha; injection ha with ha
        exact ⟨i, g0, g1, ha.symm, of_decide_eq_true c1⟩⟩
    | false =>
      have fin : ∀ o : Unit ⊕ Int ⊕ Bool, o = .inr (.inr false) → ∀ a, o = .inr (.inl a) → ∃ (i : Nat) (g0 : i < p0.length) (g1 : i < p1.length), a = (i : Int) ∧ (128 : Int) ≤ ior .u8 (p0[i].toNat : Int) (p1[i].toNat : Int) := by
        rintro o rfl a ha; cases ha
      cases c2 : ((p1[i].toNat : Int) == (p0[i].toNat : Int)) with
      | true => exact .inl ⟨y, fun rec => by rw [hb, c1, cond_false, c2, cond_true, hy], hI, hm⟩
      | false =>
        cases c3 : decide ((p1[i].toNat : Int) < (p0[i].toNat : Int)) with
        | true =>
          cases c4 : (((decide ((65 : Int) ≤ (p1[i].toNat : Int))) && (decide ((p1[i].toNat : Int) ≤ (90 : Int)))) && ((p0[i].toNat : Int) == (IntKind.wrap .u8 ((IntKind.wrap .u8 ((p1[i].toNat : Int) + (97 : Int))) - (65 : Int))))) with
          | true => exact .inl ⟨y, fun rec => by rw [hb, c1, cond_false, c2, cond_false, c3, cond_true, c4, cond_true, hy], hI, hm⟩
          | false => exact .inr ⟨_, fun rec => by rw [hb, c1, cond_false, c2, cond_false, c3, cond_true, c4, cond_false], fin _ rfl⟩
        | false =>
          cases c4 : (((decide ((65 : Int) ≤ (p0[i].toNat : Int))) && (decide ((p0[i].toNat : Int) ≤ (90 : Int)))) && ((p1[i].toNat : Int) == (IntKind.wrap .u8 ((IntKind.wrap .u8 ((p0[i].toNat : Int) + (97 : Int))) - (65 : Int))))) with
          | true => exact .inl ⟨y, fun rec => by rw [hb, c1, cond_false, c2, cond_false, c3, cond_false, c4, cond_true, hy], hI, hm⟩
          | false => exact .inr ⟨_, fun rec => by rw [hb, c1, cond_false, c2, cond_false, c3, cond_false, c4, cond_false], fin _ rfl⟩
  · right
    have hmin : decide ((i : Int) < (if (p1.length : Int) < (p0.length : Int) then (p1.length : Int) else (p0.length : Int))) = false := by
      apply decide_eq_false; split <;> omega
    exact ⟨.inl (), fun rec => by unfold F_strings_EqualFold_l2; rw [hmin, cond_false], fun a ha => by cases ha⟩
theorem eqf_l1 (c rn : Int) (hc : c = 120 ∨ c = 109 ∨ c = 108) (hr : 128 ≤ rn) : iter (F_strings_EqualFold_l1 c rn) FUEL (c - 32) = some c := by
  obtain ⟨m, hm⟩ : ∃ m, FUEL = m + 1 + 1 := ⟨FUEL - 2, by unfold FUEL; rfl⟩
  rw [hm, iter_succ]
  unfold F_strings_EqualFold_l1
  have h1 : ((c - 32 != c) && decide (c - 32 < rn)) = true := by simp; omega
  rw [h1, cond_true]
  have h2 : L_SimpleFold (c - 32) = some c := by
    rcases hc with rfl | rfl | rfl <;> rfl
  rw [h2, Option.bind_some]
  show iter (F_strings_EqualFold_l1 c rn) (m + 1) c = some c
  rw [iter_succ]
  unfold F_strings_EqualFold_l1
  have h3 : ((c != c) && decide (c < rn)) = false := by simp
  rw [h3, cond_false]
def xmlS (l : List UInt8) : Prop := l = [120, 109, 108] ∨ l = [109, 108] ∨ l = [108] ∨ l = []
theorem eqf_l0 (s : List UInt8) (hs : s.length ≤ 1073741824) (l : List UInt8) (hl : xmlS l) : ∃ o, iter (F_strings_EqualFold_l0 s) FUEL (l, (0 : Nat)) = some o ∧ True := by
  refine iter_dec (b := F_strings_EqualFold_l0 s) (fun x => s.length - x.2) (fun x => xmlS x.1) _ ?_ FUEL (l, (0 : Nat)) hl (by unfold FUEL; dsimp only; omega)
  rintro ⟨a, p⟩ hx
  dsimp only at hx ⊢
  by_cases hp : p < s.length
  · obtain ⟨r1, r2⟩ := dec_at s p
    obtain ⟨d1, d2, _⟩ := dec_bytes s p hp
    have hw : s.length - (p + wdS s p) < s.length - p := by rw [r2]; omega
    have core : ∀ (c : UInt8) (t : List UInt8), a = c :: t → ((c.toNat : Int) = 120 ∨ (c.toNat : Int) = 109 ∨ (c.toNat : Int) = 108) → L_DecodeRuneInString a = some ((c.toNat : Int), 1) → xmlS t →
        (∃ y : List UInt8 × Nat, (∀ rec, F_strings_EqualFold_l0 s rec (a, p) = rec y) ∧ xmlS y.1 ∧ s.length - y.2 < s.length - p) ∨ (∃ o, (∀ rec, F_strings_EqualFold_l0 s rec (a, p) = some o) ∧ True) := by
      intro c t ha hc hd ht
      have hsl : slc a (1 : Int) (a.length : Int) = some t := by rw [slc_tail (by rw [ha]; simp), ha]; rfl
      generalize hrn : rnS s p = rn at *
      have hb : ∀ rec, F_strings_EqualFold_l0 s rec (a, p) = cond ((c.toNat : Int) == rn) (rec (t, p + wdS s p)) (cond (decide ((c.toNat : Int) < rn))
          (cond (decide (rn < (128 : Int))) (cond (((decide ((65 : Int) ≤ (c.toNat : Int))) && (decide ((c.toNat : Int) ≤ (90 : Int)))) && (rn == (IntKind.wrap .i32 ((IntKind.wrap .i32 ((c.toNat : Int) + (97 : Int))) - (65 : Int))))) (rec (t, p + wdS s p)) (some (.inr false)))
            ((L_SimpleFold (c.toNat : Int)).bind fun x102 => (iter (F_strings_EqualFold_l1 (c.toNat : Int) rn) FUEL x102).bind fun o => cond (o == rn) (rec (t, p + wdS s p)) (some (.inr false))))
          (cond (decide ((c.toNat : Int) < (128 : Int))) (cond (((decide ((65 : Int) ≤ rn)) && (decide (rn ≤ (90 : Int)))) && ((c.toNat : Int) == (IntKind.wrap .i32 ((IntKind.wrap .i32 (rn + (97 : Int))) - (65 : Int))))) (rec (t, p + wdS s p)) (some (.inr false)))
            ((L_SimpleFold rn).bind fun x102 => (iter (F_strings_EqualFold_l1 rn (c.toNat : Int)) FUEL x102).bind fun o => cond (o == (c.toNat : Int)) (rec (t, p + wdS s p)) (some (.inr false))))) := by
        intro rec
        unfold F_strings_EqualFold_l0
        simp only [letJ]
        rw [decide_eq_true hp, cond_true, show ((a.length : Int) == 0) = false by rw [ha]; simp; omega, cond_false, hd, Option.bind_some]
        dsimp only
        rw [hsl, Option.bind_some, hrn]
      have two : ∀ k : Bool, (∃ y : List UInt8 × Nat, (∀ rec : List UInt8 × Nat → Option ((List UInt8) ⊕ Bool), cond k (rec (t, p + wdS s p)) (some (.inr false)) = rec y) ∧ xmlS y.1 ∧ s.length - y.2 < s.length - p) ∨ (∃ o, (∀ rec : List UInt8 × Nat → Option ((List UInt8) ⊕ Bool), cond k (rec (t, p + wdS s p)) (some (.inr false)) = some o) ∧ True) := by
        intro k
        cases k with
        | true => exact .inl ⟨(t, p + wdS s p), fun _ => rfl, ht, hw⟩
        | false => exact .inr ⟨_, fun _ => rfl, trivial⟩
      simp only [hb]
      cases ((c.toNat : Int) == rn) with
      | true => exact .inl ⟨(t, p + wdS s p), fun _ => rfl, ht, hw⟩
      | false =>
        simp only [cond_false]
        by_cases c3 : (c.toNat : Int) < rn
        · rw [decide_eq_true c3]
          simp only [cond_true]
          by_cases c4 : rn < 128
          · rw [decide_eq_true c4]
            simp only [cond_true]
            exact two _
          · rw [decide_eq_false c4]
            have hf : L_SimpleFold (c.toNat : Int) = some ((c.toNat : Int) - 32) := by rcases hc with h | h | h <;> rw [h] <;> rfl
            simp only [cond_false, hf, Option.bind_some, eqf_l1 _ rn hc (by omega)]
            exact two _
        · rw [decide_eq_false c3, decide_eq_true (show (c.toNat : Int) < 128 by omega)]
          simp only [cond_false, cond_true]
          exact two _
    rcases hx with h | h | h | h
    · exact core 120 [109, 108] h (.inl rfl) (by rw [h]; rfl) (.inr (.inl rfl))
    · exact core 109 [108] h (.inr (.inl rfl)) (by rw [h]; rfl) (.inr (.inr (.inl rfl)))
    · exact core 108 [] h (.inr (.inr rfl)) (by rw [h]; rfl) (.inr (.inr (.inr rfl)))
    · right
      refine ⟨.inr false, fun rec => ?_, trivial⟩
      unfold F_strings_EqualFold_l0
      dsimp only
      rw [decide_eq_true hp, cond_true, h]; rfl
  · right
    refine ⟨.inl a, fun rec => ?_, trivial⟩
    unfold F_strings_EqualFold_l0
    dsimp only
    rw [decide_eq_false hp, cond_false]
theorem eqf_xml (w : List UInt8) (hw : w.length ≤ 1073741824) : ∃ r, F_strings_EqualFold w [120, 109, 108] = some r := by
  obtain ⟨o, e1, e2⟩ := eqf_l2 w [120, 109, 108] hw (by simp)
  unfold F_strings_EqualFold
  simp only [letJ]
  rw [e1, Option.bind_some]
  match o, e2 with
  | .inl _, _ => exact ⟨_, rfl⟩
  | .inr (.inr r), _ => exact ⟨_, rfl⟩
  | .inr (.inl a), e2 =>
    obtain ⟨i, g0, g1, rfl, _⟩ := e2 a rfl
    have hx : xmlS (([120, 109, 108] : List UInt8).drop i) := by
      match i, g1 with
      | 0, _ => exact .inl rfl
      | 1, _ => exact .inr (.inl rfl)
      | 2, _ => exact .inr (.inr (.inl rfl))
    dsimp only
    rw [slc_drop (Nat.le_of_lt g0), Option.bind_some, slc_drop (Nat.le_of_lt g1), Option.bind_some]
    obtain ⟨o2, f1, _⟩ := eqf_l0 (w.drop i) (by rw [List.length_drop]; omega) _ hx
    rw [f1, Option.bind_some]
    cases o2 with
    | inl q => exact ⟨_, rfl⟩
    | inr q => exact ⟨_, rfl⟩
theorem eqf_ascii (w v : List UInt8) (hw : w.length ≤ 1073741824) (hv : v.length ≤ 1073741824) (h1 : ∀ b ∈ w, b.toNat < 128) (h2 : ∀ b ∈ v, b.toNat < 128) : ∃ r, F_strings_EqualFold w v = some r := by
  obtain ⟨o, e1, e2⟩ := eqf_l2 w v hw hv
  unfold F_strings_EqualFold
  simp only [letJ]
  rw [e1, Option.bind_some]
  match o, e2 with
  | .inl _, _ => exact ⟨_, rfl⟩
  | .inr (.inr r), _ => exact ⟨_, rfl⟩
  | .inr (.inl a), e2 =>
    obtain ⟨i, g0, g1, rfl, h⟩ := e2 a rfl
    have a1 := h1 _ (List.getElem_mem g0)
    have a2 := h2 _ (List.getElem_mem g1)
    have e : ior .u8 (w[i].toNat : Int) (v[i].toNat : Int) = ((w[i].toNat ||| v[i].toNat : Nat) : Int) := u8_or_nat _ _ (by omega) (by omega)
    have := Nat.or_lt_two_pow (n := 7) a1 a2
    rw [e] at h; omega

/-! ## fits -/
theorem cutPrefix_eq (l w : List UInt8) : F_strings_CutPrefix l w = some (if w.isPrefixOf l = true then (l.drop w.length, true) else (l, false)) := by
  have hh : F_stringslite_HasPrefix l w = some (w.isPrefixOf l) := by
    unfold F_stringslite_HasPrefix
    simp only [letJ]
    rw [isPre_take]
    by_cases h : w.length ≤ l.length
    · rw [decide_eq_true (show (w.length : Int) ≤ (l.length : Int) by omega), cond_true, slc_take0 h, Option.bind_some, decide_eq_true h, Bool.true_and]
    · rw [decide_eq_false (show ¬ (w.length : Int) ≤ (l.length : Int) by omega), cond_false, decide_eq_false h, Bool.false_and]
  unfold F_strings_CutPrefix F_stringslite_CutPrefix
  rw [hh, Option.bind_some]
  cases h : w.isPrefixOf l with
  | false => rfl
  | true =>
    have h2 := h
    rw [isPre_take, Bool.and_eq_true, decide_eq_true_eq] at h2
    rw [Bool.not_true, cond_false, slc_drop h2.1]; rfl
theorem dropWhile_nil {p : UInt8 → Bool} : ∀ {l : List UInt8}, l.dropWhile p = [] → ∀ b ∈ l, p b = true
  | [], _, b, hb => by cases hb
  | c :: l, h, b, hb => by
    rw [List.dropWhile_cons] at h
    split at h
    · rename_i hc
      rcases List.mem_cons.1 hb with rfl | hb
      · exact hc
      · exact dropWhile_nil h b hb
    · cases h
theorem dropWhile_head {p : UInt8 → Bool} : ∀ {l : List UInt8}, (∀ b ∈ l.dropWhile p, p b = true) → l.dropWhile p = []
  | [], _ => rfl
  | c :: l, h => by
    rw [List.dropWhile_cons] at h ⊢
    split
    · rename_i hc
      rw [if_pos hc] at h
      exact dropWhile_head h
    · rename_i hc
      rw [if_neg hc] at h
      exact absurd (h c (List.mem_cons_self ..)) hc
theorem trimS_nil {l cs : List UInt8} (h : Lib.trimS l cs = []) : ∀ b ∈ l, cs.contains b = true := by
  unfold Lib.trimS Lib.trimLeftS Lib.trimRightS at h
  have h1 := dropWhile_nil h
  have h2 : l.reverse.dropWhile (cs.contains ·) = [] := dropWhile_head (fun b hb => h1 b (by rw [List.mem_reverse]; exact hb))
  have h3 := dropWhile_nil h2
  exact fun b hb => h3 b (by rw [List.mem_reverse]; exact hb)
theorem fits_sp (w v : List UInt8) (hv : v.length ≤ 1073741824) : ∃ r, F_scan_fits w v = some r ∧ (w = [101, 110, 99, 111, 100, 105, 110, 103] → r = true → ∀ b ∈ v, b.toNat < 128) := by
  unfold F_scan_fits
  by_cases c1 : w = [118, 101, 114, 115, 105, 111, 110]
  · rw [show (w == ([118, 101, 114, 115, 105, 111, 110] : List UInt8)) = true by rw [c1]; rfl, cond_true, cutPrefix_eq, Option.bind_some]
    have hne : w ≠ [101, 110, 99, 111, 100, 105, 110, 103] := by rw [c1]; decide
    simp only [letJ]
    generalize hx : (if ([49, 46] : List UInt8).isPrefixOf v = true then (v.drop ([49, 46] : List UInt8).length, true) else (v, false)) = x
    have hxl : x.1.length ≤ 1073741824 := by
      rw [← hx]; split
      · dsimp only; rw [List.length_drop]; omega
      · exact hv
    have ht : L_Trim x.1 [48, 49, 50, 51, 52, 53, 54, 55, 56, 57] = some (Lib.trimS x.1 [48, 49, 50, 51, 52, 53, 54, 55, 56, 57]) := by
      unfold L_Trim; rw [if_pos ⟨by omega, by decide, by decide⟩]
    rw [ht]
    cases x.2 && !(x.1 == []) with
    | true => exact ⟨_, rfl, fun h => absurd h hne⟩
    | false => exact ⟨_, rfl, fun h => absurd h hne⟩
  · rw [show (w == ([118, 101, 114, 115, 105, 111, 110] : List UInt8)) = false by simpa using c1, cond_false]
    by_cases c2 : w = [101, 110, 99, 111, 100, 105, 110, 103]
    · rw [show (w == ([101, 110, 99, 111, 100, 105, 110, 103] : List UInt8)) = true by rw [c2]; rfl, cond_true]
      simp only [letJ]
      by_cases c3 : v = []
      · rw [show (v == ([] : List UInt8)) = true by simp [c3]]
        exact ⟨false, rfl, fun _ h => by cases h⟩
      · have hpos : 0 < v.length := List.length_pos_iff.2 c3
        rw [show (v == ([] : List UInt8)) = false by simpa using c3, Bool.not_false, cond_true, show (0 : Int) = ((0 : Nat) : Int) from rfl, idx_some hpos, Option.bind_some]
        unfold L_IndexByte
        rw [nat_u8, Option.bind_some]
        cases decide (((0 : Nat) : Int) ≤ Lib.indexByte _ v[0]) with
        | false => exact ⟨false, rfl, fun _ h => by cases h⟩
        | true =>
          rw [cond_true]
          unfold L_Trim
          rw [if_pos ⟨by omega, by decide, by decide⟩, Option.bind_some]
          refine ⟨_, rfl, fun _ h b hb => ?_⟩
          have h2 := trimS_nil (eq_of_beq h) b hb
          have h3 := all_u8 (p := fun c => !(([65, 66, 67, 68, 69, 70, 71, 72, 73, 74, 75, 76, 77, 78, 79, 80, 81, 82, 83, 84, 85, 86, 87, 88, 89, 90, 97, 98, 99, 100, 101, 102, 103, 104, 105, 106, 107, 108, 109, 110, 111, 112, 113, 114, 115, 116, 117, 118, 119, 120, 121, 122, 48, 49, 50, 51, 52, 53, 54, 55, 56, 57, 46, 95, 45] : List UInt8).contains c) || decide (c.toNat < 128)) (by decide +kernel) b
          rw [h2] at h3
          simpa using h3
    · rw [show (w == ([101, 110, 99, 111, 100, 105, 110, 103] : List UInt8)) = false by simpa using c2, cond_false]
      exact ⟨_, rfl, fun h => absurd h c2⟩
end Go.Proofs.YtfokkdofcekdbaaDoor
