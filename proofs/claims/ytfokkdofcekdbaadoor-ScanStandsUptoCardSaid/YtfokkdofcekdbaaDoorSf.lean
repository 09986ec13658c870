/- The scanner's whole: ScanStands. No condition. -/
import Derived.Test.YtfokkdofcekdbaaDoorSe
import Derived.Test.YtfokkdofcekdbaaDoorLa
set_option linter.unusedSimpArgs false
set_option linter.unusedVariables false
set_option maxRecDepth 20000
namespace Go.Proofs.YtfokkdofcekdbaaDoor
open Go.Lib (decodeL decodeN)

/-! ## Lines -/
theorem u8_nat (c : UInt8) : u8 (c.toNat : Int) = some c := by
  unfold u8
  have := c.toNat_lt
  rw [if_pos (by omega), Int.toNat_natCast]
  simp
/-- One line rule's step. -/
def lnP (p : List UInt8) (i : Nat) : List UInt8 := if p.getD i 0 = 13 then [10] else if p.getD i 0 = 10 ∧ 0 < i ∧ p.getD (i - 1) 0 = 13 then [] else [p.getD i 0]
theorem u8_beq (c : UInt8) (n : Nat) (hn : n < 256) : ((c.toNat : Int) == (n : Int)) = decide (c = UInt8.ofNat n) := by
  rw [Bool.eq_iff_iff, beq_iff_eq, decide_eq_true_eq]
  have h2 : (UInt8.ofNat n).toNat = n := by show n % 256 = n; omega
  constructor
  · intro h; apply UInt8.toNat_inj.1; rw [h2]; omega
  · rintro rfl; rw [h2]
theorem lines_step1 (p : List UInt8) (i : Nat) (l : List UInt8) (hi : i < p.length) (hl : l.length ≤ i) (hp : p.length ≤ 1073741824) (rec) : F_char_Lines_l0 p rec (l, (i : Int)) = rec (l ++ lnP p i, ((i + 1 : Nat) : Int)) := by
  have hk1 : IntKind.wrap .i64 ((i : Int) + 1) = ((i + 1 : Nat) : Int) := by rw [w64 (by omega) (by omega)]; omega
  have hg : p.getD i 0 = p[i] := by simp [List.getD, hi]
  unfold F_char_Lines_l0
  dsimp only
  rw [decide_eq_true (by omega), cond_true]
  simp only [letJ]
  rw [idx_some hi, Option.bind_some, hk1, show (10 : Int) = ((10 : Nat) : Int) from rfl, show (13 : Int) = ((13 : Nat) : Int) from rfl, u8_beq _ 10 (by omega), u8_beq _ 13 (by omega)]
  have app1 : ∀ c : UInt8, app 1 l [c] = some (l ++ [c]) := fun c => app_some (by simp; omega) (by simp; omega)
  unfold lnP
  rw [hg]
  by_cases c10 : p[i] = 10
  · by_cases h0 : 0 < i
    · have hi1 : i - 1 < p.length := by omega
      have hg1 : p.getD (i - 1) 0 = p[i - 1] := by simp [List.getD, hi1]
      have hk2 : IntKind.wrap .i64 ((i : Int) - 1) = ((i - 1 : Nat) : Int) := by rw [w64 (by omega) (by omega)]; omega
      rw [decide_eq_true (show p[i] = UInt8.ofNat 10 from c10), decide_eq_true (show (0 : Int) < (i : Int) by omega), Bool.and_self, cond_true, hk2, idx_some hi1, Option.bind_some, u8_beq _ 13 (by omega), hg1, c10]
      by_cases c13 : p[i - 1] = 13
      · rw [decide_eq_true (show p[i - 1] = UInt8.ofNat 13 from c13), cond_true, if_neg (by decide), if_pos ⟨rfl, h0, c13⟩, List.append_nil]
      · rw [decide_eq_false (show ¬ p[i - 1] = UInt8.ofNat 13 from c13), cond_false, decide_eq_false (by decide), cond_false, if_neg (by decide), if_neg (fun h => c13 h.2.2), u8_nat, Option.bind_some, app1, Option.bind_some, Option.bind_some]
    · rw [decide_eq_false (show ¬ (0 : Int) < (i : Int) by omega), Bool.and_false, cond_false, cond_false, c10, decide_eq_false (by decide), cond_false, if_neg (by decide), if_neg (fun h => h0 h.2.1), u8_nat, Option.bind_some, app1, Option.bind_some, Option.bind_some]
  · rw [decide_eq_false (show ¬ p[i] = UInt8.ofNat 10 from c10), Bool.false_and, cond_false, cond_false]
    by_cases c13 : p[i] = 13
    · rw [decide_eq_true (show p[i] = UInt8.ofNat 13 from c13), cond_true, if_pos c13, show u8 ((10 : Nat) : Int) = some 10 from rfl, Option.bind_some, app1, Option.bind_some, Option.bind_some]
    · rw [decide_eq_false (show ¬ p[i] = UInt8.ofNat 13 from c13), cond_false, if_neg c13, if_neg (fun h => c10 h.1), u8_nat, Option.bind_some, app1, Option.bind_some, Option.bind_some]
theorem lines_step2 (p : List UInt8) (i : Nat) (l : List UInt8) (hi : i < p.length) (hl : l.length ≤ i) (hp : p.length ≤ 1073741824) (rec) : F_lecternref01_Lines_l0 p rec (l, (i : Int)) = rec (l ++ lnP p i, ((i + 1 : Nat) : Int)) := by
  have hk1 : IntKind.wrap .i64 ((i : Int) + 1) = ((i + 1 : Nat) : Int) := by rw [w64 (by omega) (by omega)]; omega
  have hg : p.getD i 0 = p[i] := by simp [List.getD, hi]
  unfold F_lecternref01_Lines_l0
  dsimp only
  rw [decide_eq_true (by omega), cond_true]
  simp only [letJ, bne]
  rw [idx_some hi, Option.bind_some, Option.bind_some, hk1, show u8 (10 : Int) = some 10 from rfl, show (10 : Int) = ((10 : Nat) : Int) from rfl, show (13 : Int) = ((13 : Nat) : Int) from rfl, u8_beq _ 10 (by omega), u8_beq _ 13 (by omega)]
  have app1 : ∀ c : UInt8, app 1 l [c] = some (l ++ [c]) := fun c => app_some (by simp; omega) (by simp; omega)
  unfold lnP
  rw [hg]
  by_cases c13 : p[i] = 13
  · rw [decide_eq_true (show p[i] = UInt8.ofNat 13 from c13), cond_true, if_pos c13, Option.bind_some, app1, Option.bind_some]
  · rw [decide_eq_false (show ¬ p[i] = UInt8.ofNat 13 from c13), cond_false, if_neg c13]
    by_cases c10 : p[i] = 10
    · rw [decide_eq_true (show p[i] = UInt8.ofNat 10 from c10), Bool.not_true, Bool.false_or]
      by_cases h0 : 0 < i
      · have hi1 : i - 1 < p.length := by omega
        have hg1 : p.getD (i - 1) 0 = p[i - 1] := by simp [List.getD, hi1]
        have hk2 : IntKind.wrap .i64 ((i : Int) - 1) = ((i - 1 : Nat) : Int) := by rw [w64 (by omega) (by omega)]; omega
        rw [show ((i : Int) == (0 : Int)) = false by rw [beq_eq_false_iff_ne]; omega, cond_false, hk2, idx_some hi1, Option.bind_some, u8_beq _ 13 (by omega), hg1, c10]
        by_cases c13' : p[i - 1] = 13
        · rw [decide_eq_true (show p[i - 1] = UInt8.ofNat 13 from c13'), Bool.not_true, cond_false, if_pos ⟨rfl, h0, c13'⟩, List.append_nil]
        · rw [decide_eq_false (show ¬ p[i - 1] = UInt8.ofNat 13 from c13'), Bool.not_false, cond_true, if_neg (fun h => c13' h.2.2), Option.bind_some, u8_nat, Option.bind_some, app1, Option.bind_some]
      · rw [show ((i : Int) == (0 : Int)) = true by rw [beq_iff_eq]; omega, cond_true, cond_true, if_neg (fun h => h0 h.2.1), Option.bind_some, u8_nat, Option.bind_some, app1, Option.bind_some]
    · rw [decide_eq_false (show ¬ p[i] = UInt8.ofNat 10 from c10), Bool.not_false, Bool.true_or, cond_true, cond_true, if_neg (fun h => c10 h.1), Option.bind_some, u8_nat, Option.bind_some, app1, Option.bind_some]
theorem lnP_len (p : List UInt8) (i : Nat) : (lnP p i).length ≤ 1 := by
  unfold lnP; split
  · simp
  · split <;> simp
theorem lines_two (p : List UInt8) (hp : p.length ≤ 1073741824) : ∃ r, F_char_Lines p = some r ∧ F_lecternref01_Lines p = some r ∧ r.length ≤ p.length := by
  obtain ⟨o, q, e1, e2, h1, h2⟩ := iter_two (b := F_char_Lines_l0 p) (c := F_lecternref01_Lines_l0 p) (fun x => p.length - x.2.toNat) (fun x y => x = y ∧ ∃ (l : List UInt8) (i : Nat), x = (l, (i : Int)) ∧ i ≤ p.length ∧ l.length ≤ i) (fun o q => o = q ∧ o.length ≤ p.length) (by
    rintro _ _ ⟨rfl, l, i, rfl, hi, hl⟩
    by_cases hlt : i < p.length
    · left
      have := lnP_len p i
      exact ⟨_, _, fun rec => lines_step1 p i l hlt hl hp rec, fun rec => lines_step2 p i l hlt hl hp rec, ⟨rfl, _, i + 1, rfl, by omega, by rw [List.length_append]; omega⟩, by dsimp only; omega⟩
    · right
      refine ⟨l, l, fun rec => ?_, fun rec => ?_, rfl, by omega⟩
      · unfold F_char_Lines_l0; dsimp only; rw [decide_eq_false (by omega), cond_false]
      · unfold F_lecternref01_Lines_l0; dsimp only; rw [decide_eq_false (by omega), cond_false]) FUEL FUEL (([] : List UInt8), (0 : Int)) (([] : List UInt8), (0 : Int)) ⟨rfl, [], 0, rfl, Nat.zero_le _, Nat.le_refl _⟩ (by unfold FUEL; dsimp only; omega) (by unfold FUEL; dsimp only; omega)
  subst h1
  refine ⟨o, ?_, ?_, h2⟩
  · unfold F_char_Lines
    simp only [letJ]
    rw [show mkG 1 (0 : Int) (p.length : Int) = some () by unfold mkG; rw [if_pos (by omega)], Option.bind_some, Option.bind_some, show (List.replicate (Int.toNat (0 : Int)) (0 : UInt8)) = [] from rfl, e1, Option.bind_some]
  · unfold F_lecternref01_Lines
    simp only [letJ]
    rw [e2, Option.bind_some]
theorem plain_two (p : List UInt8) (hp : p.length ≤ 1073741824) : ∃ r, F_scan_Plain p = some r ∧ F_lecternref03_Text p = some r ∧ r.length ≤ p.length := by
  have key : ∀ a : List UInt8, a.length ≤ p.length → (F_bytes_TrimPrefix p [239, 187, 191] = some a) → (∀ r, F_lecternref01_Lines a = some r → F_lecternref03_Text p = some r) → ∃ r, F_scan_Plain p = some r ∧ F_lecternref03_Text p = some r ∧ r.length ≤ p.length := by
    intro a ha h1 h2
    obtain ⟨r, r1, r2, r3⟩ := lines_two a (by omega)
    refine ⟨r, ?_, h2 r r2, by omega⟩
    unfold F_scan_Plain
    rw [show u8 (239 : Int) = some 239 from rfl, show u8 (187 : Int) = some 187 from rfl, show u8 (191 : Int) = some 191 from rfl, Option.bind_some, Option.bind_some, Option.bind_some, h1, Option.bind_some, r1, Option.bind_some]
  have no : ([239, 187, 191] : List UInt8).isPrefixOf p = false → (∀ r, F_lecternref01_Lines p = some r → F_lecternref03_Text p = some r) → ∃ r, F_scan_Plain p = some r ∧ F_lecternref03_Text p = some r ∧ r.length ≤ p.length := by
    intro h h2
    refine key p (Nat.le_refl _) ?_ h2
    unfold F_bytes_TrimPrefix
    rw [hasPrefix_eq, Option.bind_some, h, cond_false]
  rcases p with _ | ⟨a, _ | ⟨b, _ | ⟨c, q⟩⟩⟩
  · exact no rfl fun r hr => (by
      unfold F_lecternref03_Text; simp only [letJ]
      rw [decide_eq_false (by simp), cond_false, cond_false, cond_false, cond_false, hr, Option.bind_some])
  · exact no (by simp [List.isPrefixOf]) fun r hr => (by
      unfold F_lecternref03_Text; simp only [letJ]
      rw [decide_eq_false (by simp), cond_false, cond_false, cond_false, cond_false, hr, Option.bind_some])
  · exact no (by simp [List.isPrefixOf]) fun r hr => (by
      unfold F_lecternref03_Text; simp only [letJ]
      rw [decide_eq_false (by simp), cond_false, cond_false, cond_false, cond_false, hr, Option.bind_some])
  · have hd : decide ((3 : Int) ≤ ((a :: b :: c :: q).length : Int)) = true := decide_eq_true (by simp only [List.length_cons]; omega)
    have i0 : idx (a :: b :: c :: q) (0 : Int) = some a := idx_some (i := 0) (by simp)
    have i1 : idx (a :: b :: c :: q) (1 : Int) = some b := idx_some (i := 1) (by simp)
    have i2 : idx (a :: b :: c :: q) (2 : Int) = some c := idx_some (i := 2) (by simp)
    have ba := u8_beq a 239 (by omega)
    have bb := u8_beq b 187 (by omega)
    have bc := u8_beq c 191 (by omega)
    have hT : F_lecternref03_Text (a :: b :: c :: q) = cond (decide (a = 239)) (cond (decide (b = 187)) (cond (decide (c = 191)) (F_lecternref01_Lines q) (F_lecternref01_Lines (a :: b :: c :: q))) (F_lecternref01_Lines (a :: b :: c :: q))) (F_lecternref01_Lines (a :: b :: c :: q)) := by
      unfold F_lecternref03_Text
      simp only [letJ]
      rw [hd, cond_true, i0, Option.bind_some, i1, Option.bind_some, i2, Option.bind_some]
      rw [show (239 : Int) = ((239 : Nat) : Int) from rfl, show (187 : Int) = ((187 : Nat) : Int) from rfl, show (191 : Int) = ((191 : Nat) : Int) from rfl, ba, bb, bc]
      have hs : slc (a :: b :: c :: q) (3 : Int) ((a :: b :: c :: q).length : Int) = some q := slc_drop (n := 3) (l := a :: b :: c :: q) (by simp)
      have hbind : ∀ o : Option (List UInt8), (o.bind fun x => some x) = o := fun o => by cases o <;> rfl
      rw [hs, Option.bind_some, hbind, hbind]
      show cond (decide (a = 239)) _ _ = _
      cases decide (a = 239) with
      | false => rfl
      | true =>
        show cond (decide (b = 187)) _ _ = cond (decide (b = 187)) _ _
        cases decide (b = 187) with
        | false => rfl
        | true =>
          show cond (decide (c = 191)) _ _ = cond (decide (c = 191)) _ _
          cases decide (c = 191) <;> rfl
    by_cases hall : a = 239 ∧ b = 187 ∧ c = 191
    · obtain ⟨rfl, rfl, rfl⟩ := hall
      refine key q (by simp only [List.length_cons]; omega) ?_ fun r hr => by rw [hT]; exact hr
      unfold F_bytes_TrimPrefix
      rw [hasPrefix_eq, Option.bind_some, show ([239, 187, 191] : List UInt8).isPrefixOf (239 :: 187 :: 191 :: q) = true by simp [List.isPrefixOf], cond_true]
      have hs : slc (239 :: 187 :: 191 :: q : List UInt8) ((([239, 187, 191] : List UInt8).length : Nat) : Int) ((239 :: 187 :: 191 :: q : List UInt8).length : Int) = some q := slc_drop (n := 3) (l := 239 :: 187 :: 191 :: q) (by simp)
      rw [hs, Option.bind_some]
    · refine no ?_ fun r hr => ?_
      · rw [Bool.eq_false_iff]
        intro h
        simp only [List.isPrefixOf, Bool.and_true, Bool.and_eq_true, beq_iff_eq] at h
        exact hall ⟨h.1.symm, h.2.1.symm, h.2.2.symm⟩
      · rw [hT]
        by_cases ha : a = 239
        · rw [decide_eq_true ha, cond_true]
          by_cases hb : b = 187
          · rw [decide_eq_true hb, cond_true, decide_eq_false (fun h => hall ⟨ha, hb, h⟩), cond_false, hr]
          · rw [decide_eq_false hb, cond_false, hr]
        · rw [decide_eq_false ha, cond_false, hr]
theorem fault_sp (b : List UInt8) (hb : b.length ≤ 1073741824) : ∃ (a e : Int), F_char_Fault b = some (a, e) ∧ (e ≠ 0 → 0 ≤ a ∧ a ≤ b.length) := by
  obtain ⟨o, e, h⟩ := iter_dec (b := F_char_Fault_l0 b) (fun x => b.length - x.toNat) (fun x => ∃ i : Nat, x = (i : Int) ∧ i ≤ b.length) (fun o => o = .inl () ∨ ∃ (i : Nat) (f : Int), o = .inr ((i : Int), f) ∧ i ≤ b.length) (by
    rintro _ ⟨i, rfl, hi⟩
    by_cases hlt : i < b.length
    · obtain ⟨d1, d2, _⟩ := dec_bytes b i hlt
      have hn := F_next b i hlt hb
      unfold F_char_Fault_l0
      rw [hn]
      simp only [Option.bind_some]
      rw [decide_eq_true (show (i : Int) < (b.length : Int) by omega)]
      simp only [cond_true]
      cases badR (decodeL (b.drop i)) with
      | true => exact .inr ⟨_, fun _ => rfl, .inr ⟨i, 20, rfl, hi⟩⟩
      | false =>
        simp only [Bool.false_eq_true, if_false]
        cases charP ((decodeL (b.drop i)).1 : Int) with
        | false => exact .inr ⟨_, fun _ => rfl, .inr ⟨i, 21, rfl, hi⟩⟩
        | true => exact .inl ⟨_, fun _ => rfl, ⟨i + (decodeL (b.drop i)).2, rfl, d2⟩, by rw [Int.toNat_natCast]; simp only [if_true]; rw [Int.toNat_natCast]; omega⟩
    · right
      refine ⟨.inl (), fun rec => ?_, .inl rfl⟩
      unfold F_char_Fault_l0
      rw [decide_eq_false (by omega), cond_false]) FUEL (0 : Int) ⟨0, rfl, Nat.zero_le _⟩ (by unfold FUEL; omega)
  unfold F_char_Fault
  simp only [letJ]
  rw [e, Option.bind_some]
  rcases h with rfl | ⟨i, f, rfl, hi⟩
  · exact ⟨0, 0, rfl, fun h => absurd rfl h⟩
  · exact ⟨_, _, rfl, fun _ => ⟨by omega, by omega⟩⟩

/-! ## The chain of tokens -/
def Pos (b : List UInt8) (L : List Tk) (j : Nat) : Prop := (∀ k t, L[k]? = some t → ∃ i j', TokOk b i t j' ∧ i < b.length ∧ (k = 0 → i = 0) ∧ (∀ t', 0 < k → L[k - 1]? = some t' → ∃ i', TokOk b i' t' i)) ∧ (L = [] → j = 0) ∧ (∀ t, 0 < L.length → L[L.length - 1]? = some t → ∃ i, TokOk b i t j)
theorem pos_snoc {b : List UInt8} {L : List Tk} {i j : Nat} {t : Tk} (h : Pos b L i) (hi : i < b.length) (ht : TokOk b i t j) : Pos b (L ++ [t]) j := by
  obtain ⟨h1, h2, h3⟩ := h
  refine ⟨fun k u hu => ?_, fun h => by simp at h, fun u _ hu => ?_⟩
  · by_cases hk : k < L.length
    · rw [List.getElem?_append_left hk] at hu
      obtain ⟨i1, j1, a1, a2, a3, a4⟩ := h1 k u hu
      refine ⟨i1, j1, a1, a2, a3, fun t' h0 ht' => a4 t' h0 ?_⟩
      rwa [List.getElem?_append_left (by omega)] at ht'
    · have hk' : k = L.length := by
        have := (List.getElem?_eq_some_iff.1 hu).1
        rw [List.length_append, List.length_singleton] at this
        omega
      subst hk'
      rw [List.getElem?_append_right (Nat.le_refl _), Nat.sub_self] at hu
      injection hu with hu
      subst hu
      refine ⟨i, j, ht, hi, fun h0 => h2 (List.length_eq_zero_iff.1 h0), fun t' h0 ht' => h3 t' h0 ?_⟩
      rwa [List.getElem?_append_left (by omega)] at ht'
  · rw [List.length_append, List.length_singleton, Nat.add_sub_cancel, List.getElem?_append_right (Nat.le_refl _), Nat.sub_self] at hu
    injection hu with hu
    subst hu
    exact ⟨i, ht⟩
theorem all_sp (p : List UInt8) (hp : p.length ≤ 1073741824) : ∃ (L : List Tk) (a e : Int), F_scan_All p = some (L, a, e) ∧ (e ≠ 0 → L = [] ∧ 0 ≤ a ∧ a ≤ p.length) ∧ (e = 0 → ∃ b, F_scan_Plain p = some b ∧ F_lecternref03_Text p = some b ∧ b.length ≤ p.length ∧ a = 0 ∧ Pos b L b.length ∧ L.length ≤ b.length) := by
  unfold F_scan_All
  by_cases hl : 65536 < p.length
  · rw [decide_eq_true (by omega), cond_true]
    exact ⟨_, _, _, rfl, fun _ => ⟨rfl, by omega, by omega⟩, fun h => by cases h⟩
  rw [decide_eq_false (by omega), cond_false]
  obtain ⟨b, r1, r2, r3⟩ := plain_two p hp
  rw [r1, Option.bind_some]
  obtain ⟨fa, fe, f1, f2⟩ := fault_sp b (by omega)
  dsimp only
  rw [f1, Option.bind_some]
  by_cases hf : fe = 0
  case neg =>
    rw [show (fe != 0) = true by simpa using hf, cond_true]
    have := f2 hf
    exact ⟨_, _, _, rfl, fun _ => ⟨rfl, this.1, by omega⟩, fun h => absurd h hf⟩
  rw [show (fe != 0) = false by simpa using hf, cond_false]
  obtain ⟨o, e1, e2⟩ := iter_dec (b := F_scan_All_l0) (fun x => b.length - x.2.1.toNat) (fun x => ∃ (j : Nat) (L : List Tk), x = (b, (j : Int), L) ∧ j ≤ b.length ∧ L.length ≤ j ∧ Pos b L j) (fun o => (∃ L : List Tk, o = (L, 0, 0) ∧ Pos b L b.length ∧ L.length ≤ b.length) ∨ ∃ (j : Nat) (e : Int), o = ([], (j : Int), e) ∧ e ≠ 0 ∧ j ≤ b.length) (by
    rintro _ ⟨j, L, rfl, g1, g2, g3⟩
    by_cases hj : j = b.length
    · right
      subst hj
      refine ⟨(L, 0, 0), fun rec => ?_, .inl ⟨L, rfl, g3, g2⟩⟩
      unfold F_scan_All_l0
      dsimp only
      rw [show ((b.length : Int) == (b.length : Int)) = true by simp, cond_true]
    · obtain ⟨_, t1, e, j2, t, rfl, t2, t3⟩ := token_sp b j (by omega) (by omega)
      have hne : ((j : Int) == (b.length : Int)) = false := by rw [beq_eq_false_iff_ne]; omega
      by_cases he : e = 0
      · left
        have t4 := t3 he
        refine ⟨(b, (j2 : Int), L ++ [t]), fun rec => ?_, ⟨j2, _, rfl, t2, by have := t4.lt; simp; omega, pos_snoc g3 (by omega) t4⟩, by have := t4.lt; dsimp only; omega⟩
        unfold F_scan_All_l0
        dsimp only
        rw [hne, cond_false, t1, Option.bind_some]
        dsimp only
        rw [show (e != 0) = false by simpa using he, cond_false, app_some (by simp; omega) (by simp; omega), Option.bind_some, Option.bind_some]
      · right
        refine ⟨([], (j : Int), e), fun rec => ?_, .inr ⟨j, e, rfl, he, g1⟩⟩
        unfold F_scan_All_l0
        dsimp only
        rw [hne, cond_false, t1, Option.bind_some]
        dsimp only
        rw [show (e != 0) = true by simpa using he, cond_true]) FUEL (b, (0 : Int), ([] : List T_scan_Token)) ⟨0, [], rfl, Nat.zero_le _, Nat.le_refl _, ⟨fun k t h => by simp at h, fun _ => rfl, fun t h => by simp at h⟩⟩ (by unfold FUEL; dsimp only; omega)
  rw [e1, Option.bind_some]
  rcases e2 with ⟨L, rfl, h1, h2⟩ | ⟨j, e, rfl, h1, h2⟩
  · exact ⟨_, _, _, rfl, fun h => absurd rfl h, fun _ => ⟨b, rfl, r2, r3, rfl, h1, h2⟩⟩
  · exact ⟨_, _, _, rfl, fun _ => ⟨rfl, by omega, by omega⟩, fun h => absurd h h1⟩

/-! ## The law -/
theorem stands_l2 (q : T_scan_Pair) (l : List T_scan_Pair) (hl : l.length ≤ 1073742000) (h : ∀ r ∈ l, r.Name ≠ q.Name) : iter (F_lecternlaw03_ScanStands_l2 q l) FUEL (0 : Int) = some (.inl ()) := by
  obtain ⟨o, e, h2⟩ := iter_spec (b := F_lecternlaw03_ScanStands_l2 q l) (fun i x => x = (i : Int)) (fun o => o = .inl ()) l.length (x0 := (0 : Int)) rfl (by
    rintro i _ rec hi rfl
    left
    refine ⟨((i + 1 : Nat) : Int), ?_, rfl⟩
    unfold F_lecternlaw03_ScanStands_l2
    rw [decide_eq_true (by omega), cond_true, idx_some hi, Option.bind_some, show (l[i].Name == q.Name) = false by simpa using h _ (List.getElem_mem hi), cond_false, w64 (by omega) (by omega)]; rfl) (by
    rintro _ rec rfl
    refine ⟨_, ?_, rfl⟩
    unfold F_lecternlaw03_ScanStands_l2
    rw [decide_eq_false (by omega), cond_false]) (n := FUEL) (by unfold FUEL; omega)
  rw [e, h2]
theorem stands_l1 (t : Tk) (hl : t.Pairs.length ≤ 1073742000) (hn : (nmP t.Pairs).Nodup) : iter (F_lecternlaw03_ScanStands_l1 t) FUEL (0 : Int) = some (.inl t.At) := by
  obtain ⟨o, e, h2⟩ := iter_spec (b := F_lecternlaw03_ScanStands_l1 t) (fun i x => x = (i : Int)) (fun o => o = .inl t.At) t.Pairs.length (x0 := (0 : Int)) rfl (by
    rintro i _ rec hi rfl
    left
    refine ⟨((i + 1 : Nat) : Int), ?_, rfl⟩
    unfold F_lecternlaw03_ScanStands_l1
    simp only [letJ]
    have hnd : ∀ r ∈ t.Pairs.take i, r.Name ≠ t.Pairs[i].Name := by
      intro r hr he
      rw [List.mem_take_iff_getElem] at hr
      obtain ⟨k, hk, rfl⟩ := hr
      have hk1 : k < i := by omega
      have := List.pairwise_iff_getElem.1 hn k i (by simp [nmP]; omega) (by simp [nmP]; omega) hk1
      simp [nmP] at this
      exact this he
    rw [decide_eq_true (by omega), cond_true, idx_some hi, Option.bind_some, slc_take0 (Nat.le_of_lt hi), Option.bind_some, stands_l2 _ _ (by rw [List.length_take]; omega) hnd, Option.bind_some, w64 (by omega) (by omega)]; rfl) (by
    rintro _ rec rfl
    refine ⟨_, ?_, rfl⟩
    unfold F_lecternlaw03_ScanStands_l1
    simp only [letJ]
    rw [decide_eq_false (by omega), cond_false]) (n := FUEL) (by unfold FUEL; omega)
  rw [e, h2]
theorem stands_l0 (p b : List UInt8) (L : List Tk) (a e : Int) (hp : p.length ≤ 1073741824) (hb : b.length ≤ p.length) (hL : L.length ≤ b.length) (hP : Pos b L b.length) : iter (F_lecternlaw03_ScanStands_l0 p (L, a, e)) FUEL ((-1 : Int), (0 : Int)) = some (.inl ()) := by
  obtain ⟨o, e1, h2⟩ := iter_spec (b := F_lecternlaw03_ScanStands_l0 p (L, a, e)) (fun k x => ∃ c : Int, x = (c, (k : Int)) ∧ (k = 0 → c = -1) ∧ (∀ t, 0 < k → L[k - 1]? = some t → c = t.At)) (fun o => o = .inl ()) L.length (x0 := ((-1 : Int), (0 : Int))) ⟨-1, rfl, fun _ => rfl, fun t h => by omega⟩ (by
    rintro k _ rec hk ⟨c, rfl, g1, g2⟩
    left
    obtain ⟨t, ht⟩ : ∃ t, L[k]? = some t := ⟨L[k], List.getElem?_eq_getElem hk⟩
    have hidx : idx L (k : Int) = some t := by rw [idx_some hk]; rw [List.getElem?_eq_getElem hk] at ht; exact ht
    refine ⟨(t.At, ((k + 1 : Nat) : Int)), ?_, t.At, rfl, fun h => by omega, fun t' _ ht' => ?_⟩
    case refine_2 =>
      rw [Nat.add_sub_cancel, ht] at ht'
      injection ht' with ht'; rw [ht']
    obtain ⟨i, j, q1, q2, q3, q4⟩ := hP.1 k t ht
    have hat := q1.at_
    have c1 : ((decide (t.At ≤ c) || (((k : Int) == (0 : Int)) && (t.At != (0 : Int)))) || decide ((p.length : Int) ≤ t.At)) = false := by
      rw [hat, decide_eq_false (show ¬ (p.length : Int) ≤ (i : Int) by omega), Bool.or_false]
      by_cases h0 : k = 0
      · rw [g1 h0, q3 h0, decide_eq_false (by omega), h0]; rfl
      · have hk1 : k - 1 < L.length := by omega
        have hg : L[k - 1]? = some L[k - 1] := List.getElem?_eq_getElem hk1
        obtain ⟨i', q5⟩ := q4 _ (by omega) hg
        rw [g2 _ (by omega) hg, q5.at_, decide_eq_false (by have := q5.lt; omega), show ((k : Int) == (0 : Int)) = false by rw [beq_eq_false_iff_ne]; omega]; rfl
    have hk1 : IntKind.wrap .i64 ((k : Int) + 1) = ((k + 1 : Nat) : Int) := by rw [w64 (by omega) (by omega)]; omega
    have c4 : (!(((((t.Kind == (2 : Int)) || (t.Kind == (3 : Int))) || (t.Kind == (4 : Int))) || (t.Kind == (8 : Int))) == (!(t.Name == ([] : List UInt8))))) = false := by
      have := q1.nm
      unfold namedP at this
      rw [this, beq_self_eq_true, Bool.not_true]
    have c5 : ((t.Kind == (1 : Int)) && decide ((0 : Int) < (k : Int))) = false := by
      by_cases h1 : t.Kind = 1
      · have hi0 := q1.dec h1
        rw [decide_eq_false, Bool.and_false]
        intro h0
        have hk1 : k - 1 < L.length := by omega
        obtain ⟨i', q5⟩ := q4 _ (by omega) (List.getElem?_eq_getElem hk1)
        have := q5.lt; omega
      · rw [show (t.Kind == (1 : Int)) = false by simpa using h1, Bool.false_and]
    have tl : cond (false || ((t.Kind == (1 : Int)) && (decide ((0 : Int) < (k : Int)))))
      (some (.inr false : Unit ⊕ Bool))
      (cond (!(((((t.Kind == (2 : Int)) || (t.Kind == (3 : Int))) || (t.Kind == (4 : Int))) || (t.Kind == (8 : Int))) == (!(t.Name == ([] : List UInt8)))))
       (some (.inr false))
       ((iter (F_lecternlaw03_ScanStands_l1 t) FUEL (0 : Int)).bind fun o =>
       match o with
       | .inl o1 => rec (o1, ((k + 1 : Nat) : Int))
       | .inr o1 => some (.inr o1))) = rec (t.At, ((k + 1 : Nat) : Int)) := by
      rw [Bool.false_or, c5, cond_false, c4, cond_false, stands_l1 t (by have := q1.len; omega) q1.nd, Option.bind_some]
    unfold F_lecternlaw03_ScanStands_l0
    dsimp only
    rw [decide_eq_true (show (k : Int) < (L.length : Int) by omega), cond_true]
    simp only [letJ]
    rw [hidx, Option.bind_some, c1, cond_false, hk1]
    by_cases h5 : 0 < k ∧ t.Kind = 5
    · obtain ⟨h0, h5⟩ := h5
      have hkk : k - 1 < L.length := by omega
      obtain ⟨i', q5⟩ := q4 _ h0 (List.getElem?_eq_getElem hkk)
      have hk2 : IntKind.wrap .i64 ((k : Int) - 1) = ((k - 1 : Nat) : Int) := by rw [w64 (by omega) (by omega)]; omega
      have hne : (L[k - 1].Kind == (5 : Int)) = false := by
        rw [beq_eq_false_iff_ne]
        intro h
        obtain ⟨_, h6⟩ := q5.txt h
        rcases h6 with h6 | h6
        · omega
        · exact (q1.txt h5).1 h6
      rw [decide_eq_true (show (0 : Int) < (k : Int) by omega), show (t.Kind == (5 : Int)) = true by simpa using h5, Bool.and_self, cond_true, hk2, idx_some hkk, Option.bind_some, hne]
      rw [decide_eq_true (show (0 : Int) < (k : Int) by omega)] at tl
      exact tl
    · rw [show (decide ((0 : Int) < (k : Int)) && (t.Kind == (5 : Int))) = false by
        rw [Bool.and_eq_false_iff]
        by_cases h0 : 0 < k
        · exact .inr (by simpa using fun h => h5 ⟨h0, h⟩)
        · exact .inl (decide_eq_false (by omega)), cond_false]
      exact tl) (by
    rintro _ rec ⟨c, rfl, _⟩
    refine ⟨_, ?_, rfl⟩
    unfold F_lecternlaw03_ScanStands_l0
    dsimp only
    rw [decide_eq_false (by omega), cond_false]) (n := FUEL) (by unfold FUEL; omega)
  rw [e1, h2]
theorem scanStands (p : List UInt8) (hp : p.length ≤ 1073741824) : F_lecternlaw03_ScanStands p = some true := by
  unfold F_lecternlaw03_ScanStands
  rw [awake_t, Option.bind_some, Bool.not_true, cond_false]
  obtain ⟨L, a, e, h1, h2, h3⟩ := all_sp p hp
  rw [h1, Option.bind_some]
  dsimp only
  by_cases he : e = 0
  case neg =>
    obtain ⟨rfl, h4, h5⟩ := h2 he
    rw [show (e != 0) = true by simpa using he, cond_true, decide_eq_true h4, decide_eq_true h5]; rfl
  obtain ⟨b, _, r2, r3, ha, hP, hL⟩ := h3 he
  rw [show (e != 0) = false by simpa using he, cond_false]
  simp only [letJ]
  rw [stands_l0 p b L a e hp r3 hL hP, Option.bind_some]
  dsimp only
  rw [show (a == 0) = true by simpa using ha, cond_true]
  by_cases h0 : 0 < L.length
  · rw [decide_eq_true (by omega), cond_true]
  · rw [decide_eq_false (by omega), cond_false, r2, Option.bind_some]
    have hb0 := hP.2.1 (List.length_eq_zero_iff.1 (by omega))
    rw [hb0]; rfl
end Go.Proofs.YtfokkdofcekdbaaDoor
