/- Characters and names: what the program's functions answer. No condition. -/
import Derived.Test.YtfokkdofcekdbaaDoorPf
import Derived.Test.YtfokkdofcekdbaaDoorPl1
import Derived.KernelRfl
import Derived.Lib.MapLaws
import Derived.Lib.TrimUEq
import Derived.Lib.ValidLaws
set_option linter.unusedSimpArgs false
set_option linter.unusedVariables false
set_option maxRecDepth 20000
namespace Go.Proofs.YtfokkdofcekdbaaDoor
open Go.Lib (decodeL decodeN)
theorem getD_drop (p : List UInt8) (x k : Nat) : (p.drop x).getD k 0 = p.getD (x + k) 0 := by simp [List.getD, List.getElem?_drop]
theorem decN_facts (n b0 b1 b2 b3 : Nat) : (b0 < 128 → decodeN n b0 b1 b2 b3 = (b0, 1)) ∧ (2 ≤ (decodeN n b0 b1 b2 b3).2 → 128 ≤ b1) ∧ (3 ≤ (decodeN n b0 b1 b2 b3).2 → 128 ≤ b2) ∧ (4 ≤ (decodeN n b0 b1 b2 b3).2 → 128 ≤ b3) ∧ (decodeN n b0 b1 b2 b3).2 ≤ 4 := by
  unfold decodeN
  repeat' split
  all_goals refine ⟨fun h => ?_, fun h => ?_, fun h => ?_, fun h => ?_, ?_⟩
  all_goals first | rfl | omega | (simp only at *; omega)
theorem drop_ne {α : Type} {l : List α} {i : Nat} (h : i < l.length) : l.drop i = l[i] :: l.drop (i + 1) := List.drop_eq_getElem_cons h
theorem dec_bytes (p : List UInt8) (x : Nat) (hx : x < p.length) : 1 ≤ (decodeL (p.drop x)).2 ∧ x + (decodeL (p.drop x)).2 ≤ p.length ∧ ((p.getD x 0).toNat < 128 → decodeL (p.drop x) = ((p.getD x 0).toNat, 1)) ∧ ∀ k, 1 ≤ k → k < (decodeL (p.drop x)).2 → 128 ≤ (p.getD (x + k) 0).toNat := by
  have hne : p.drop x ≠ [] := by intro h; have := congrArg List.length h; simp at this; omega
  have h1 := Lib.decodeL_width (p.drop x)
  have h2 := Lib.decodeL_le (p.drop x) hne
  have e := Lib.decodeL_N (p.drop x)
  simp only [getD_drop] at e
  have f := decN_facts (p.drop x).length (p.getD (x + 0) 0).toNat (p.getD (x + 1) 0).toNat (p.getD (x + 2) 0).toNat (p.getD (x + 3) 0).toNat
  rw [← e] at f
  obtain ⟨f0, f1, f2, f3, f4⟩ := f
  rw [List.length_drop] at h2
  refine ⟨h1, by omega, fun h => f0 h, fun k hk1 hk2 => ?_⟩
  match k, hk1, hk2 with
  | 1, _, hk => exact f1 (by omega)
  | 2, _, hk => exact f2 (by omega)
  | 3, _, hk => exact f3 (by omega)
  | k + 4, _, hk => omega
theorem dec_at (p : List UInt8) (x : Nat) : (rnS p x = ((decodeL (p.drop x)).1 : Int)) ∧ wdS p x = (decodeL (p.drop x)).2 := by
  have := Lib.decodeL_drop ⟨p.toArray⟩ x
  simp only at this
  unfold rnS wdS
  rw [← this]
  exact ⟨rfl, rfl⟩

/-- Malformed: the answer of the library's decoder. -/
def badR (d : Nat × Nat) : Bool := decide (d.1 = 65533 ∧ d.2 = 1)
/-- The spans' search. -/
def inP (r : Int) : List T_char_span → Bool
  | [] => false
  | s :: l => if r ≤ s.hi then decide (s.lo ≤ r) else inP r l
theorem F_in (r : Int) (l : List T_char_span) (hl : l.length ≤ 9223372036854775807) : F_char_in r l = some (inP r l) := by
  unfold F_char_in
  simp only [letJ]
  obtain ⟨o, h1, h2⟩ := iter_spec (b := F_char_in_l0 r l) (fun i x => x = (i : Int) ∧ inP r l = inP r (l.drop i)) (fun o => match o with | .inl _ => inP r l = false | .inr b => inP r l = b) l.length (x0 := (0 : Int)) ⟨rfl, by simp⟩
    (fun i x rec hi ⟨hx, hI⟩ => by
      subst hx
      rw [drop_ne hi, inP] at hI
      unfold F_char_in_l0
      rw [decide_eq_true (by omega), cond_true, idx_some hi, Option.bind_some, w64 (by omega) (by omega)]
      by_cases c : r ≤ l[i].hi
      · rw [if_pos c] at hI
        rw [decide_eq_true c]
        exact .inr ⟨.inr _, rfl, hI⟩
      · rw [if_neg c] at hI
        rw [decide_eq_false c]
        exact .inl ⟨_, rfl, rfl, hI⟩)
    (fun x rec ⟨hx, hI⟩ => ⟨.inl (), by
      subst hx
      unfold F_char_in_l0
      rw [decide_eq_false (by omega), cond_false], by show inP r l = false; rw [hI, List.drop_length]; rfl⟩) (n := FUEL) (by unfold FUEL; omega)
  rw [h1, Option.bind_some]
  cases o with
  | inl u => simp only at h2; rw [h2]
  | inr b => simp only at h2; rw [h2]
/-- Spans in order. -/
def srt : List T_char_span → Bool
  | [] => true
  | s :: l => l.all (fun t => decide (s.hi < t.lo)) && srt l
theorem inP_any (r : Int) : ∀ l, srt l = true → inP r l = l.any fun s => decide (s.lo ≤ r ∧ r ≤ s.hi)
  | [], _ => rfl
  | s :: l, h => by
    simp only [srt, Bool.and_eq_true, List.all_eq_true, decide_eq_true_eq] at h
    simp only [inP, List.any_cons]
    by_cases c : r ≤ s.hi
    · rw [if_pos c]
      have : (l.any fun s => decide (s.lo ≤ r ∧ r ≤ s.hi)) = false := by
        rw [List.any_eq_false]
        intro t ht
        have := h.1 t ht
        simp only [decide_eq_true_eq]; omega
      rw [this, Bool.or_false]
      by_cases c2 : s.lo ≤ r <;> simp [c, c2]
    · rw [if_neg c, inP_any r l h.2, decide_eq_false (fun hh => c hh.2), Bool.false_or]
def charP (r : Int) : Bool := decide (r = 9 ∨ r = 10 ∨ r = 13 ∨ (32 ≤ r ∧ r ≤ 55295) ∨ (57344 ≤ r ∧ r ≤ 65533) ∨ (65536 ≤ r ∧ r ≤ 1114111))
def startP (r : Int) : Bool := decide ((65 ≤ r ∧ r ≤ 90) ∨ r = 95 ∨ (97 ≤ r ∧ r ≤ 122) ∨ (192 ≤ r ∧ r ≤ 214) ∨ (216 ≤ r ∧ r ≤ 246) ∨ (248 ≤ r ∧ r ≤ 767) ∨ (880 ≤ r ∧ r ≤ 893) ∨ (895 ≤ r ∧ r ≤ 8191) ∨ (8204 ≤ r ∧ r ≤ 8205) ∨ (8304 ≤ r ∧ r ≤ 8591) ∨ (11264 ≤ r ∧ r ≤ 12271) ∨ (12289 ≤ r ∧ r ≤ 55295) ∨ (63744 ≤ r ∧ r ≤ 64975) ∨ (65008 ≤ r ∧ r ≤ 65533) ∨ (65536 ≤ r ∧ r ≤ 983039))
def partP (r : Int) : Bool := startP r || decide (r = 45 ∨ r = 46 ∨ (48 ≤ r ∧ r ≤ 57) ∨ r = 183 ∨ (768 ≤ r ∧ r ≤ 879) ∨ (8255 ≤ r ∧ r ≤ 8256))
theorem in_eq (r : Int) (k : Bool → Option Bool) (l : List T_char_span) (hl : l.length ≤ 9223372036854775807) : (F_char_in r l).bind k = k (inP r l) := by rw [F_in r l hl]; rfl
theorem F_isChar (r : Int) : F_char_IsChar r = some (charP r) := by
  unfold F_char_IsChar charP
  simp only [letJ]
  by_cases c : r = 9 ∨ r = 10 ∨ r = 13
  · have e : (((r == (9 : Int)) || (r == (10 : Int))) || (r == (13 : Int))) = true := by simp only [Bool.or_eq_true, beq_iff_eq]; omega
    rw [e, cond_true, decide_eq_true (by omega)]
  · have e : (((r == (9 : Int)) || (r == (10 : Int))) || (r == (13 : Int))) = false := by simp only [Bool.or_eq_false_iff, beq_eq_false_iff_ne]; omega
    rw [e, cond_false, in_eq _ _ _ (by decide)]
    congr 1
    rw [inP_any _ _ (by decide), Bool.eq_iff_iff]
    simp only [List.any_cons, List.any_nil, Bool.or_eq_true, decide_eq_true_eq, Bool.false_eq_true, or_false]
    omega
theorem F_isStart (r : Int) : F_char_IsStart r = some (startP r) := by
  unfold F_char_IsStart startP
  by_cases c : r < 128
  · rw [decide_eq_true c, cond_true]
    congr 1
    rw [Bool.eq_iff_iff]
    simp only [Bool.or_eq_true, Bool.and_eq_true, beq_iff_eq, decide_eq_true_eq]
    omega
  · rw [decide_eq_false c, cond_false, in_eq _ _ _ (by decide)]
    congr 1
    rw [inP_any _ _ (by decide), Bool.eq_iff_iff]
    simp only [List.any_cons, List.any_nil, Bool.or_eq_true, decide_eq_true_eq, Bool.false_eq_true, or_false]
    omega
theorem F_isPart (r : Int) : F_char_IsPart r = some (partP r) := by
  unfold F_char_IsPart partP
  rw [F_isStart, Option.bind_some]
  simp only [letJ]
  by_cases c : startP r = true ∨ r = 45 ∨ r = 46 ∨ (48 ≤ r ∧ r ≤ 57) ∨ r = 183
  · have e : ((((startP r || (r == (45 : Int))) || (r == (46 : Int))) || ((decide ((48 : Int) ≤ r)) && (decide (r ≤ (57 : Int))))) || (r == (183 : Int))) = true := by
      simp only [Bool.or_eq_true, Bool.and_eq_true, beq_iff_eq, decide_eq_true_eq]
      rcases c with c | c
      · simp [c]
      · omega
    rw [e, cond_true]
    congr 1
    rcases c with c | c
    · simp [c]
    · rw [decide_eq_true (by omega), Bool.or_true]
  · have hs : startP r = false := by simpa using fun h => c (.inl h)
    have e : ((((startP r || (r == (45 : Int))) || (r == (46 : Int))) || ((decide ((48 : Int) ≤ r)) && (decide (r ≤ (57 : Int))))) || (r == (183 : Int))) = false := by
      rw [Bool.eq_false_iff]
      simp only [ne_eq, Bool.or_eq_true, Bool.and_eq_true, beq_iff_eq, decide_eq_true_eq, hs, Bool.false_eq_true, false_or]
      intro h; apply c; right; omega
    rw [e, cond_false, in_eq _ _ _ (by decide)]
    congr 1
    rw [hs, Bool.false_or]
    rw [inP_any _ _ (by decide), Bool.eq_iff_iff]
    simp only [List.any_cons, List.any_nil, Bool.or_eq_true, decide_eq_true_eq, Bool.false_eq_true, or_false]
    omega
theorem decN_two (n b0 b1 b2 b3 : Nat) : (decodeN n b0 b1 b2 b3).2 = 2 → (decodeN n b0 b1 b2 b3).1 ≤ 2047 := by
  unfold decodeN
  repeat' split
  all_goals first | (intro h; simp only at h; omega) | (intro _; simp only; omega)
theorem badR_iff (l : List UInt8) (x : Nat) (hx : x < l.length) : ((((decodeL (l.drop x)).1 : Int) == (65533 : Int)) && decide (((decodeL (l.drop x)).2 : Int) < (3 : Int))) = badR (decodeL (l.drop x)) := by
  obtain ⟨d1, _⟩ := dec_bytes l x hx
  have e := Lib.decodeL_N (l.drop x)
  have h2 := decN_two (l.drop x).length ((l.drop x).getD 0 0).toNat ((l.drop x).getD 1 0).toNat ((l.drop x).getD 2 0).toNat ((l.drop x).getD 3 0).toNat
  rw [← e] at h2
  unfold badR
  rw [Bool.eq_iff_iff]
  simp only [Bool.and_eq_true, beq_iff_eq, decide_eq_true_eq]
  omega
theorem F_next (p : List UInt8) (x : Nat) (hx : x < p.length) (hl : p.length ≤ 1073741824) : F_char_Next p (x : Int) = some (if badR (decodeL (p.drop x)) then (0, 0, 20) else if charP (decodeL (p.drop x)).1 then (((decodeL (p.drop x)).1 : Int), ((x + (decodeL (p.drop x)).2 : Nat) : Int), 0) else (0, 0, 21)) := by
  obtain ⟨d1, d2, d3, d4⟩ := dec_bytes p x hx
  unfold F_char_Next
  rw [decide_eq_false (by omega), decide_eq_false (by omega)]
  simp only [Bool.or_self, cond_false]
  have hs : slc p (x : Int) (p.length : Int) = some (p.drop x) := by
    unfold slc; rw [if_pos (by omega)]; simp only [Int.toNat_natCast]; rw [List.take_of_length_le (by simp)]
  rw [hs, Option.bind_some]
  have hne : p.drop x ≠ [] := by intro h; have := congrArg List.length h; simp at this; omega
  have hd : L_DecodeRune (p.drop x) = some (((decodeL (p.drop x)).1 : Int), ((decodeL (p.drop x)).2 : Int)) := by
    unfold L_DecodeRune Lib.decodeGo
    rw [if_neg hne, if_neg (by
      show ¬ ((p.drop x).toArray.size = 0)
      simp; omega)]
    rfl
  rw [hd, Option.bind_some]
  simp only [badR_iff p x hx, F_isChar, Option.bind_some]
  cases badR (decodeL (p.drop x))
  · cases charP ((decodeL (p.drop x)).1 : Int)
    · rfl
    · simp only [cond_false, Bool.not_true, Bool.false_eq_true, if_false, if_true]
      rw [w64 (by omega) (by omega)]; rfl
  · rfl
/-- Runes that may stand in a name, from a place on. -/
def okN (l : List UInt8) : Nat → Nat → Bool
  | 0, _ => true
  | n + 1, j => if j < l.length then !badR (decodeL (l.drop j)) && (partP (decodeL (l.drop j)).1 && ((!decide (j = 0) || startP (decodeL (l.drop j)).1) && okN l n (j + (decodeL (l.drop j)).2))) else true
theorem okN_valid (l : List UInt8) : ∀ n j, l.length ≤ j + n → okN l n j = true → Lib.validD (l.drop j) = true
  | 0, j, h, _ => by rw [List.drop_of_length_le (by omega)]; rfl
  | n + 1, j, h, hok => by
    by_cases hj : j < l.length
    · obtain ⟨d1, d2, d3, d4⟩ := dec_bytes l j hj
      simp only [okN, if_pos hj, Bool.and_eq_true, Bool.not_eq_true'] at hok
      have hne : l.drop j ≠ [] := by intro h; have := congrArg List.length h; simp at this; omega
      have hb := hok.1
      unfold badR at hb
      rw [Lib.validD_step _ hne, if_neg (of_decide_eq_false hb), List.drop_drop]
      exact okN_valid l n _ (by omega) hok.2.2.2
    · rw [List.drop_of_length_le (by omega)]; rfl
def nameP (l : List UInt8) : Bool := !(decide (l = []) || decide (100 < l.length)) && okN l l.length 0
theorem F_nameC (l : List UInt8) : F_char_Name l = some (nameP l) := by
  unfold F_char_Name nameP
  simp only [letJ]
  by_cases c : l = [] ∨ 100 < l.length
  · have e1 : ((l == ([] : List UInt8)) || decide ((100 : Int) < (l.length : Int))) = true := by
      simp only [Bool.or_eq_true, beq_iff_eq, decide_eq_true_eq]
      rcases c with rfl | c
      · left; rfl
      · right; omega
    have e2 : (decide (l = []) || decide (100 < l.length)) = true := by simpa using c
    rw [e1, e2]; rfl
  · have hl : l.length ≤ 100 := by omega
    have hne : 0 < l.length := List.length_pos_iff.2 fun h => c (.inl h)
    have e1 : ((l == ([] : List UInt8)) || decide ((100 : Int) < (l.length : Int))) = false := by
      simp only [Bool.or_eq_false_iff, beq_eq_false_iff_ne, decide_eq_false_iff_not]
      exact ⟨fun h => c (.inl h), by omega⟩
    have e2 : (decide (l = []) || decide (100 < l.length)) = false := by
      simp only [Bool.or_eq_false_iff, decide_eq_false_iff_not]
      exact ⟨fun h => c (.inl h), by omega⟩
    rw [e1, e2, cond_false, Bool.not_false, Bool.true_and]
    have hv : L_ValidString l = some (Lib.validD l) := by unfold L_ValidString; rw [if_pos (by omega)]
    rw [hv, Option.bind_some]
    cases hval : Lib.validD l
    · have : okN l l.length 0 = false := by
        cases hok : okN l l.length 0
        · rfl
        · have := okN_valid l l.length 0 (by omega) hok
          rw [List.drop_zero, hval] at this; cases this
      rw [this]; rfl
    simp only [Bool.not_true, cond_false]
    obtain ⟨o, h1, h2⟩ := iter_spec (b := F_char_Name_l0 l) (fun i x => i ≤ x ∧ x ≤ l.length ∧ okN l l.length 0 = okN l (l.length - i) x ∧ Lib.validD (l.drop x) = true) (fun o => match o with | .inl _ => okN l l.length 0 = true | .inr b => b = false ∧ okN l l.length 0 = false) l.length (x0 := (0 : Nat)) ⟨Nat.le_refl _, Nat.zero_le _, rfl, by simpa using hval⟩
      (fun i j rec hi ⟨hij, hjl, hI, hV⟩ => by
        have es : l.length - i = (l.length - (i + 1)) + 1 := by omega
        rw [es, okN] at hI
        unfold F_char_Name_l0
        by_cases hj : j < l.length
        · obtain ⟨d1, d2, d3, d4⟩ := dec_bytes l j hj
          obtain ⟨r1, r2⟩ := dec_at l j
          have hne : l.drop j ≠ [] := by intro h; have := congrArg List.length h; simp at this; omega
          rw [Lib.validD_step _ hne] at hV
          have hb : badR (decodeL (l.drop j)) = false := by
            unfold badR
            apply decide_eq_false
            intro h; rw [if_pos h] at hV; cases hV
          rw [if_neg (of_decide_eq_false hb), List.drop_drop] at hV
          rw [if_pos hj, hb] at hI
          simp only [letJ]
          rw [decide_eq_true hj, cond_true]
          simp only [r1, r2, F_isPart, F_isStart, Option.bind_some]
          have ez : (((j : Nat) : Int) == (0 : Int)) = decide (j = 0) := by
            rw [Bool.eq_iff_iff]; simp only [beq_iff_eq, decide_eq_true_eq]; omega
          rw [ez]
          cases hp : partP ((decodeL (l.drop j)).1 : Int)
          · rw [hp] at hI
            refine .inr ⟨.inr false, ?_, rfl, by simpa using hI⟩
            cases decide (j = 0) <;> cases startP ((decodeL (l.drop j)).1 : Int) <;> rfl
          · rw [hp] at hI
            cases hd0 : decide (j = 0)
            · rw [hd0] at hI
              exact .inl ⟨j + (decodeL (l.drop j)).2, rfl, by omega, d2, by simpa using hI, hV⟩
            · rw [hd0] at hI
              cases hs : startP ((decodeL (l.drop j)).1 : Int)
              · rw [hs] at hI
                exact .inr ⟨.inr false, rfl, rfl, by simpa using hI⟩
              · rw [hs] at hI
                exact .inl ⟨j + (decodeL (l.drop j)).2, rfl, by omega, d2, by simpa using hI, hV⟩
        · rw [if_neg hj] at hI
          rw [decide_eq_false hj, cond_false]
          exact .inr ⟨.inl (), rfl, hI⟩)
      (fun j rec ⟨hij, hjl, hI, hV⟩ => ⟨.inl (), by
        unfold F_char_Name_l0
        rw [decide_eq_false (by omega), cond_false], by show okN l l.length 0 = true; rw [hI, Nat.sub_self]; rfl⟩) (n := FUEL) (by unfold FUEL; omega)
    rw [h1, Option.bind_some]
    cases o with
    | inl u => simp only at h2; rw [h2]
    | inr b => obtain ⟨rfl, h3⟩ := h2; rw [h3]
/-! ## Loops -/
def sk (P : UInt8 → Bool) (s : List UInt8) (i : Nat) : Nat := i + ((s.drop i).takeWhile P).length
theorem sk_le (P : UInt8 → Bool) (s : List UInt8) (i : Nat) (h : i ≤ s.length) : i ≤ sk P s i ∧ sk P s i ≤ s.length := by
  unfold sk
  have := (List.takeWhile_sublist P (l := s.drop i)).length_le
  rw [List.length_drop] at this
  omega
theorem sk_end (P : UInt8 → Bool) (s : List UInt8) : sk P s s.length = s.length := by simp [sk]
theorem sk_step {P : UInt8 → Bool} {s : List UInt8} {i : Nat} (h : i < s.length) : sk P s i = if P s[i] = true then sk P s (i + 1) else i := by
  unfold sk
  rw [List.drop_eq_getElem_cons h, List.takeWhile_cons]
  split
  · rw [List.length_cons]; omega
  · rfl
theorem sk_stop {P : UInt8 → Bool} {s : List UInt8} : ∀ (j i : Nat), i + j = s.length → (h : sk P s i < s.length) → P s[sk P s i] = false
  | 0, i, e, h => by
    have : i = s.length := by omega
    subst this
    rw [sk_end] at h; omega
  | j + 1, i, e, h => by
    have hi : i < s.length := by omega
    cases hP : P s[i] with
    | true =>
      have e2 : sk P s i = sk P s (i + 1) := by rw [sk_step hi, if_pos hP]
      have := sk_stop (P := P) (s := s) j (i + 1) (by omega) (by rw [← e2]; exact h)
      simpa only [e2] using this
    | false =>
      have e2 : sk P s i = i := by rw [sk_step hi, if_neg (by simp [hP])]
      simp only [e2, hP]
theorem scan_loop {b : (Int → Option Int) → Int → Option Int} (P : UInt8 → Bool) (s : List UInt8)
    (hb : ∀ (rec : Int → Option Int) (i : Nat) (h : i < s.length), b rec (i : Int) = cond (P s[i]) (rec ((i + 1 : Nat) : Int)) (some (i : Int)))
    (he : ∀ rec : Int → Option Int, b rec (s.length : Int) = some (s.length : Int)) :
    ∀ (n j i : Nat), i + j = s.length → j < n → iter b n (i : Int) = some ((sk P s i : Nat) : Int)
  | 0, j, i, _, h => by omega
  | n + 1, 0, i, e, h => by
    have : i = s.length := by omega
    subst this
    show b (iter b n) _ = _
    rw [he, sk_end]
  | n + 1, j + 1, i, e, h => by
    have hi : i < s.length := by omega
    show b (iter b n) _ = _
    rw [hb _ i hi, sk_step hi]
    cases hP : P s[i] with
    | true => rw [cond_true, if_pos rfl]; exact scan_loop P s hb he n j (i + 1) (by omega) (by omega)
    | false => rw [cond_false, if_neg (by simp)]

theorem all_u8 {p : UInt8 → Bool} (h : (List.range 256).all (fun n => p (UInt8.ofNat n)) = true) (c : UInt8) : p c = true := by
  rw [List.all_eq_true] at h
  have := h c.toNat (List.mem_range.2 c.toNat_lt)
  simpa using this
theorem nat_u8 (c : UInt8) : ((c.toNat : Int)).toNat.toUInt8 = c := by simp
theorem iter_succ {σ ρ : Type} (b : (σ → Option ρ) → σ → Option ρ) (n : Nat) (x : σ) : iter b (n + 1) x = b (iter b n) x := rfl
theorem iter_two {σ τ ρ ψ : Type} {b : (σ → Option ρ) → σ → Option ρ} {c : (τ → Option ψ) → τ → Option ψ} (μ : σ → Nat) (I : σ → τ → Prop) (R : ρ → ψ → Prop)
    (step : ∀ x y, I x y → (∃ x' y', (∀ rec, b rec x = rec x') ∧ (∀ rec, c rec y = rec y') ∧ I x' y' ∧ μ x' < μ x) ∨ (∃ o q, (∀ rec, b rec x = some o) ∧ (∀ rec, c rec y = some q) ∧ R o q)) :
    ∀ (n m : Nat) (x : σ) (y : τ), I x y → μ x < n → μ x < m → ∃ o q, iter b n x = some o ∧ iter c m y = some q ∧ R o q
  | 0, _, x, y, _, h, _ => by omega
  | _ + 1, 0, x, y, _, _, h => by omega
  | n + 1, m + 1, x, y, hI, h1, h2 => by
    rcases step x y hI with ⟨x', y', e1, e2, hI', hm⟩ | ⟨o, q, e1, e2, hR⟩
    · obtain ⟨o, q, g1, g2, hR⟩ := iter_two μ I R step n m x' y' hI' (by omega) (by omega)
      exact ⟨o, q, by show b (iter b n) x = _; rw [e1, g1], by show c (iter c m) y = _; rw [e2, g2], hR⟩
    · exact ⟨o, q, e1 _, e2 _, hR⟩
end Go.Proofs.YtfokkdofcekdbaaDoor
