/- Joined by program out of Ch Sa Sb Sc Sd Se Sf Xa Xb Xc Xd. No condition. -/
import Derived.Test.YtfokkdofcekdbaaDoorPf
import Derived.Test.YtfokkdofcekdbaaDoorPl1
import Derived.KernelRfl
import Derived.Lib.MapLaws
import Derived.Lib.TrimUEq
import Derived.Lib.ValidLaws
import Derived.Lib.Index
import Derived.Laws.BitsAllLaws
import Derived.Lib.SlTrimSet
import Derived.Laws.Cover4
import Derived.Test.YtfokkdofcekdbaaDoorLa
import Derived.Lib.IndexMore
import Derived.Lib.IndexLaws
set_option linter.unusedSimpArgs false
set_option linter.unusedVariables false
set_option maxRecDepth 20000
namespace Go.Proofs.YtfokkdofcekdbaaDoor
open Go.Lib (decodeL decodeN)
theorem getD_drop (p : List UInt8) (x k : Nat) : (p.drop x).getD k 0 = p.getD (x + k) 0 := by simp [List.getD, List.getElem?_drop]
theorem decN_facts (n b0 b1 b2 b3 : Nat) : (b0 < 128 → decodeN n b0 b1 b2 b3 = (b0, 1)) ∧ (2 ≤ (decodeN n b0 b1 b2 b3).2 → 128 ≤ b1) ∧ (3 ≤ (decodeN n b0 b1 b2 b3).2 → 128 ≤ b2) ∧ (4 ≤ (decodeN n b0 b1 b2 b3).2 → 128 ≤ b3) ∧ (decodeN n b0 b1 b2 b3).2 ≤ 4 := by
 unfold decodeN
 repeat' split
 all_goals refine ⟨fun h => ?_, fun h => ?_, fun h => ?_, fun h => ?_, ?_⟩
 all_goals first | rfl | omega | (simp only at *; omega)
theorem drop_ne {α : Type} {l : List α} {i : Nat} (h : i < l.length) : l.drop i = l[i] :: l.drop (i + 1) := List.drop_eq_getElem_cons h
theorem dec_bytes (p : List UInt8) (x : Nat) (hx : x < p.length) : 1 ≤ (decodeL (p.drop x)).2 ∧ x + (decodeL (p.drop x)).2 ≤ p.length ∧ ((p.getD x 0).toNat < 128 → decodeL (p.drop x) = ((p.getD x 0).toNat, 1)) ∧ ∀ k, 1 ≤ k → k < (decodeL (p.drop x)).2 → 128 ≤ (p.getD (x + k) 0).toNat := by
 have hne : p.drop x ≠ [] := by intro h; have := congrArg List.length h; simp at this; omega
 have h1 := Lib.decodeL_width (p.drop x)
 have h2 := Lib.decodeL_le (p.drop x) hne
 have e := Lib.decodeL_N (p.drop x)
 simp only [getD_drop] at e
 have f := decN_facts (p.drop x).length (p.getD (x + 0) 0).toNat (p.getD (x + 1) 0).toNat (p.getD (x + 2) 0).toNat (p.getD (x + 3) 0).toNat
 rw [← e] at f
 obtain ⟨f0, f1, f2, f3, f4⟩ := f
 rw [List.length_drop] at h2
 refine ⟨h1, by omega, fun h => f0 h, fun k hk1 hk2 => ?_⟩
 match k, hk1, hk2 with
 | 1, _, hk => exact f1 (by omega)
 | 2, _, hk => exact f2 (by omega)
 | 3, _, hk => exact f3 (by omega)
 | k + 4, _, hk => omega
theorem dec_at (p : List UInt8) (x : Nat) : (rnS p x = ((decodeL (p.drop x)).1 : Int)) ∧ wdS p x = (decodeL (p.drop x)).2 := by
 have := Lib.decodeL_drop ⟨p.toArray⟩ x
 simp only at this
 unfold rnS wdS
 rw [← this]
 exact ⟨rfl, rfl⟩
def badR (d : Nat × Nat) : Bool := decide (d.1 = 65533 ∧ d.2 = 1)
def inP (r : Int) : List T_char_span → Bool
 | [] => false
 | s :: l => if r ≤ s.hi then decide (s.lo ≤ r) else inP r l
theorem F_in (r : Int) (l : List T_char_span) (hl : l.length ≤ 9223372036854775807) : F_char_in r l = some (inP r l) := by
 unfold F_char_in
 simp only [letJ]
 obtain ⟨o, h1, h2⟩ := iter_spec (b := F_char_in_l0 r l) (fun i x => x = (i : Int) ∧ inP r l = inP r (l.drop i)) (fun o => match o with | .inl _ => inP r l = false | .inr b => inP r l = b) l.length (x0 := (0 : Int)) ⟨rfl, by simp⟩
  (fun i x rec hi ⟨hx, hI⟩ => by
   subst hx
   rw [drop_ne hi, inP] at hI
   unfold F_char_in_l0
   rw [decide_eq_true (by omega), cond_true, idx_some hi, Option.bind_some, w64 (by omega) (by omega)]
   by_cases c : r ≤ l[i].hi
   ·rw [if_pos c] at hI
    rw [decide_eq_true c]
    exact .inr ⟨.inr _, rfl, hI⟩
   ·rw [if_neg c] at hI
    rw [decide_eq_false c]
    exact .inl ⟨_, rfl, rfl, hI⟩)
  (fun x rec ⟨hx, hI⟩ => ⟨.inl (), by
   subst hx
   unfold F_char_in_l0
   rw [decide_eq_false (by omega), cond_false], by show inP r l = false; rw [hI, List.drop_length]; rfl⟩) (n := FUEL) (by unfold FUEL; omega)
 rw [h1, Option.bind_some]
 cases o with
 | inl u => simp only at h2; rw [h2]
 | inr b => simp only at h2; rw [h2]
def srt : List T_char_span → Bool
 | [] => true
 | s :: l => l.all (fun t => decide (s.hi < t.lo)) && srt l
theorem inP_any (r : Int) : ∀ l, srt l = true → inP r l = l.any fun s => decide (s.lo ≤ r ∧ r ≤ s.hi)
 | [], _ => rfl
 | s :: l, h => by
  simp only [srt, Bool.and_eq_true, List.all_eq_true, decide_eq_true_eq] at h
  simp only [inP, List.any_cons]
  by_cases c : r ≤ s.hi
  ·rw [if_pos c]
   have : (l.any fun s => decide (s.lo ≤ r ∧ r ≤ s.hi)) = false := by
    rw [List.any_eq_false]
    intro t ht
    have := h.1 t ht
    simp only [decide_eq_true_eq]; omega
   rw [this, Bool.or_false]
   by_cases c2 : s.lo ≤ r <;> simp [c, c2]
  ·rw [if_neg c, inP_any r l h.2, decide_eq_false (fun hh => c hh.2), Bool.false_or]
def charP (r : Int) : Bool := decide (r = 9 ∨ r = 10 ∨ r = 13 ∨ (32 ≤ r ∧ r ≤ 55295) ∨ (57344 ≤ r ∧ r ≤ 65533) ∨ (65536 ≤ r ∧ r ≤ 1114111))
def startP (r : Int) : Bool := decide ((65 ≤ r ∧ r ≤ 90) ∨ r = 95 ∨ (97 ≤ r ∧ r ≤ 122) ∨ (192 ≤ r ∧ r ≤ 214) ∨ (216 ≤ r ∧ r ≤ 246) ∨ (248 ≤ r ∧ r ≤ 767) ∨ (880 ≤ r ∧ r ≤ 893) ∨ (895 ≤ r ∧ r ≤ 8191) ∨ (8204 ≤ r ∧ r ≤ 8205) ∨ (8304 ≤ r ∧ r ≤ 8591) ∨ (11264 ≤ r ∧ r ≤ 12271) ∨ (12289 ≤ r ∧ r ≤ 55295) ∨ (63744 ≤ r ∧ r ≤ 64975) ∨ (65008 ≤ r ∧ r ≤ 65533) ∨ (65536 ≤ r ∧ r ≤ 983039))
def partP (r : Int) : Bool := startP r || decide (r = 45 ∨ r = 46 ∨ (48 ≤ r ∧ r ≤ 57) ∨ r = 183 ∨ (768 ≤ r ∧ r ≤ 879) ∨ (8255 ≤ r ∧ r ≤ 8256))
theorem in_eq (r : Int) (k : Bool → Option Bool) (l : List T_char_span) (hl : l.length ≤ 9223372036854775807) : (F_char_in r l).bind k = k (inP r l) := by rw [F_in r l hl]; rfl
theorem F_isChar (r : Int) : F_char_IsChar r = some (charP r) := by
 unfold F_char_IsChar charP
 simp only [letJ]
 by_cases c : r = 9 ∨ r = 10 ∨ r = 13
 ·have e : (((r == (9 : Int)) || (r == (10 : Int))) || (r == (13 : Int))) = true := by simp only [Bool.or_eq_true, beq_iff_eq]; omega
  rw [e, cond_true, decide_eq_true (by omega)]
 ·have e : (((r == (9 : Int)) || (r == (10 : Int))) || (r == (13 : Int))) = false := by simp only [Bool.or_eq_false_iff, beq_eq_false_iff_ne]; omega
  rw [e, cond_false, in_eq _ _ _ (by decide)]
  congr 1
  rw [inP_any _ _ (by decide), Bool.eq_iff_iff]
  simp only [List.any_cons, List.any_nil, Bool.or_eq_true, decide_eq_true_eq, Bool.false_eq_true, or_false]
  omega
theorem F_isStart (r : Int) : F_char_IsStart r = some (startP r) := by
 unfold F_char_IsStart startP
 by_cases c : r < 128
 ·rw [decide_eq_true c, cond_true]
  congr 1
  rw [Bool.eq_iff_iff]
  simp only [Bool.or_eq_true, Bool.and_eq_true, beq_iff_eq, decide_eq_true_eq]
  omega
 ·rw [decide_eq_false c, cond_false, in_eq _ _ _ (by decide)]
  congr 1
  rw [inP_any _ _ (by decide), Bool.eq_iff_iff]
  simp only [List.any_cons, List.any_nil, Bool.or_eq_true, decide_eq_true_eq, Bool.false_eq_true, or_false]
  omega
theorem F_isPart (r : Int) : F_char_IsPart r = some (partP r) := by
 unfold F_char_IsPart partP
 rw [F_isStart, Option.bind_some]
 simp only [letJ]
 by_cases c : startP r = true ∨ r = 45 ∨ r = 46 ∨ (48 ≤ r ∧ r ≤ 57) ∨ r = 183
 ·have e : ((((startP r || (r == (45 : Int))) || (r == (46 : Int))) || ((decide ((48 : Int) ≤ r)) && (decide (r ≤ (57 : Int))))) || (r == (183 : Int))) = true := by
   simp only [Bool.or_eq_true, Bool.and_eq_true, beq_iff_eq, decide_eq_true_eq]
   rcases c with c | c
   ·simp [c]
   ·omega
  rw [e, cond_true]
  congr 1
  rcases c with c | c
  ·simp [c]
  ·rw [decide_eq_true (by omega), Bool.or_true]
 ·have hs : startP r = false := by simpa using fun h => c (.inl h)
  have e : ((((startP r || (r == (45 : Int))) || (r == (46 : Int))) || ((decide ((48 : Int) ≤ r)) && (decide (r ≤ (57 : Int))))) || (r == (183 : Int))) = false := by
   rw [Bool.eq_false_iff]
   simp only [ne_eq, Bool.or_eq_true, Bool.and_eq_true, beq_iff_eq, decide_eq_true_eq, hs, Bool.false_eq_true, false_or]
   intro h; apply c; right; omega
  rw [e, cond_false, in_eq _ _ _ (by decide)]
  congr 1
  rw [hs, Bool.false_or]
  rw [inP_any _ _ (by decide), Bool.eq_iff_iff]
  simp only [List.any_cons, List.any_nil, Bool.or_eq_true, decide_eq_true_eq, Bool.false_eq_true, or_false]
  omega
theorem decN_two (n b0 b1 b2 b3 : Nat) : (decodeN n b0 b1 b2 b3).2 = 2 → (decodeN n b0 b1 b2 b3).1 ≤ 2047 := by
 unfold decodeN
 repeat' split
 all_goals first | (intro h; simp only at h; omega) | (intro _; simp only; omega)
theorem badR_iff (l : List UInt8) (x : Nat) (hx : x < l.length) : ((((decodeL (l.drop x)).1 : Int) == (65533 : Int)) && decide (((decodeL (l.drop x)).2 : Int) < (3 : Int))) = badR (decodeL (l.drop x)) := by
 obtain ⟨d1, _⟩ := dec_bytes l x hx
 have e := Lib.decodeL_N (l.drop x)
 have h2 := decN_two (l.drop x).length ((l.drop x).getD 0 0).toNat ((l.drop x).getD 1 0).toNat ((l.drop x).getD 2 0).toNat ((l.drop x).getD 3 0).toNat
 rw [← e] at h2
 unfold badR
 rw [Bool.eq_iff_iff]
 simp only [Bool.and_eq_true, beq_iff_eq, decide_eq_true_eq]
 omega
theorem F_next (p : List UInt8) (x : Nat) (hx : x < p.length) (hl : p.length ≤ 1073741824) : F_char_Next p (x : Int) = some (if badR (decodeL (p.drop x)) then (0, 0, 20) else if charP (decodeL (p.drop x)).1 then (((decodeL (p.drop x)).1 : Int), ((x + (decodeL (p.drop x)).2 : Nat) : Int), 0) else (0, 0, 21)) := by
 obtain ⟨d1, d2, d3, d4⟩ := dec_bytes p x hx
 unfold F_char_Next
 rw [decide_eq_false (by omega), decide_eq_false (by omega)]
 simp only [Bool.or_self, cond_false]
 have hs : slc p (x : Int) (p.length : Int) = some (p.drop x) := by
  unfold slc; rw [if_pos (by omega)]; simp only [Int.toNat_natCast]; rw [List.take_of_length_le (by simp)]
 rw [hs, Option.bind_some]
 have hne : p.drop x ≠ [] := by intro h; have := congrArg List.length h; simp at this; omega
 have hd : L_DecodeRune (p.drop x) = some (((decodeL (p.drop x)).1 : Int), ((decodeL (p.drop x)).2 : Int)) := by
  unfold L_DecodeRune Lib.decodeGo
  rw [if_neg hne, if_neg (by
   show ¬ ((p.drop x).toArray.size = 0)
   simp; omega)]
  rfl
 rw [hd, Option.bind_some]
 simp only [badR_iff p x hx, F_isChar, Option.bind_some]
 cases badR (decodeL (p.drop x))
 ·cases charP ((decodeL (p.drop x)).1 : Int)
  ·rfl
  ·simp only [cond_false, Bool.not_true, Bool.false_eq_true, if_false, if_true]
   rw [w64 (by omega) (by omega)]; rfl
 ·rfl
def okN (l : List UInt8) : Nat → Nat → Bool
 | 0, _ => true
 | n + 1, j => if j < l.length then !badR (decodeL (l.drop j)) && (partP (decodeL (l.drop j)).1 && ((!decide (j = 0) || startP (decodeL (l.drop j)).1) && okN l n (j + (decodeL (l.drop j)).2))) else true
theorem okN_valid (l : List UInt8) : ∀ n j, l.length ≤ j + n → okN l n j = true → Lib.validD (l.drop j) = true
 | 0, j, h, _ => by rw [List.drop_of_length_le (by omega)]; rfl
 | n + 1, j, h, hok => by
  by_cases hj : j < l.length
  ·obtain ⟨d1, d2, d3, d4⟩ := dec_bytes l j hj
   simp only [okN, if_pos hj, Bool.and_eq_true, Bool.not_eq_true'] at hok
   have hne : l.drop j ≠ [] := by intro h; have := congrArg List.length h; simp at this; omega
   have hb := hok.1
   unfold badR at hb
   rw [Lib.validD_step _ hne, if_neg (of_decide_eq_false hb), List.drop_drop]
   exact okN_valid l n _ (by omega) hok.2.2.2
  ·rw [List.drop_of_length_le (by omega)]; rfl
def nameP (l : List UInt8) : Bool := !(decide (l = []) || decide (100 < l.length)) && okN l l.length 0
theorem F_nameC (l : List UInt8) : F_char_Name l = some (nameP l) := by
 unfold F_char_Name nameP
 simp only [letJ]
 by_cases c : l = [] ∨ 100 < l.length
 ·have e1 : ((l == ([] : List UInt8)) || decide ((100 : Int) < (l.length : Int))) = true := by
   simp only [Bool.or_eq_true, beq_iff_eq, decide_eq_true_eq]
   rcases c with rfl | c
   ·left; rfl
   ·right; omega
  have e2 : (decide (l = []) || decide (100 < l.length)) = true := by simpa using c
  rw [e1, e2]; rfl
 ·have hl : l.length ≤ 100 := by omega
  have hne : 0 < l.length := List.length_pos_iff.2 fun h => c (.inl h)
  have e1 : ((l == ([] : List UInt8)) || decide ((100 : Int) < (l.length : Int))) = false := by
   simp only [Bool.or_eq_false_iff, beq_eq_false_iff_ne, decide_eq_false_iff_not]
   exact ⟨fun h => c (.inl h), by omega⟩
  have e2 : (decide (l = []) || decide (100 < l.length)) = false := by
   simp only [Bool.or_eq_false_iff, decide_eq_false_iff_not]
   exact ⟨fun h => c (.inl h), by omega⟩
  rw [e1, e2, cond_false, Bool.not_false, Bool.true_and]
  have hv : L_ValidString l = some (Lib.validD l) := by unfold L_ValidString; rw [if_pos (by omega)]
  rw [hv, Option.bind_some]
  cases hval : Lib.validD l
  ·have : okN l l.length 0 = false := by
    cases hok : okN l l.length 0
    ·rfl
    ·have := okN_valid l l.length 0 (by omega) hok
     rw [List.drop_zero, hval] at this; cases this
   rw [this]; rfl
  simp only [Bool.not_true, cond_false]
  obtain ⟨o, h1, h2⟩ := iter_spec (b := F_char_Name_l0 l) (fun i x => i ≤ x ∧ x ≤ l.length ∧ okN l l.length 0 = okN l (l.length - i) x ∧ Lib.validD (l.drop x) = true) (fun o => match o with | .inl _ => okN l l.length 0 = true | .inr b => b = false ∧ okN l l.length 0 = false) l.length (x0 := (0 : Nat)) ⟨Nat.le_refl _, Nat.zero_le _, rfl, by simpa using hval⟩
   (fun i j rec hi ⟨hij, hjl, hI, hV⟩ => by
    have es : l.length - i = (l.length - (i + 1)) + 1 := by omega
    rw [es, okN] at hI
    unfold F_char_Name_l0
    by_cases hj : j < l.length
    ·obtain ⟨d1, d2, d3, d4⟩ := dec_bytes l j hj
     obtain ⟨r1, r2⟩ := dec_at l j
     have hne : l.drop j ≠ [] := by intro h; have := congrArg List.length h; simp at this; omega
     rw [Lib.validD_step _ hne] at hV
     have hb : badR (decodeL (l.drop j)) = false := by
      unfold badR
      apply decide_eq_false
      intro h; rw [if_pos h] at hV; cases hV
     rw [if_neg (of_decide_eq_false hb), List.drop_drop] at hV
     rw [if_pos hj, hb] at hI
     simp only [letJ]
     rw [decide_eq_true hj, cond_true]
     simp only [r1, r2, F_isPart, F_isStart, Option.bind_some]
     have ez : (((j : Nat) : Int) == (0 : Int)) = decide (j = 0) := by
      rw [Bool.eq_iff_iff]; simp only [beq_iff_eq, decide_eq_true_eq]; omega
     rw [ez]
     cases hp : partP ((decodeL (l.drop j)).1 : Int)
     ·rw [hp] at hI
      refine .inr ⟨.inr false, ?_, rfl, by simpa using hI⟩
      cases decide (j = 0) <;> cases startP ((decodeL (l.drop j)).1 : Int) <;> rfl
     ·rw [hp] at hI
      cases hd0 : decide (j = 0)
      ·rw [hd0] at hI
       exact .inl ⟨j + (decodeL (l.drop j)).2, rfl, by omega, d2, by simpa using hI, hV⟩
      ·rw [hd0] at hI
       cases hs : startP ((decodeL (l.drop j)).1 : Int)
       ·rw [hs] at hI
        exact .inr ⟨.inr false, rfl, rfl, by simpa using hI⟩
       ·rw [hs] at hI
        exact .inl ⟨j + (decodeL (l.drop j)).2, rfl, by omega, d2, by simpa using hI, hV⟩
    ·rw [if_neg hj] at hI
     rw [decide_eq_false hj, cond_false]
     exact .inr ⟨.inl (), rfl, hI⟩)
   (fun j rec ⟨hij, hjl, hI, hV⟩ => ⟨.inl (), by
    unfold F_char_Name_l0
    rw [decide_eq_false (by omega), cond_false], by show okN l l.length 0 = true; rw [hI, Nat.sub_self]; rfl⟩) (n := FUEL) (by unfold FUEL; omega)
  rw [h1, Option.bind_some]
  cases o with
  | inl u => simp only at h2; rw [h2]
  | inr b => obtain ⟨rfl, h3⟩ := h2; rw [h3]
def sk (P : UInt8 → Bool) (s : List UInt8) (i : Nat) : Nat := i + ((s.drop i).takeWhile P).length
theorem sk_le (P : UInt8 → Bool) (s : List UInt8) (i : Nat) (h : i ≤ s.length) : i ≤ sk P s i ∧ sk P s i ≤ s.length := by
 unfold sk
 have := (List.takeWhile_sublist P (l := s.drop i)).length_le
 rw [List.length_drop] at this
 omega
theorem sk_end (P : UInt8 → Bool) (s : List UInt8) : sk P s s.length = s.length := by simp [sk]
theorem sk_step {P : UInt8 → Bool} {s : List UInt8} {i : Nat} (h : i < s.length) : sk P s i = if P s[i] = true then sk P s (i + 1) else i := by
 unfold sk
 rw [List.drop_eq_getElem_cons h, List.takeWhile_cons]
 split
 ·rw [List.length_cons]; omega
 ·rfl
theorem sk_stop {P : UInt8 → Bool} {s : List UInt8} : ∀ (j i : Nat), i + j = s.length → (h : sk P s i < s.length) → P s[sk P s i] = false
 | 0, i, e, h => by
  have : i = s.length := by omega
  subst this
  rw [sk_end] at h; omega
 | j + 1, i, e, h => by
  have hi : i < s.length := by omega
  cases hP : P s[i] with
  | true =>
   have e2 : sk P s i = sk P s (i + 1) := by rw [sk_step hi, if_pos hP]
   have := sk_stop (P := P) (s := s) j (i + 1) (by omega) (by rw [← e2]; exact h)
   simpa only [e2] using this
  | false =>
   have e2 : sk P s i = i := by rw [sk_step hi, if_neg (by simp [hP])]
   simp only [e2, hP]
theorem scan_loop {b : (Int → Option Int) → Int → Option Int} (P : UInt8 → Bool) (s : List UInt8)
  (hb : ∀ (rec : Int → Option Int) (i : Nat) (h : i < s.length), b rec (i : Int) = cond (P s[i]) (rec ((i + 1 : Nat) : Int)) (some (i : Int)))
  (he : ∀ rec : Int → Option Int, b rec (s.length : Int) = some (s.length : Int)) :
  ∀ (n j i : Nat), i + j = s.length → j < n → iter b n (i : Int) = some ((sk P s i : Nat) : Int)
 | 0, j, i, _, h => by omega
 | n + 1, 0, i, e, h => by
  have : i = s.length := by omega
  subst this
  show b (iter b n) _ = _
  rw [he, sk_end]
 | n + 1, j + 1, i, e, h => by
  have hi : i < s.length := by omega
  show b (iter b n) _ = _
  rw [hb _ i hi, sk_step hi]
  cases hP : P s[i] with
  | true => rw [cond_true, if_pos rfl]; exact scan_loop P s hb he n j (i + 1) (by omega) (by omega)
  | false => rw [cond_false, if_neg (by simp)]
theorem all_u8 {p : UInt8 → Bool} (h : (List.range 256).all (fun n => p (UInt8.ofNat n)) = true) (c : UInt8) : p c = true := by
 rw [List.all_eq_true] at h
 have := h c.toNat (List.mem_range.2 c.toNat_lt)
 simpa using this
theorem nat_u8 (c : UInt8) : ((c.toNat : Int)).toNat.toUInt8 = c := by simp
theorem iter_succ {σ ρ : Type} (b : (σ → Option ρ) → σ → Option ρ) (n : Nat) (x : σ) : iter b (n + 1) x = b (iter b n) x := rfl
theorem iter_two {σ τ ρ ψ : Type} {b : (σ → Option ρ) → σ → Option ρ} {c : (τ → Option ψ) → τ → Option ψ} (μ : σ → Nat) (I : σ → τ → Prop) (R : ρ → ψ → Prop)
  (step : ∀ x y, I x y → (∃ x' y', (∀ rec, b rec x = rec x') ∧ (∀ rec, c rec y = rec y') ∧ I x' y' ∧ μ x' < μ x) ∨ (∃ o q, (∀ rec, b rec x = some o) ∧ (∀ rec, c rec y = some q) ∧ R o q)) :
  ∀ (n m : Nat) (x : σ) (y : τ), I x y → μ x < n → μ x < m → ∃ o q, iter b n x = some o ∧ iter c m y = some q ∧ R o q
 | 0, _, x, y, _, h, _ => by omega
 | _ + 1, 0, x, y, _, _, h => by omega
 | n + 1, m + 1, x, y, hI, h1, h2 => by
  rcases step x y hI with ⟨x', y', e1, e2, hI', hm⟩ | ⟨o, q, e1, e2, hR⟩
  ·obtain ⟨o, q, g1, g2, hR⟩ := iter_two μ I R step n m x' y' hI' (by omega) (by omega)
   exact ⟨o, q, by show b (iter b n) x = _; rw [e1, g1], by show c (iter c m) y = _; rw [e2, g2], hR⟩
  ·exact ⟨o, q, e1 _, e2 _, hR⟩
end Go.Proofs.YtfokkdofcekdbaaDoor
namespace Go.Proofs.YtfokkdofcekdbaaDoor
open Go.Lib (decodeL decodeN)
theorem slc_drop {α : Type} {l : List α} {n : Nat} (h : n ≤ l.length) : slc l (n : Int) (l.length : Int) = some (l.drop n) := by
 unfold slc; rw [if_pos (by omega)]; simp only [Int.toNat_natCast]; rw [List.take_of_length_le (by simp)]
theorem slc_take0 {α : Type} {l : List α} {n : Nat} (h : n ≤ l.length) : slc l (0 : Int) (n : Int) = some (l.take n) := by
 unfold slc; rw [if_pos (by omega)]; simp
def hereP (b : List UInt8) (i : Nat) (w : List UInt8) : Bool := w.isPrefixOf (b.drop i)
theorem isPre_take (w l : List UInt8) : w.isPrefixOf l = (decide (w.length ≤ l.length) && (l.take w.length == w)) := by
 rw [Bool.eq_iff_iff, List.isPrefixOf_iff_prefix, Bool.and_eq_true, decide_eq_true_eq, beq_iff_eq, List.prefix_iff_eq_take]
 constructor
 ·intro h
  refine ⟨?_, h.symm⟩
  have := congrArg List.length h
  rw [List.length_take] at this; omega
 ·rintro ⟨_, h⟩; exact h.symm
theorem hasPrefix_eq (l w : List UInt8) : F_bytes_HasPrefix l w = some (w.isPrefixOf l) := by
 unfold F_bytes_HasPrefix F_bytes_Equal
 simp only [letJ]
 rw [isPre_take]
 by_cases h : w.length ≤ l.length
 ·rw [decide_eq_true (show (w.length : Int) ≤ (l.length : Int) by omega), cond_true, slc_take0 h, Option.bind_some, Option.bind_some, decide_eq_true h, Bool.true_and]
 ·rw [decide_eq_false (show ¬ (w.length : Int) ≤ (l.length : Int) by omega), cond_false, decide_eq_false h, Bool.false_and]
theorem here_eq (b : List UInt8) (i : Nat) (w : List UInt8) (hi : i ≤ b.length) : F_scan_scanner_here ⟨b, (i : Int)⟩ w = some (hereP b i w) := by
 unfold F_scan_scanner_here
 dsimp only
 rw [slc_drop hi, Option.bind_some, hasPrefix_eq, Option.bind_some]; rfl
theorem hereP_len {b : List UInt8} {i : Nat} {w : List UInt8} (h : hereP b i w = true) (hi : i ≤ b.length) : i + w.length ≤ b.length := by
 unfold hereP at h
 rw [isPre_take, Bool.and_eq_true, decide_eq_true_eq, List.length_drop] at h
 omega
theorem hereP_get {b : List UInt8} {i : Nat} {c : UInt8} {w : List UInt8} (h : hereP b i (c :: w) = true) : b[i]? = some c := by
 unfold hereP at h
 rw [List.isPrefixOf_iff_prefix] at h
 obtain ⟨r, hr⟩ := h
 have : (b.drop i)[0]? = some c := by rw [← hr]; rfl
 rwa [List.getElem?_drop, Nat.add_zero] at this
theorem hereP_one {b : List UInt8} {i : Nat} {c : UInt8} : hereP b i [c] = (b[i]? == some c) := by
 unfold hereP
 by_cases hi : i < b.length
 ·rw [List.drop_eq_getElem_cons hi, List.getElem?_eq_getElem hi]
  simp only [List.isPrefixOf, Bool.and_true]
  rw [Bool.eq_iff_iff, beq_iff_eq, beq_iff_eq, Option.some.injEq]
  exact ⟨fun h => h.symm, fun h => h.symm⟩
 ·rw [List.drop_eq_nil_of_le (by omega), List.getElem?_eq_none (by omega)]; rfl
def wsP (c : UInt8) : Bool := decide ((0 : Int) ≤ Lib.indexByte [32, 9, 10, 13] c)
theorem spaces_eq (b : List UInt8) (a : Int) (i : Nat) (hi : i ≤ b.length) (hb : b.length ≤ 1073741824) : F_scan_scanner_spaces ⟨b, a⟩ (i : Int) = some ((sk wsP b i : Nat) : Int) := by
 unfold F_scan_scanner_spaces
 simp only [letJ]
 have := scan_loop (b := F_scan_scanner_spaces_l0 ⟨b, a⟩) wsP b (fun rec i h => by
  unfold F_scan_scanner_spaces_l0
  simp only [letJ]
  rw [decide_eq_true (by omega), cond_true, idx_some h, Option.bind_some]
  unfold L_IndexByte
  rw [nat_u8, Option.bind_some, w64 (by omega) (by omega)]
  rfl) (fun rec => by
  unfold F_scan_scanner_spaces_l0
  simp only [letJ]
  rw [decide_eq_false (by omega), cond_false, cond_false]) FUEL (b.length - i) i (by omega) (by unfold FUEL; omega)
 rw [this, Option.bind_some]
theorem sign_eq (b : List UInt8) (i : Nat) (w : List UInt8) (hi : i ≤ b.length) (hb : b.length ≤ 1073741824) : F_scan_scanner_sign ⟨b, (i : Int)⟩ w = some (if hereP b i w = true then (0, ⟨b, ((i + w.length : Nat) : Int)⟩) else (23, ⟨b, (i : Int)⟩)) := by
 unfold F_scan_scanner_sign
 rw [here_eq b i w hi, Option.bind_some]
 cases h : hereP b i w with
 | false => rfl
 | true =>
  have := hereP_len h hi
  dsimp only
  rw [Bool.not_true, cond_false, if_pos rfl, w64 (by omega) (by omega)]; rfl
theorem equals_sp (b : List UInt8) (i : Nat) (hi : i ≤ b.length) (hb : b.length ≤ 1073741824) : ∃ (e : Int) (j : Nat), F_scan_scanner_equals ⟨b, (i : Int)⟩ = some (e, ⟨b, (j : Int)⟩) ∧ i ≤ j ∧ j ≤ b.length := by
 obtain ⟨s1, s2⟩ := sk_le wsP b i hi
 unfold F_scan_scanner_equals
 rw [spaces_eq b _ i hi hb, Option.bind_some]
 dsimp only
 rw [sign_eq b _ _ s2 hb, Option.bind_some]
 cases h : hereP b (sk wsP b i) [61] with
 | false =>
  obtain ⟨t1, t2⟩ := sk_le wsP b _ s2
  rw [if_neg (by simp)]
  dsimp only
  rw [spaces_eq b _ _ s2 hb, Option.bind_some]
  exact ⟨23, _, rfl, by omega, t2⟩
 | true =>
  have hl := hereP_len h s2
  obtain ⟨t1, t2⟩ := sk_le wsP b _ hl
  rw [if_pos rfl]
  dsimp only
  rw [spaces_eq b _ _ hl hb, Option.bind_some]
  exact ⟨0, _, rfl, by omega, t2⟩
theorem ixB_lt (l : List UInt8) (c : UInt8) (h : 0 ≤ Lib.indexByte l c) : Lib.indexByte l c < l.length := by
 induction l with
 | nil => simp [Lib.indexByte] at h
 | cons b l ih =>
  simp only [Lib.indexByte] at h ⊢
  split
  ·rw [List.length_cons]; omega
  ·rename_i hb
   rw [if_neg hb] at h
   split at h
   ·omega
   ·rename_i h1
    rw [if_neg h1]
    have h2 := Lib.indexByte_ge l c
    have h3 : Lib.indexByte l c ≠ -1 := by simpa using h1
    have := ih (by omega)
    rw [List.length_cons]; omega
theorem ixB_nat (l : List UInt8) (c : UInt8) (h : ¬ Lib.indexByte l c < 0) : ∃ n : Nat, Lib.indexByte l c = (n : Int) ∧ n < l.length := by
 have := ixB_lt l c (by omega)
 exact ⟨(Lib.indexByte l c).toNat, by omega, by omega⟩
theorem quoted_sp (b : List UInt8) (i : Nat) (hi : i ≤ b.length) (hb : b.length ≤ 1073741824) : ∃ (v : List UInt8) (e : Int) (j : Nat), F_scan_scanner_quoted ⟨b, (i : Int)⟩ = some ((v, e), ⟨b, (j : Int)⟩) ∧ i ≤ j ∧ j ≤ b.length ∧ v.length ≤ b.length ∧ (e = 0 → i < j) := by
 have none : ∃ (v : List UInt8) (e : Int) (j : Nat), (some ((([] : List UInt8), (23 : Int)), (⟨b, (i : Int)⟩ : T_scan_scanner)) : Option (((List UInt8) × Int) × T_scan_scanner)) = some ((v, e), ⟨b, (j : Int)⟩) ∧ i ≤ j ∧ j ≤ b.length ∧ v.length ≤ b.length ∧ (e = 0 → i < j) := ⟨[], 23, i, rfl, Nat.le_refl _, hi, Nat.zero_le _, fun h => by omega⟩
 have main : i < b.length → ∃ (v : List UInt8) (e : Int) (j : Nat), ((slc b (IntKind.wrap .i64 ((i : Int) + (1 : Int))) (b.length : Int)).bind fun x7 =>
   (idx b (i : Int)).bind fun x8 =>
   (L_bIndexByte x7 (x8.toNat : Int)).bind fun x9 =>
   cond (decide (x9 < (0 : Int)))
   (some ((([] : List UInt8), (23 : Int)), (⟨b, (i : Int)⟩ : T_scan_scanner)))
   ((slc x7 (0 : Int) x9).bind fun x11 =>
   some ((x11, (0 : Int)), (⟨b, (IntKind.wrap .i64 ((i : Int) + (IntKind.wrap .i64 (x9 + (2 : Int)))))⟩ : T_scan_scanner)))) = some ((v, e), ⟨b, (j : Int)⟩) ∧ i ≤ j ∧ j ≤ b.length ∧ v.length ≤ b.length ∧ (e = 0 → i < j) := by
  intro hlt
  rw [w64 (x := (i : Int) + 1) (by omega) (by omega), show (i : Int) + 1 = ((i + 1 : Nat) : Int) by omega, slc_drop hlt, Option.bind_some, idx_some hlt, Option.bind_some]
  unfold L_bIndexByte
  rw [nat_u8, Option.bind_some]
  by_cases hn : Lib.indexByte (b.drop (i + 1)) b[i] < 0
  ·rw [decide_eq_true hn, cond_true]; exact none
  ·obtain ⟨n, e1, e2⟩ := ixB_nat _ _ hn
   rw [decide_eq_false hn, cond_false, e1, slc_take0 (Nat.le_of_lt e2), Option.bind_some]
   rw [List.length_drop] at e2
   rw [w64 (x := (n : Int) + 2) (by omega) (by omega), w64 (by omega) (by omega)]
   refine ⟨_, 0, i + (n + 2), rfl, by omega, by omega, ?_, fun _ => by omega⟩
   rw [List.length_take, List.length_drop]; omega
 unfold F_scan_scanner_quoted
 dsimp only
 rw [here_eq b i _ hi, here_eq b i _ hi, Option.bind_some]
 simp only [letJ]
 cases h1 : hereP b i [39] with
 | true =>
  have := hereP_len h1 hi
  rw [Bool.not_true, cond_false, cond_false]
  exact main (by simp at this; omega)
 | false =>
  rw [Bool.not_false, cond_true, Option.bind_some]
  cases h2 : hereP b i [34] with
  | true =>
   have := hereP_len h2 hi
   rw [Bool.not_true, cond_false]
   exact main (by simp at this; omega)
  | false => rw [Bool.not_false, cond_true]; exact none
theorem decodeRune_eq (b : List UInt8) (i : Nat) (hi : i < b.length) : L_DecodeRune (b.drop i) = some (((decodeL (b.drop i)).1 : Int), ((decodeL (b.drop i)).2 : Int)) := by
 have hne : b.drop i ≠ [] := by intro h; have := congrArg List.length h; simp at this; omega
 unfold L_DecodeRune Lib.decodeGo
 rw [if_neg hne, if_neg (by
  show ¬ ((b.drop i).toArray.size = 0)
  simp; omega)]
 rfl
theorem split_some (q : List UInt8) (hq : q.length ≤ 1073741824) : ∃ r, F_char_Split q = some r := by
 unfold F_char_Split L_Cut
 rw [if_pos (by omega), Option.bind_some]
 simp only [letJ, F_nameC, Option.bind_some]
 cases (Lib.cut q [58]).2.2 <;> cases nameP q <;> cases nameP (Lib.cut q [58]).1 <;> cases nameP (Lib.cut q [58]).2.1 <;> exact ⟨_, rfl⟩
theorem name_sp (b : List UInt8) (i : Nat) (hi : i ≤ b.length) (hb : b.length ≤ 1073741824) : ∃ (v : List UInt8) (e : Int) (j : Nat), F_scan_scanner_name ⟨b, (i : Int)⟩ = some ((v, e), ⟨b, (j : Int)⟩) ∧ i ≤ j ∧ j ≤ b.length ∧ v.length ≤ b.length ∧ (e = 0 → v ≠ [] ∧ i < j) := by
 have key : ∃ o : Int, iter (F_scan_scanner_name_l0 ⟨b, (i : Int)⟩) FUEL (i : Int) = some o ∧ ∃ j : Nat, o = (j : Int) ∧ i ≤ j ∧ j ≤ b.length := by
  refine iter_spec (b := F_scan_scanner_name_l0 ⟨b, (i : Int)⟩) (fun k x => ∃ j : Nat, x = (j : Int) ∧ i + k ≤ j ∧ j ≤ b.length) _ (b.length - i) (x0 := (i : Int)) ⟨i, rfl, by omega, hi⟩ ?_ ?_ (n := FUEL) (by unfold FUEL; omega)
  ·rintro k x rec hk ⟨j, rfl, h1, h2⟩
   unfold F_scan_scanner_name_l0
   dsimp only
   by_cases hj : j < b.length
   ·obtain ⟨d1, d2, _⟩ := dec_bytes b j hj
    rw [decide_eq_true (by omega), cond_true, slc_drop h2, Option.bind_some, decodeRune_eq b j hj, Option.bind_some]
    simp only [letJ, F_isPart, F_isStart, Option.bind_some]
    have hgo : IntKind.wrap .i64 ((j : Int) + ((decodeL (b.drop j)).2 : Int)) = ((j + (decodeL (b.drop j)).2 : Nat) : Int) := by rw [w64 (by omega) (by omega)]; omega
    rw [hgo]
    have two : ∀ c : Bool, (∃ y, cond c (some (j : Int)) (rec ((j + (decodeL (b.drop j)).2 : Nat) : Int)) = rec y ∧ ∃ j' : Nat, y = (j' : Int) ∧ i + (k + 1) ≤ j' ∧ j' ≤ b.length) ∨ (∃ o, cond c (some (j : Int)) (rec ((j + (decodeL (b.drop j)).2 : Nat) : Int)) = some o ∧ ∃ j' : Nat, o = (j' : Int) ∧ i ≤ j' ∧ j' ≤ b.length) := by
     intro c
     cases c with
     | false => exact .inl ⟨_, rfl, _, rfl, by omega, d2⟩
     | true => exact .inr ⟨_, rfl, j, rfl, by omega, h2⟩
    cases ((decodeL (b.drop j)).1 : Int) != 58 with
    | false => exact two false
    | true =>
     cases partP ((decodeL (b.drop j)).1 : Int) with
     | false => exact two true
     | true =>
      cases ((j : Int) == (i : Int)) with
      | false => exact two false
      | true => exact two (!startP ((decodeL (b.drop j)).1 : Int))
   ·rw [decide_eq_false (by omega), cond_false]
    exact .inr ⟨_, rfl, j, rfl, by omega, h2⟩
  ·rintro x rec ⟨j, rfl, h1, h2⟩
   have : j = b.length := by omega
   subst this
   unfold F_scan_scanner_name_l0
   dsimp only
   rw [decide_eq_false (by omega), cond_false]
   exact ⟨_, rfl, _, rfl, hi, Nat.le_refl _⟩
 obtain ⟨o, e1, j, rfl, h1, h2⟩ := key
 unfold F_scan_scanner_name
 simp only [letJ]
 rw [e1, Option.bind_some]
 have hsl : slc b (i : Int) (j : Int) = some ((b.drop i).take (j - i)) := by
  unfold slc; rw [if_pos (by omega)]; simp only [Int.toNat_natCast]
 rw [hsl, Option.bind_some]
 have hlen : ((b.drop i).take (j - i)).length = j - i := by rw [List.length_take, List.length_drop]; omega
 generalize (b.drop i).take (j - i) = w at hlen
 by_cases hw : w = []
 ·rw [show (w == []) = true by simp [hw], cond_true]
  exact ⟨[], 23, i, rfl, Nat.le_refl _, hi, Nat.zero_le _, fun h => by omega⟩
 ·obtain ⟨r, hr⟩ := split_some w (by omega)
  rw [show (w == []) = false by simp [hw], cond_false, hr, Option.bind_some]
  cases r.2.2 with
  | false => exact ⟨[], 24, i, rfl, Nat.le_refl _, hi, Nat.zero_le _, fun h => by omega⟩
  | true =>
   have : 0 < w.length := List.length_pos_iff.2 hw
   exact ⟨w, 0, j, rfl, h1, h2, by omega, fun _ => ⟨hw, by omega⟩⟩
end Go.Proofs.YtfokkdofcekdbaaDoor
namespace Go.Proofs.YtfokkdofcekdbaaDoor
open Go.Lib (decodeL decodeN)
theorem iter_dec {σ ρ : Type} {b : (σ → Option ρ) → σ → Option ρ} (μ : σ → Nat) (I : σ → Prop) (R : ρ → Prop)
  (step : ∀ x, I x → (∃ y, (∀ rec, b rec x = rec y) ∧ I y ∧ μ y < μ x) ∨ (∃ o, (∀ rec, b rec x = some o) ∧ R o)) :
  ∀ (n : Nat) (x : σ), I x → μ x < n → ∃ o, iter b n x = some o ∧ R o
 | 0, x, _, h => by omega
 | n + 1, x, hI, h1 => by
  rcases step x hI with ⟨y, e1, hI', hm⟩ | ⟨o, e1, hR⟩
  ·obtain ⟨o, g1, hR⟩ := iter_dec μ I R step n y hI' (by omega)
   exact ⟨o, by show b (iter b n) x = _; rw [e1, g1], hR⟩
  ·exact ⟨o, e1 _, hR⟩
theorem eqf_l2 (p0 p1 : List UInt8) (h0 : p0.length ≤ 1073741824) (h1 : p1.length ≤ 1073741824) : ∃ o, iter (F_strings_EqualFold_l2 p0 p1) FUEL (0 : Int) = some o ∧
  (∀ a, o = .inr (.inl a) → ∃ (i : Nat) (g0 : i < p0.length) (g1 : i < p1.length), a = (i : Int) ∧ (128 : Int) ≤ ior .u8 (p0[i].toNat : Int) (p1[i].toNat : Int)) := by
 refine iter_dec (b := F_strings_EqualFold_l2 p0 p1) (fun x => p0.length - x.toNat) (fun x => ∃ i : Nat, x = (i : Int) ∧ i ≤ p0.length) _ ?_ FUEL (0 : Int) ⟨0, rfl, Nat.zero_le _⟩ (by unfold FUEL; omega)
 rintro _ ⟨i, rfl, hi⟩
 by_cases hlt : i < p0.length ∧ i < p1.length
 ·obtain ⟨g0, g1⟩ := hlt
  have hmin : decide ((i : Int) < (if (p1.length : Int) < (p0.length : Int) then (p1.length : Int) else (p0.length : Int))) = true := by
   apply decide_eq_true; split <;> omega
  have hb : ∀ rec, F_strings_EqualFold_l2 p0 p1 rec (i : Int) = cond (decide ((128 : Int) ≤ (ior .u8 (p0[i].toNat : Int) (p1[i].toNat : Int))))
    (some (.inr (.inl (i : Int)))) (cond ((p1[i].toNat : Int) == (p0[i].toNat : Int)) (rec ((i + 1 : Nat) : Int))
     (cond (decide ((p1[i].toNat : Int) < (p0[i].toNat : Int)))
      (cond (((decide ((65 : Int) ≤ (p1[i].toNat : Int))) && (decide ((p1[i].toNat : Int) ≤ (90 : Int)))) && ((p0[i].toNat : Int) == (IntKind.wrap .u8 ((IntKind.wrap .u8 ((p1[i].toNat : Int) + (97 : Int))) - (65 : Int))))) (rec ((i + 1 : Nat) : Int)) (some (.inr (.inr false))))
      (cond (((decide ((65 : Int) ≤ (p0[i].toNat : Int))) && (decide ((p0[i].toNat : Int) ≤ (90 : Int)))) && ((p1[i].toNat : Int) == (IntKind.wrap .u8 ((IntKind.wrap .u8 ((p0[i].toNat : Int) + (97 : Int))) - (65 : Int))))) (rec ((i + 1 : Nat) : Int)) (some (.inr (.inr false)))))) := by
   intro rec
   unfold F_strings_EqualFold_l2
   simp only [letJ]
   rw [hmin, cond_true, idx_some g0, Option.bind_some, idx_some g1, Option.bind_some, w64 (by omega) (by omega)]
   rfl
  have go : ∃ y : Int, y = ((i + 1 : Nat) : Int) ∧ (∃ i : Nat, y = (i : Int) ∧ i ≤ p0.length) ∧ p0.length - y.toNat < p0.length - ((i : Nat) : Int).toNat := ⟨_, rfl, ⟨_, rfl, g0⟩, by omega⟩
  obtain ⟨y, hy, hI, hm⟩ := go
  cases c1 : decide ((128 : Int) ≤ (ior .u8 (p0[i].toNat : Int) (p1[i].toNat : Int))) with
  | true =>
   right
   exact ⟨.inr (.inl (i : Int)), fun rec => by rw [hb, c1, cond_true], fun a ha => by
    injection ha with ha; injection ha with ha
    exact ⟨i, g0, g1, ha.symm, of_decide_eq_true c1⟩⟩
  | false =>
   have fin : ∀ o : Unit ⊕ Int ⊕ Bool, o = .inr (.inr false) → ∀ a, o = .inr (.inl a) → ∃ (i : Nat) (g0 : i < p0.length) (g1 : i < p1.length), a = (i : Int) ∧ (128 : Int) ≤ ior .u8 (p0[i].toNat : Int) (p1[i].toNat : Int) := by
    rintro o rfl a ha; cases ha
   cases c2 : ((p1[i].toNat : Int) == (p0[i].toNat : Int)) with
   | true => exact .inl ⟨y, fun rec => by rw [hb, c1, cond_false, c2, cond_true, hy], hI, hm⟩
   | false =>
    cases c3 : decide ((p1[i].toNat : Int) < (p0[i].toNat : Int)) with
    | true =>
     cases c4 : (((decide ((65 : Int) ≤ (p1[i].toNat : Int))) && (decide ((p1[i].toNat : Int) ≤ (90 : Int)))) && ((p0[i].toNat : Int) == (IntKind.wrap .u8 ((IntKind.wrap .u8 ((p1[i].toNat : Int) + (97 : Int))) - (65 : Int))))) with
     | true => exact .inl ⟨y, fun rec => by rw [hb, c1, cond_false, c2, cond_false, c3, cond_true, c4, cond_true, hy], hI, hm⟩
     | false => exact .inr ⟨_, fun rec => by rw [hb, c1, cond_false, c2, cond_false, c3, cond_true, c4, cond_false], fin _ rfl⟩
    | false =>
     cases c4 : (((decide ((65 : Int) ≤ (p0[i].toNat : Int))) && (decide ((p0[i].toNat : Int) ≤ (90 : Int)))) && ((p1[i].toNat : Int) == (IntKind.wrap .u8 ((IntKind.wrap .u8 ((p0[i].toNat : Int) + (97 : Int))) - (65 : Int))))) with
     | true => exact .inl ⟨y, fun rec => by rw [hb, c1, cond_false, c2, cond_false, c3, cond_false, c4, cond_true, hy], hI, hm⟩
     | false => exact .inr ⟨_, fun rec => by rw [hb, c1, cond_false, c2, cond_false, c3, cond_false, c4, cond_false], fin _ rfl⟩
 ·right
  have hmin : decide ((i : Int) < (if (p1.length : Int) < (p0.length : Int) then (p1.length : Int) else (p0.length : Int))) = false := by
   apply decide_eq_false; split <;> omega
  exact ⟨.inl (), fun rec => by unfold F_strings_EqualFold_l2; rw [hmin, cond_false], fun a ha => by cases ha⟩
theorem eqf_l1 (c rn : Int) (hc : c = 120 ∨ c = 109 ∨ c = 108) (hr : 128 ≤ rn) : iter (F_strings_EqualFold_l1 c rn) FUEL (c - 32) = some c := by
 obtain ⟨m, hm⟩ : ∃ m, FUEL = m + 1 + 1 := ⟨FUEL - 2, by unfold FUEL; rfl⟩
 rw [hm, iter_succ]
 unfold F_strings_EqualFold_l1
 have h1 : ((c - 32 != c) && decide (c - 32 < rn)) = true := by simp; omega
 rw [h1, cond_true]
 have h2 : L_SimpleFold (c - 32) = some c := by
  rcases hc with rfl | rfl | rfl <;> rfl
 rw [h2, Option.bind_some]
 show iter (F_strings_EqualFold_l1 c rn) (m + 1) c = some c
 rw [iter_succ]
 unfold F_strings_EqualFold_l1
 have h3 : ((c != c) && decide (c < rn)) = false := by simp
 rw [h3, cond_false]
def xmlS (l : List UInt8) : Prop := l = [120, 109, 108] ∨ l = [109, 108] ∨ l = [108] ∨ l = []
theorem eqf_l0 (s : List UInt8) (hs : s.length ≤ 1073741824) (l : List UInt8) (hl : xmlS l) : ∃ o, iter (F_strings_EqualFold_l0 s) FUEL (l, (0 : Nat)) = some o ∧ True := by
 refine iter_dec (b := F_strings_EqualFold_l0 s) (fun x => s.length - x.2) (fun x => xmlS x.1) _ ?_ FUEL (l, (0 : Nat)) hl (by unfold FUEL; dsimp only; omega)
 rintro ⟨a, p⟩ hx
 dsimp only at hx ⊢
 by_cases hp : p < s.length
 ·obtain ⟨r1, r2⟩ := dec_at s p
  obtain ⟨d1, d2, _⟩ := dec_bytes s p hp
  have hw : s.length - (p + wdS s p) < s.length - p := by rw [r2]; omega
  have core : ∀ (c : UInt8) (t : List UInt8), a = c :: t → ((c.toNat : Int) = 120 ∨ (c.toNat : Int) = 109 ∨ (c.toNat : Int) = 108) → L_DecodeRuneInString a = some ((c.toNat : Int), 1) → xmlS t →
    (∃ y : List UInt8 × Nat, (∀ rec, F_strings_EqualFold_l0 s rec (a, p) = rec y) ∧ xmlS y.1 ∧ s.length - y.2 < s.length - p) ∨ (∃ o, (∀ rec, F_strings_EqualFold_l0 s rec (a, p) = some o) ∧ True) := by
   intro c t ha hc hd ht
   have hsl : slc a (1 : Int) (a.length : Int) = some t := by rw [slc_tail (by rw [ha]; simp), ha]; rfl
   generalize hrn : rnS s p = rn at *
   have hb : ∀ rec, F_strings_EqualFold_l0 s rec (a, p) = cond ((c.toNat : Int) == rn) (rec (t, p + wdS s p)) (cond (decide ((c.toNat : Int) < rn))
     (cond (decide (rn < (128 : Int))) (cond (((decide ((65 : Int) ≤ (c.toNat : Int))) && (decide ((c.toNat : Int) ≤ (90 : Int)))) && (rn == (IntKind.wrap .i32 ((IntKind.wrap .i32 ((c.toNat : Int) + (97 : Int))) - (65 : Int))))) (rec (t, p + wdS s p)) (some (.inr false)))
      ((L_SimpleFold (c.toNat : Int)).bind fun x102 => (iter (F_strings_EqualFold_l1 (c.toNat : Int) rn) FUEL x102).bind fun o => cond (o == rn) (rec (t, p + wdS s p)) (some (.inr false))))
     (cond (decide ((c.toNat : Int) < (128 : Int))) (cond (((decide ((65 : Int) ≤ rn)) && (decide (rn ≤ (90 : Int)))) && ((c.toNat : Int) == (IntKind.wrap .i32 ((IntKind.wrap .i32 (rn + (97 : Int))) - (65 : Int))))) (rec (t, p + wdS s p)) (some (.inr false)))
      ((L_SimpleFold rn).bind fun x102 => (iter (F_strings_EqualFold_l1 rn (c.toNat : Int)) FUEL x102).bind fun o => cond (o == (c.toNat : Int)) (rec (t, p + wdS s p)) (some (.inr false))))) := by
    intro rec
    unfold F_strings_EqualFold_l0
    simp only [letJ]
    rw [decide_eq_true hp, cond_true, show ((a.length : Int) == 0) = false by rw [ha]; simp; omega, cond_false, hd, Option.bind_some]
    dsimp only
    rw [hsl, Option.bind_some, hrn]
   have two : ∀ k : Bool, (∃ y : List UInt8 × Nat, (∀ rec : List UInt8 × Nat → Option ((List UInt8) ⊕ Bool), cond k (rec (t, p + wdS s p)) (some (.inr false)) = rec y) ∧ xmlS y.1 ∧ s.length - y.2 < s.length - p) ∨ (∃ o, (∀ rec : List UInt8 × Nat → Option ((List UInt8) ⊕ Bool), cond k (rec (t, p + wdS s p)) (some (.inr false)) = some o) ∧ True) := by
    intro k
    cases k with
    | true => exact .inl ⟨(t, p + wdS s p), fun _ => rfl, ht, hw⟩
    | false => exact .inr ⟨_, fun _ => rfl, trivial⟩
   simp only [hb]
   cases ((c.toNat : Int) == rn) with
   | true => exact .inl ⟨(t, p + wdS s p), fun _ => rfl, ht, hw⟩
   | false =>
    simp only [cond_false]
    by_cases c3 : (c.toNat : Int) < rn
    ·rw [decide_eq_true c3]
     simp only [cond_true]
     by_cases c4 : rn < 128
     ·rw [decide_eq_true c4]
      simp only [cond_true]
      exact two _
     ·rw [decide_eq_false c4]
      have hf : L_SimpleFold (c.toNat : Int) = some ((c.toNat : Int) - 32) := by rcases hc with h | h | h <;> rw [h] <;> rfl
      simp only [cond_false, hf, Option.bind_some, eqf_l1 _ rn hc (by omega)]
      exact two _
    ·rw [decide_eq_false c3, decide_eq_true (show (c.toNat : Int) < 128 by omega)]
     simp only [cond_false, cond_true]
     exact two _
  rcases hx with h | h | h | h
  ·exact core 120 [109, 108] h (.inl rfl) (by rw [h]; rfl) (.inr (.inl rfl))
  ·exact core 109 [108] h (.inr (.inl rfl)) (by rw [h]; rfl) (.inr (.inr (.inl rfl)))
  ·exact core 108 [] h (.inr (.inr rfl)) (by rw [h]; rfl) (.inr (.inr (.inr rfl)))
  ·right
   refine ⟨.inr false, fun rec => ?_, trivial⟩
   unfold F_strings_EqualFold_l0
   dsimp only
   rw [decide_eq_true hp, cond_true, h]; rfl
 ·right
  refine ⟨.inl a, fun rec => ?_, trivial⟩
  unfold F_strings_EqualFold_l0
  dsimp only
  rw [decide_eq_false hp, cond_false]
theorem eqf_xml (w : List UInt8) (hw : w.length ≤ 1073741824) : ∃ r, F_strings_EqualFold w [120, 109, 108] = some r := by
 obtain ⟨o, e1, e2⟩ := eqf_l2 w [120, 109, 108] hw (by simp)
 unfold F_strings_EqualFold
 simp only [letJ]
 rw [e1, Option.bind_some]
 match o, e2 with
 | .inl _, _ => exact ⟨_, rfl⟩
 | .inr (.inr r), _ => exact ⟨_, rfl⟩
 | .inr (.inl a), e2 =>
  obtain ⟨i, g0, g1, rfl, _⟩ := e2 a rfl
  have hx : xmlS (([120, 109, 108] : List UInt8).drop i) := by
   match i, g1 with
   | 0, _ => exact .inl rfl
   | 1, _ => exact .inr (.inl rfl)
   | 2, _ => exact .inr (.inr (.inl rfl))
  dsimp only
  rw [slc_drop (Nat.le_of_lt g0), Option.bind_some, slc_drop (Nat.le_of_lt g1), Option.bind_some]
  obtain ⟨o2, f1, _⟩ := eqf_l0 (w.drop i) (by rw [List.length_drop]; omega) _ hx
  rw [f1, Option.bind_some]
  cases o2 with
  | inl q => exact ⟨_, rfl⟩
  | inr q => exact ⟨_, rfl⟩
theorem eqf_ascii (w v : List UInt8) (hw : w.length ≤ 1073741824) (hv : v.length ≤ 1073741824) (h1 : ∀ b ∈ w, b.toNat < 128) (h2 : ∀ b ∈ v, b.toNat < 128) : ∃ r, F_strings_EqualFold w v = some r := by
 obtain ⟨o, e1, e2⟩ := eqf_l2 w v hw hv
 unfold F_strings_EqualFold
 simp only [letJ]
 rw [e1, Option.bind_some]
 match o, e2 with
 | .inl _, _ => exact ⟨_, rfl⟩
 | .inr (.inr r), _ => exact ⟨_, rfl⟩
 | .inr (.inl a), e2 =>
  obtain ⟨i, g0, g1, rfl, h⟩ := e2 a rfl
  have a1 := h1 _ (List.getElem_mem g0)
  have a2 := h2 _ (List.getElem_mem g1)
  have e : ior .u8 (w[i].toNat : Int) (v[i].toNat : Int) = ((w[i].toNat ||| v[i].toNat : Nat) : Int) := u8_or_nat _ _ (by omega) (by omega)
  have := Nat.or_lt_two_pow (n := 7) a1 a2
  rw [e] at h; omega
theorem cutPrefix_eq (l w : List UInt8) : F_strings_CutPrefix l w = some (if w.isPrefixOf l = true then (l.drop w.length, true) else (l, false)) := by
 have hh : F_stringslite_HasPrefix l w = some (w.isPrefixOf l) := by
  unfold F_stringslite_HasPrefix
  simp only [letJ]
  rw [isPre_take]
  by_cases h : w.length ≤ l.length
  ·rw [decide_eq_true (show (w.length : Int) ≤ (l.length : Int) by omega), cond_true, slc_take0 h, Option.bind_some, decide_eq_true h, Bool.true_and]
  ·rw [decide_eq_false (show ¬ (w.length : Int) ≤ (l.length : Int) by omega), cond_false, decide_eq_false h, Bool.false_and]
 unfold F_strings_CutPrefix F_stringslite_CutPrefix
 rw [hh, Option.bind_some]
 cases h : w.isPrefixOf l with
 | false => rfl
 | true =>
  have h2 := h
  rw [isPre_take, Bool.and_eq_true, decide_eq_true_eq] at h2
  rw [Bool.not_true, cond_false, slc_drop h2.1]; rfl
theorem dropWhile_nil {p : UInt8 → Bool} : ∀ {l : List UInt8}, l.dropWhile p = [] → ∀ b ∈ l, p b = true
 | [], _, b, hb => by cases hb
 | c :: l, h, b, hb => by
  rw [List.dropWhile_cons] at h
  split at h
  ·rename_i hc
   rcases List.mem_cons.1 hb with rfl | hb
   ·exact hc
   ·exact dropWhile_nil h b hb
  ·cases h
theorem dropWhile_head {p : UInt8 → Bool} : ∀ {l : List UInt8}, (∀ b ∈ l.dropWhile p, p b = true) → l.dropWhile p = []
 | [], _ => rfl
 | c :: l, h => by
  rw [List.dropWhile_cons] at h ⊢
  split
  ·rename_i hc
   rw [if_pos hc] at h
   exact dropWhile_head h
  ·rename_i hc
   rw [if_neg hc] at h
   exact absurd (h c (List.mem_cons_self ..)) hc
theorem trimS_nil {l cs : List UInt8} (h : Lib.trimS l cs = []) : ∀ b ∈ l, cs.contains b = true := by
 unfold Lib.trimS Lib.trimLeftS Lib.trimRightS at h
 have h1 := dropWhile_nil h
 have h2 : l.reverse.dropWhile (cs.contains ·) = [] := dropWhile_head (fun b hb => h1 b (by rw [List.mem_reverse]; exact hb))
 have h3 := dropWhile_nil h2
 exact fun b hb => h3 b (by rw [List.mem_reverse]; exact hb)
theorem fits_sp (w v : List UInt8) (hv : v.length ≤ 1073741824) : ∃ r, F_scan_fits w v = some r ∧ (w = [101, 110, 99, 111, 100, 105, 110, 103] → r = true → ∀ b ∈ v, b.toNat < 128) := by
 unfold F_scan_fits
 by_cases c1 : w = [118, 101, 114, 115, 105, 111, 110]
 ·rw [show (w == ([118, 101, 114, 115, 105, 111, 110] : List UInt8)) = true by rw [c1]; rfl, cond_true, cutPrefix_eq, Option.bind_some]
  have hne : w ≠ [101, 110, 99, 111, 100, 105, 110, 103] := by rw [c1]; decide
  simp only [letJ]
  generalize hx : (if ([49, 46] : List UInt8).isPrefixOf v = true then (v.drop ([49, 46] : List UInt8).length, true) else (v, false)) = x
  have hxl : x.1.length ≤ 1073741824 := by
   rw [← hx]; split
   ·dsimp only; rw [List.length_drop]; omega
   ·exact hv
  have ht : L_Trim x.1 [48, 49, 50, 51, 52, 53, 54, 55, 56, 57] = some (Lib.trimS x.1 [48, 49, 50, 51, 52, 53, 54, 55, 56, 57]) := by
   unfold L_Trim; rw [if_pos ⟨by omega, by decide, by decide⟩]
  rw [ht]
  cases x.2 && !(x.1 == []) with
  | true => exact ⟨_, rfl, fun h => absurd h hne⟩
  | false => exact ⟨_, rfl, fun h => absurd h hne⟩
 ·rw [show (w == ([118, 101, 114, 115, 105, 111, 110] : List UInt8)) = false by simpa using c1, cond_false]
  by_cases c2 : w = [101, 110, 99, 111, 100, 105, 110, 103]
  ·rw [show (w == ([101, 110, 99, 111, 100, 105, 110, 103] : List UInt8)) = true by rw [c2]; rfl, cond_true]
   simp only [letJ]
   by_cases c3 : v = []
   ·rw [show (v == ([] : List UInt8)) = true by simp [c3]]
    exact ⟨false, rfl, fun _ h => by cases h⟩
   ·have hpos : 0 < v.length := List.length_pos_iff.2 c3
    rw [show (v == ([] : List UInt8)) = false by simpa using c3, Bool.not_false, cond_true, show (0 : Int) = ((0 : Nat) : Int) from rfl, idx_some hpos, Option.bind_some]
    unfold L_IndexByte
    rw [nat_u8, Option.bind_some]
    cases decide (((0 : Nat) : Int) ≤ Lib.indexByte _ v[0]) with
    | false => exact ⟨false, rfl, fun _ h => by cases h⟩
    | true =>
     rw [cond_true]
     unfold L_Trim
     rw [if_pos ⟨by omega, by decide, by decide⟩, Option.bind_some]
     refine ⟨_, rfl, fun _ h b hb => ?_⟩
     have h2 := trimS_nil (eq_of_beq h) b hb
     have h3 := all_u8 (p := fun c => !(([65, 66, 67, 68, 69, 70, 71, 72, 73, 74, 75, 76, 77, 78, 79, 80, 81, 82, 83, 84, 85, 86, 87, 88, 89, 90, 97, 98, 99, 100, 101, 102, 103, 104, 105, 106, 107, 108, 109, 110, 111, 112, 113, 114, 115, 116, 117, 118, 119, 120, 121, 122, 48, 49, 50, 51, 52, 53, 54, 55, 56, 57, 46, 95, 45] : List UInt8).contains c) || decide (c.toNat < 128)) (by decide +kernel) b
     rw [h2] at h3
     simpa using h3
  ·rw [show (w == ([101, 110, 99, 111, 100, 105, 110, 103] : List UInt8)) = false by simpa using c2, cond_false]
   exact ⟨_, rfl, fun h => absurd h c2⟩
end Go.Proofs.YtfokkdofcekdbaaDoor
set_option maxRecDepth 20000
namespace Go.Proofs.YtfokkdofcekdbaaDoor
open Go.Lib (decodeL decodeN)
theorem index_occ : ∀ {s sub : List UInt8} {n : Nat}, Lib.index s sub = (n : Int) → sub ≠ [] → sub.isPrefixOf (s.drop n) = true ∧ n + sub.length ≤ s.length
 | [], sub, n, h, hne => by
  simp only [Lib.index] at h
  split at h
  ·rename_i he
   exact absurd (by simpa using he) hne
  ·omega
 | b :: l, sub, n, h, hne => by
  simp only [Lib.index] at h
  split at h
  ·rename_i hp
   have : n = 0 := by omega
   subst this
   have h2 := hp
   rw [isPre_take, Bool.and_eq_true, decide_eq_true_eq] at h2
   exact ⟨hp, by omega⟩
  ·split at h
   ·omega
   ·cases n with
    | zero =>
     have := Lib.index_ge l sub
     rename_i h1
     have h3 : Lib.index l sub ≠ -1 := by simpa using h1
     omega
    | succ n =>
     have := index_occ (s := l) (sub := sub) (n := n) (by omega) hne
     exact ⟨this.1, by rw [List.length_cons]; omega⟩
theorem ixB_get : ∀ {l : List UInt8} {c : UInt8} {n : Nat}, Lib.indexByte l c = (n : Int) → l[n]? = some c
 | [], c, n, h => by simp [Lib.indexByte] at h
 | b :: l, c, n, h => by
  simp only [Lib.indexByte] at h
  split at h
  ·rename_i hb
   have : n = 0 := by omega
   subst this
   have : b = c := by simpa using hb
   subst this; rfl
  ·split at h
   ·omega
   ·rename_i h1
    have := Lib.indexByte_ge l c
    have h3 : Lib.indexByte l c ≠ -1 := by simpa using h1
    cases n with
    | zero => omega
    | succ n =>
     have := ixB_get (l := l) (c := c) (n := n) (by omega)
     simpa using this
theorem digit_some (c : Int) : ∃ r, F_refer_digit c = some r := by
 unfold F_refer_digit
 cases (decide ((48 : Int) ≤ c)) && (decide (c ≤ (57 : Int))) with
 | true => exact ⟨_, rfl⟩
 | false =>
  cases (decide ((97 : Int) ≤ c)) && (decide (c ≤ (102 : Int))) with
  | true => exact ⟨_, rfl⟩
  | false => cases (decide ((65 : Int) ≤ c)) && (decide (c ≤ (70 : Int))) <;> exact ⟨_, rfl⟩
theorem meant_l0 (a : List UInt8) (k : Int) (ha : a.length ≤ 1073741824) : ∃ o, iter (F_refer_meant_l0 a k) FUEL ((0 : Int), (0 : Int)) = some o ∧ True := by
 refine iter_spec (b := F_refer_meant_l0 a k) (fun i x => ∃ n : Int, x = (n, (i : Int))) _ a.length (x0 := ((0 : Int), (0 : Int))) ⟨0, rfl⟩ ?_ ?_ (n := FUEL) (by unfold FUEL; omega)
 ·rintro i x rec hi ⟨n, rfl⟩
  obtain ⟨r, hr⟩ := digit_some (a[i].toNat : Int)
  unfold F_refer_meant_l0
  dsimp only
  rw [decide_eq_true (by omega), cond_true, idx_some hi, Option.bind_some, hr, Option.bind_some]
  cases decide (k ≤ r) with
  | true => exact .inr ⟨_, rfl, trivial⟩
  | false =>
   rw [cond_false, w64 (x := (i : Int) + 1) (by omega) (by omega)]
   exact .inl ⟨_, rfl, _, rfl⟩
 ·rintro x rec ⟨n, rfl⟩
  unfold F_refer_meant_l0
  dsimp only
  rw [decide_eq_false (by omega), cond_false]
  exact ⟨_, rfl, trivial⟩
theorem meant_some (s : List UInt8) (hs : s.length ≤ 1073741824) : ∃ r, F_refer_meant s = some r := by
 unfold F_refer_meant
 cases s == ([108, 116] : List UInt8) with
 | true => exact ⟨_, rfl⟩
 | false =>
 cases s == ([103, 116] : List UInt8) with
 | true => exact ⟨_, rfl⟩
 | false =>
 cases s == ([97, 109, 112] : List UInt8) with
 | true => exact ⟨_, rfl⟩
 | false =>
 cases s == ([97, 112, 111, 115] : List UInt8) with
 | true => exact ⟨_, rfl⟩
 | false =>
 cases s == ([113, 117, 111, 116] : List UInt8) with
 | true => exact ⟨_, rfl⟩
 | false =>
  simp only [cond_false]
  rw [cutPrefix_eq, Option.bind_some]
  generalize hx : (if ([35] : List UInt8).isPrefixOf s = true then (s.drop ([35] : List UInt8).length, true) else (s, false)) = x
  have hxl : x.1.length ≤ 1073741824 := by
   rw [← hx]; split
   ·dsimp only; rw [List.length_drop]; omega
   ·exact hs
  simp only [letJ]
  rw [cutPrefix_eq, Option.bind_some]
  generalize hy : (if ([120] : List UInt8).isPrefixOf x.1 = true then (x.1.drop ([120] : List UInt8).length, true) else (x.1, false)) = y
  have hyl : y.1.length ≤ 1073741824 := by
   rw [← hy]; split
   ·dsimp only; rw [List.length_drop]; omega
   ·exact hxl
  have core : ∀ (a : List UInt8) (k : Int), a.length ≤ 1073741824 → ∃ r : Int × Int, cond ((!x.2) || (a == ([] : List UInt8))) (some ((0 : Int), (22 : Int))) ((iter (F_refer_meant_l0 a k) FUEL ((0 : Int), (0 : Int))).bind fun o => match o with
    | .inl o1 => (F_char_IsChar (IntKind.wrap .i32 o1)).bind fun x34 => cond (!x34) (some ((0 : Int), (21 : Int))) (some ((IntKind.wrap .i32 o1), (0 : Int)))
    | .inr o1 => some o1) = some r := by
   intro a k ha
   cases (!x.2) || (a == ([] : List UInt8)) with
   | true => exact ⟨_, rfl⟩
   | false =>
    obtain ⟨o, e, _⟩ := meant_l0 a k ha
    rw [cond_false, e, Option.bind_some]
    cases o with
    | inr q => exact ⟨_, rfl⟩
    | inl q =>
     dsimp only
     rw [F_isChar, Option.bind_some]
     cases charP (IntKind.wrap .i32 q) <;> exact ⟨_, rfl⟩
  cases y.2 with
  | true => exact core y.1 16 hyl
  | false => exact core x.1 10 hxl
theorem expand_sp (p : List UInt8) (i : Nat) (hi : i < p.length) (hp : p.length ≤ 1073741824) : ∃ (r n e : Int), F_refer_Expand p (i : Int) = some (r, n, e) ∧ (e = 0 → ∃ m : Nat, n = (m : Int) ∧ i < m ∧ m ≤ p.length) := by
 unfold F_refer_Expand
 simp only [letJ]
 rw [decide_eq_false (show ¬ (i : Int) < 0 by omega), decide_eq_false (show ¬ (p.length : Int) ≤ (i : Int) by omega), show (false || false) = false from rfl, cond_false, idx_some hi, Option.bind_some]
 by_cases h38 : (p[i].toNat : Int) = 38
 ·rw [show ((p[i].toNat : Int) != 38) = false by simpa using h38, cond_false, slc_drop (Nat.le_of_lt hi), Option.bind_some]
  unfold L_bIndexByte
  rw [Option.bind_some]
  by_cases hn : Lib.indexByte (p.drop i) (59 : Int).toNat.toUInt8 < 0
  ·rw [decide_eq_true hn, cond_true]
   exact ⟨_, _, _, rfl, fun h => by cases h⟩
  ·obtain ⟨n, e1, e2⟩ := ixB_nat _ _ hn
   have hg := ixB_get e1
   have hn0 : n ≠ 0 := by
    intro h0
    subst h0
    rw [List.getElem?_drop, Nat.add_zero, List.getElem?_eq_getElem hi] at hg
    injection hg with hg
    rw [hg] at h38
    exact absurd h38 (by decide)
   rw [List.length_drop] at e2
   rw [decide_eq_false hn, cond_false, e1, w64 (x := (i : Int) + 1) (by omega) (by omega), w64 (x := (i : Int) + (n : Int)) (by omega) (by omega)]
   have hsl : slc p ((i : Int) + 1) ((i : Int) + (n : Int)) = some ((p.drop (i + 1)).take (n - 1)) := by
    unfold slc; rw [if_pos (by omega)]
    rw [show ((i : Int) + 1).toNat = i + 1 by omega, show ((i : Int) + (n : Int)).toNat - (i + 1) = n - 1 by omega]
   rw [hsl, Option.bind_some]
   obtain ⟨r, hr⟩ := meant_some ((p.drop (i + 1)).take (n - 1)) (by rw [List.length_take, List.length_drop]; omega)
   rw [hr, Option.bind_some]
   by_cases h2 : r.2 = 0
   ·rw [show (r.2 != 0) = false by simpa using h2, cond_false, w64 (by omega) (by omega)]
    exact ⟨_, _, _, rfl, fun _ => ⟨i + n + 1, by omega, by omega, by omega⟩⟩
   ·rw [show (r.2 != 0) = true by simpa using h2, cond_true]
    exact ⟨_, _, _, rfl, fun h => absurd h h2⟩
 ·rw [show ((p[i].toNat : Int) != 38) = true by simpa using h38, cond_true]
  exact ⟨_, _, _, rfl, fun h => by cases h⟩
theorem enc_len (r : Int) : (Utf8.encode r).data.toList.length ≤ 4 := by
 have h : (Utf8.encode r).data.size ≤ 4 := encode_size_le r
 rw [Array.length_toList]; exact h
theorem read_some (p : List UInt8) (v : Bool) (hp : p.length ≤ 1073741824) : ∃ r, F_refer_read p v = some r := by
 obtain ⟨o, e, _⟩ := iter_dec (b := F_refer_read_l0 p v) (fun x => p.length - x.2.toNat) (fun x => ∃ (l : List UInt8) (i : Nat), x = (l, (i : Int)) ∧ i ≤ p.length ∧ l.length ≤ 4 * i) (fun _ => True) (by
  rintro _ ⟨l, i, rfl, hi, hl⟩
  by_cases hlt : i < p.length
  ·obtain ⟨d1, d2, _⟩ := dec_bytes p i hlt
   have hnext := F_next p i hlt hp
   have J : ∀ (c : Int) (m : Nat), i < m → m ≤ p.length → ∃ y : List UInt8 × Int, (∀ rec : List UInt8 × Int → Option ((List UInt8) ⊕ ((List UInt8) × Int × Int)), ((app 1 l (Utf8.encode c).data.toList).bind fun _ => rec ((l ++ (Utf8.encode c).data.toList), (m : Int))) = rec y) ∧ (∃ (l : List UInt8) (i : Nat), y = (l, (i : Int)) ∧ i ≤ p.length ∧ l.length ≤ 4 * i) ∧ p.length - y.2.toNat < p.length - i := by
    intro c m h1 h2
    have := enc_len c
    refine ⟨(l ++ (Utf8.encode c).data.toList, (m : Int)), fun rec => ?_, ⟨_, m, rfl, h2, by rw [List.length_append]; omega⟩, by dsimp only; omega⟩
    rw [app_some (by omega) (by omega), Option.bind_some]
   have hbody : ∀ rec, F_refer_read_l0 p v rec (l, (i : Int)) = (F_char_Next p (i : Int)).bind fun x63 => cond (x63.2.2 != (0 : Int)) (some (.inr (([] : List UInt8), (i : Int), x63.2.2)))
     (cond (x63.1 == (60 : Int)) (some (.inr (([] : List UInt8), (i : Int), (23 : Int)))) (cond ((!v) && ([93, 93, 62] : List UInt8).isPrefixOf (p.drop i)) (some (.inr (([] : List UInt8), (i : Int), (23 : Int))))
      (cond (x63.1 == (38 : Int)) ((F_refer_Expand p (i : Int)).bind fun x101 => cond (x101.2.2 != (0 : Int)) (some (.inr (([] : List UInt8), (i : Int), x101.2.2))) ((app 1 l (Utf8.encode x101.1).data.toList).bind fun _ => rec ((l ++ (Utf8.encode x101.1).data.toList), x101.2.1)))
       (cond (v && (((x63.1 == (9 : Int)) || (x63.1 == (10 : Int))) || (x63.1 == (13 : Int)))) ((app 1 l (Utf8.encode 32).data.toList).bind fun _ => rec ((l ++ (Utf8.encode 32).data.toList), x63.2.1)) ((app 1 l (Utf8.encode x63.1).data.toList).bind fun _ => rec ((l ++ (Utf8.encode x63.1).data.toList), x63.2.1)))))) := by
    intro rec
    unfold F_refer_read_l0
    simp only [letJ]
    rw [decide_eq_true (by omega), cond_true]
    congr 1
    funext x63
    cases x63.2.2 != (0 : Int) with
    | true => rfl
    | false =>
     cases x63.1 == (60 : Int) with
     | true => rfl
     | false =>
      cases v with
      | true => rfl
      | false =>
       simp only [cond_false, Bool.not_false, cond_true, slc_drop hi, Option.bind_some, hasPrefix_eq, Bool.true_and]
   simp only [hbody, hnext, Option.bind_some]
   cases badR (decodeL (p.drop i)) with
   | true => exact .inr ⟨_, fun _ => rfl, trivial⟩
   | false =>
    simp only [Bool.false_eq_true, if_false]
    cases charP ((decodeL (p.drop i)).1 : Int) with
    | false => exact .inr ⟨_, fun _ => rfl, trivial⟩
    | true =>
     simp only [if_true]
     rw [show (((0 : Int)) != 0) = false from rfl]
     simp only [cond_false]
     cases (((decodeL (p.drop i)).1 : Int) == (60 : Int)) with
     | true => exact .inr ⟨_, fun _ => rfl, trivial⟩
     | false =>
      cases ((!v) && ([93, 93, 62] : List UInt8).isPrefixOf (p.drop i)) with
      | true => exact .inr ⟨_, fun _ => rfl, trivial⟩
      | false =>
       simp only [cond_false]
       cases (((decodeL (p.drop i)).1 : Int) == (38 : Int)) with
       | true =>
        obtain ⟨r, n, e, he, hm⟩ := expand_sp p i hlt hp
        simp only [cond_true, he, Option.bind_some]
        by_cases h0 : e = 0
        ·obtain ⟨m, hnm, h1, h2⟩ := hm h0
         rw [show (e != 0) = false by simpa using h0]
         simp only [cond_false, hnm]
         obtain ⟨y, y1, y2, y3⟩ := J r m h1 h2
         exact .inl ⟨y, y1, y2, by rw [Int.toNat_natCast]; exact y3⟩
        ·rw [show (e != 0) = true by simpa using h0]
         exact .inr ⟨_, fun _ => rfl, trivial⟩
       | false =>
        simp only [cond_false]
        cases (v && (((((decodeL (p.drop i)).1 : Int) == (9 : Int)) || (((decodeL (p.drop i)).1 : Int) == (10 : Int))) || (((decodeL (p.drop i)).1 : Int) == (13 : Int)))) with
        | true =>
         simp only [cond_true]
         obtain ⟨y, y1, y2, y3⟩ := J 32 (i + (decodeL (p.drop i)).2) (by omega) d2
         exact .inl ⟨y, y1, y2, by rw [Int.toNat_natCast]; exact y3⟩
        | false =>
         simp only [cond_false]
         obtain ⟨y, y1, y2, y3⟩ := J ((decodeL (p.drop i)).1 : Int) (i + (decodeL (p.drop i)).2) (by omega) d2
         exact .inl ⟨y, y1, y2, by rw [Int.toNat_natCast]; exact y3⟩
  ·right
   refine ⟨.inl l, fun rec => ?_, trivial⟩
   unfold F_refer_read_l0
   dsimp only
   rw [decide_eq_false (by omega), cond_false]) FUEL (([] : List UInt8), (0 : Int)) ⟨[], 0, rfl, Nat.zero_le _, by simp⟩ (by unfold FUEL; dsimp only; omega)
 unfold F_refer_read
 simp only [letJ]
 rw [e, Option.bind_some]
 cases o <;> exact ⟨_, rfl⟩
abbrev Tk := T_scan_Token
def nmP (l : List T_scan_Pair) : List (List UInt8) := l.map (·.Name)
def namedP (t : Tk) : Bool := ((((t.Kind == (2 : Int)) || (t.Kind == (3 : Int))) || (t.Kind == (4 : Int))) || (t.Kind == (8 : Int)))
structure TokOk (b : List UInt8) (i : Nat) (t : Tk) (j : Nat) : Prop where
 lt : i < j
 at_ : t.At = (i : Int)
 nm : namedP t = !(t.Name == [])
 nd : (nmP t.Pairs).Nodup
 txt : t.Kind = 5 → b[i]? ≠ some 60 ∧ (j = b.length ∨ b[j]? = some 60)
 oth : t.Kind ≠ 5 → b[i]? = some 60
 dec : t.Kind = 1 → i = 0
 len : t.Pairs.length ≤ b.length + 3
def TokR (b : List UInt8) (i : Nat) (x : Int × T_scan_scanner × Tk) : Prop := ∃ (e : Int) (j : Nat) (t : Tk), x = (e, ⟨b, (j : Int)⟩, t) ∧ j ≤ b.length ∧ (e = 0 → TokOk b i t j)
theorem upTo_sp (b : List UInt8) (i k : Nat) (t : Tk) (w : List UInt8) (hw : w ≠ []) (hi : i + k ≤ b.length) (hb : b.length ≤ 1073741824) (hwl : w.length ≤ 100) : ∃ (e : Int) (j : Nat) (x : List UInt8), F_scan_scanner_upTo ⟨b, (i : Int)⟩ t (k : Int) w = some (e, ⟨b, (j : Int)⟩, ⟨t.Kind, t.At, t.Name, t.Pairs, x, t.Refs⟩) ∧ j ≤ b.length ∧ (e = 0 → i + k < j) := by
 unfold F_scan_scanner_upTo
 dsimp only
 rw [w64 (x := (i : Int) + (k : Int)) (by omega) (by omega), show (i : Int) + (k : Int) = ((i + k : Nat) : Int) by omega, slc_drop hi, Option.bind_some]
 unfold L_bIndex
 rw [if_pos ⟨by rw [List.length_drop]; omega, by omega, hw⟩, Option.bind_some]
 by_cases hn : Lib.index (b.drop (i + k)) w < 0
 ·rw [decide_eq_true hn, cond_true]
  exact ⟨23, i, t.Text, rfl, by omega, fun h => by cases h⟩
 ·have hge := Lib.index_ge (b.drop (i + k)) w
  obtain ⟨n, e1⟩ : ∃ n : Nat, Lib.index (b.drop (i + k)) w = (n : Int) := ⟨(Lib.index (b.drop (i + k)) w).toNat, by omega⟩
  obtain ⟨_, e2⟩ := index_occ e1 hw
  have hwp : 0 < w.length := List.length_pos_iff.2 hw
  rw [List.length_drop] at e2
  rw [decide_eq_false hn, cond_false, e1, slc_take0 (by rw [List.length_drop]; omega), Option.bind_some, w64 (x := (k : Int) + (n : Int)) (by omega) (by omega), w64 (x := (k : Int) + (n : Int) + (w.length : Int)) (by omega) (by omega), w64 (by omega) (by omega)]
  exact ⟨0, i + (k + n + w.length), _, rfl, by omega, fun _ => by omega⟩
end Go.Proofs.YtfokkdofcekdbaaDoor
set_option maxRecDepth 20000
namespace Go.Proofs.YtfokkdofcekdbaaDoor
open Go.Lib (decodeL decodeN)
theorem ne_nil_beq {l : List UInt8} (h : l ≠ []) : (l == ([] : List UInt8)) = false := by simpa using h
theorem text_sp (b : List UInt8) (i : Nat) (t : Tk) (hi : i < b.length) (hb : b.length ≤ 1073741824) (h60 : hereP b i [60] = false) (ht : t.At = (i : Int)) (hn : t.Name = []) (hp : t.Pairs = []) : ∃ x, F_scan_scanner_text ⟨b, (i : Int)⟩ t = some x ∧ TokR b i x := by
 have hne : b[i]? ≠ some 60 := by
  rw [hereP_one] at h60
  intro h; rw [h] at h60; simp at h60
 have core : ∀ (a : List UInt8) (n : Nat), a.length = n → 0 < n → i + n ≤ b.length → (i + n = b.length ∨ b[i + n]? = some 60) → ∃ x, ((F_refer_ReadText a).bind fun x10 =>
  (L_bCount a ([38] : List UInt8)).bind fun x13 =>
  some (x10.2.2, (⟨b, (IntKind.wrap .i64 ((i : Int) + (a.length : Int)))⟩ : T_scan_scanner), (⟨(5 : Int), t.At, t.Name, t.Pairs, x10.1, x13⟩ : T_scan_Token))) = some x ∧ TokR b i x := by
  intro a n ha h0 hle hend
  obtain ⟨r, hr⟩ := read_some a false (by omega)
  unfold F_refer_ReadText
  rw [hr, Option.bind_some, Option.bind_some]
  unfold L_bCount
  rw [Option.bind_some, ha, w64 (by omega) (by omega)]
  refine ⟨_, rfl, r.2.2, i + n, ⟨5, t.At, t.Name, t.Pairs, r.1, ((Lib.countByte a 38 : Nat) : Int)⟩, by simp, hle, fun _ => ⟨by omega, ht, ?_, ?_, fun _ => ⟨hne, hend⟩, fun h => absurd rfl h, fun h => (by cases h), by show t.Pairs.length ≤ _; rw [hp]; exact Nat.zero_le _⟩⟩
  ·show (false : Bool) = !(t.Name == []); rw [hn]; rfl
  ·show (nmP t.Pairs).Nodup; rw [hp]; exact List.nodup_nil
 unfold F_scan_scanner_text
 dsimp only
 rw [slc_drop (Nat.le_of_lt hi), Option.bind_some]
 simp only [letJ]
 unfold L_bIndexByte
 rw [Option.bind_some]
 by_cases hx : Lib.indexByte (b.drop i) (60 : Int).toNat.toUInt8 < 0
 ·rw [decide_eq_false (by omega), cond_false]
  exact core (b.drop i) (b.length - i) (by simp) (by omega) (by omega) (.inl (by omega))
 ·obtain ⟨n, e1, e2⟩ := ixB_nat _ _ hx
  have hg := ixB_get e1
  rw [List.getElem?_drop] at hg
  have h60' : ((60 : Int).toNat.toUInt8) = 60 := by decide
  rw [h60'] at hg
  have hn0 : n ≠ 0 := fun h => by subst h; exact hne hg
  rw [List.length_drop] at e2
  rw [decide_eq_true (by omega), cond_true, e1, slc_take0 (by rw [List.length_drop]; omega), Option.bind_some]
  exact core ((b.drop i).take n) n (by rw [List.length_take, List.length_drop]; omega) (by omega) (by omega) (.inr hg)
theorem closing_sp (b : List UInt8) (i : Nat) (t : Tk) (hi : i + 2 ≤ b.length) (hb : b.length ≤ 1073741824) (h60 : b[i]? = some 60) (ht : t.At = (i : Int)) (hp : t.Pairs = []) : ∃ x, F_scan_scanner_closing ⟨b, (i : Int)⟩ t = some x ∧ TokR b i x := by
 unfold F_scan_scanner_closing
 dsimp only
 rw [w64 (x := (i : Int) + 2) (by omega) (by omega), show (i : Int) + 2 = ((i + 2 : Nat) : Int) by omega]
 obtain ⟨v, e, j, h1, h2, h3, h4, h5⟩ := name_sp b (i + 2) hi hb
 rw [h1, Option.bind_some]
 dsimp only
 by_cases he : e = 0
 ·obtain ⟨h6, h7⟩ := h5 he
  obtain ⟨s1, s2⟩ := sk_le wsP b j h3
  rw [show (e != 0) = false by simpa using he, cond_false, spaces_eq b _ j h3 hb, Option.bind_some, sign_eq b _ _ s2 hb, Option.bind_some]
  cases hh : hereP b (sk wsP b j) [62] with
  | false => exact ⟨_, rfl, 23, _, _, rfl, s2, fun h => (by cases h)⟩
  | true =>
   have := hereP_len hh s2
   refine ⟨_, rfl, 0, sk wsP b j + 1, ⟨3, t.At, v, t.Pairs, t.Text, t.Refs⟩, rfl, by simpa using this, fun _ => ⟨by omega, ht, ?_, ?_, fun h => (by cases h), fun _ => h60, fun h => (by cases h), by show t.Pairs.length ≤ _; rw [hp]; exact Nat.zero_le _⟩⟩
   ·show (true : Bool) = !(v == []); rw [ne_nil_beq h6]; rfl
   ·show (nmP t.Pairs).Nodup; rw [hp]; exact List.nodup_nil
 ·rw [show (e != 0) = true by simpa using he, cond_true]
  exact ⟨_, rfl, e, j, _, rfl, h3, fun h => absurd h he⟩
theorem instr_sp (b : List UInt8) (i : Nat) (t : Tk) (hi : i + 2 ≤ b.length) (hb : b.length ≤ 1073741824) (h60 : b[i]? = some 60) (ht : t.At = (i : Int)) (hp : t.Pairs = []) : ∃ x, F_scan_scanner_instr ⟨b, (i : Int)⟩ t = some x ∧ TokR b i x := by
 unfold F_scan_scanner_instr
 dsimp only
 rw [w64 (x := (i : Int) + 2) (by omega) (by omega), show (i : Int) + 2 = ((i + 2 : Nat) : Int) by omega]
 obtain ⟨v, e, j, h1, h2, h3, h4, h5⟩ := name_sp b (i + 2) hi hb
 rw [h1, Option.bind_some]
 dsimp only
 by_cases he : e = 0
 ·obtain ⟨h6, h7⟩ := h5 he
  rw [show (e != 0) = false by simpa using he, cond_false, F_nameC, Option.bind_some]
  cases nameP v with
  | false => exact ⟨_, rfl, 24, j, _, rfl, h3, fun h => (by cases h)⟩
  | true =>
   obtain ⟨r, hr⟩ := eqf_xml v (by omega)
   rw [Bool.not_true, cond_false, hr, Option.bind_some]
   cases r with
   | true => exact ⟨_, rfl, 29, j, _, rfl, h3, fun h => (by cases h)⟩
   | false =>
    rw [cond_false, here_eq b j _ h3, Option.bind_some]
    have okT : ∀ (k : Nat) (tx : List UInt8), i < k → TokOk b i ⟨8, t.At, v, t.Pairs, tx, t.Refs⟩ k := fun k tx hk => ⟨hk, ht, by show (true : Bool) = !(v == []); rw [ne_nil_beq h6]; rfl, by show (nmP t.Pairs).Nodup; rw [hp]; exact List.nodup_nil, fun h => (by cases h), fun _ => h60, fun h => (by cases h), by show t.Pairs.length ≤ _; rw [hp]; exact Nat.zero_le _⟩
    cases hh : hereP b j [63, 62] with
    | true =>
     have := hereP_len hh h3
     rw [cond_true, sign_eq b _ _ h3 hb, hh, if_pos rfl, Option.bind_some]
     exact ⟨_, rfl, 0, j + 2, _, rfl, by simpa using this, fun _ => okT _ _ (by omega)⟩
    | false =>
     obtain ⟨s1, s2⟩ := sk_le wsP b j h3
     rw [cond_false, spaces_eq b _ j h3 hb, Option.bind_some]
     cases ((sk wsP b j : Nat) : Int) == (j : Int) with
     | true => exact ⟨_, rfl, 23, j, _, rfl, h3, fun h => (by cases h)⟩
     | false =>
      obtain ⟨e2, k, x, u1, u2, u3⟩ := upTo_sp b (sk wsP b j) 0 ⟨8, t.At, v, t.Pairs, t.Text, t.Refs⟩ [63, 62] (by simp) (by omega) hb (by simp)
      rw [cond_false, show (0 : Int) = ((0 : Nat) : Int) from rfl, u1, Option.bind_some]
      exact ⟨_, rfl, e2, k, _, rfl, u2, fun h => okT _ _ (by have := u3 h; omega)⟩
 ·rw [show (e != 0) = true by simpa using he, cond_true]
  exact ⟨_, rfl, e, j, _, rfl, h3, fun h => absurd h he⟩
theorem tag_l1 (k At : Int) (Nm : List UInt8) (ps : List T_scan_Pair) (Tx : List UInt8) (rf : Int) (x27 x31 : ((List UInt8) × Int) × T_scan_scanner) (hl : ps.length ≤ 1073741824) :
  ∃ o, iter (F_scan_scanner_tag_l1 k At Nm ps Tx rf x27 x31) FUEL (0 : Int) = some o ∧ ((o = .inl () ∧ ∀ p ∈ ps, p.Name ≠ x27.1.1) ∨ o = .inr ((27 : Int), x31.2, ⟨k, At, Nm, ps, Tx, rf⟩)) := by
 refine iter_spec (b := F_scan_scanner_tag_l1 k At Nm ps Tx rf x27 x31) (fun i x => x = (i : Int) ∧ ∀ p ∈ ps.take i, p.Name ≠ x27.1.1) _ ps.length (x0 := (0 : Int)) ⟨rfl, by simp⟩ ?_ ?_ (n := FUEL) (by unfold FUEL; omega)
 ·rintro i _ rec hi ⟨rfl, hI⟩
  unfold F_scan_scanner_tag_l1
  rw [decide_eq_true (by omega), cond_true, idx_some hi, Option.bind_some]
  by_cases h : ps[i].Name = x27.1.1
  ·rw [show (ps[i].Name == x27.1.1) = true by simpa using h, cond_true]
   exact .inr ⟨_, rfl, .inr rfl⟩
  ·rw [show (ps[i].Name == x27.1.1) = false by simpa using h, cond_false, w64 (by omega) (by omega)]
   refine .inl ⟨((i + 1 : Nat) : Int), rfl, rfl, fun p hp => ?_⟩
   rw [List.take_add_one, List.getElem?_eq_getElem hi, Option.toList_some, List.mem_append, List.mem_singleton] at hp
   rcases hp with hp | rfl
   ·exact hI p hp
   ·exact h
 ·rintro _ rec ⟨rfl, hI⟩
  unfold F_scan_scanner_tag_l1
  rw [decide_eq_false (by omega), cond_false]
  rw [List.take_length] at hI
  exact ⟨_, rfl, .inl ⟨rfl, hI⟩⟩
theorem tag_sp (b : List UInt8) (i : Nat) (t : Tk) (hi : i + 1 ≤ b.length) (hb : b.length ≤ 65536) (h60 : b[i]? = some 60) (ht : t.At = (i : Int)) (hp : t.Pairs = []) : ∃ x, F_scan_scanner_tag ⟨b, (i : Int)⟩ t = some x ∧ TokR b i x := by
 have hb' : b.length ≤ 1073741824 := by omega
 unfold F_scan_scanner_tag
 dsimp only
 rw [w64 (x := (i : Int) + 1) (by omega) (by omega), show (i : Int) + 1 = ((i + 1 : Nat) : Int) by omega]
 obtain ⟨v, e, j, h1, h2, h3, h4, h5⟩ := name_sp b (i + 1) hi hb'
 rw [h1, Option.bind_some]
 dsimp only
 by_cases he : e = 0
 case neg =>
  rw [show (e != 0) = true by simpa using he, cond_true]
  exact ⟨_, rfl, e, j, _, rfl, h3, fun h => absurd h he⟩
 obtain ⟨h6, h7⟩ := h5 he
 rw [show (e != 0) = false by simpa using he, cond_false]
 have hh := iter_dec (b := F_scan_scanner_tag_l0) (fun x => b.length - x.2.1.toNat) (fun x => ∃ (j : Nat) (ps : List T_scan_Pair) (y z : List UInt8), x = (b, (j : Int), (2 : Int), t.At, v, ps, t.Text, t.Refs, y, z) ∧ i < j ∧ j ≤ b.length ∧ ps.length ≤ j ∧ (nmP ps).Nodup) (fun o => TokR b i o) ?_ FUEL
  (b, (j : Int), (2 : Int), t.At, v, t.Pairs, t.Text, t.Refs, ([] : List UInt8), ([] : List UInt8)) ⟨j, t.Pairs, [], [], rfl, by omega, h3, by rw [hp]; simp, by rw [hp]; exact List.nodup_nil⟩ (by unfold FUEL; dsimp only; omega)
 ·obtain ⟨o, e1, e2⟩ := hh
  rw [e1]
  exact ⟨o, rfl, e2⟩
 rintro _ ⟨j, ps, y, z, rfl, g1, g2, g3, g4⟩
 have okT : ∀ (kd : Int) (k : Nat), (kd = 2 ∨ kd = 4) → i < k → TokOk b i ⟨kd, t.At, v, ps, t.Text, t.Refs⟩ k := fun kd k hk hik => ⟨hik, ht, by rcases hk with rfl | rfl <;> (show (true : Bool) = !(v == []); rw [ne_nil_beq h6]; rfl), g4, fun h => (by rcases hk with rfl | rfl <;> cases h), fun _ => h60, fun h => (by rcases hk with rfl | rfl <;> cases h), by show ps.length ≤ _; omega⟩
 obtain ⟨s1, s2⟩ := sk_le wsP b j g2
 have hsp := spaces_eq b (j : Int) j g2 hb'
 have hh1 := here_eq b (sk wsP b j) [47, 62] s2
 have hh2 := here_eq b (sk wsP b j) [62] s2
 cases c1 : hereP b (sk wsP b j) [47, 62] with
 | true =>
  right
  have hl := hereP_len c1 s2
  rw [c1] at hh1
  refine ⟨(0, ⟨b, ((sk wsP b j + 2 : Nat) : Int)⟩, ⟨4, t.At, v, ps, t.Text, t.Refs⟩), fun rec => ?_, 0, sk wsP b j + 2, _, rfl, by simpa using hl, fun _ => okT 4 _ (.inr rfl) (by omega)⟩
  unfold F_scan_scanner_tag_l0
  dsimp only
  rw [hsp, Option.bind_some, hh1, Option.bind_some, cond_true, sign_eq b _ _ s2 hb', c1, if_pos rfl, Option.bind_some]
  rfl
 | false =>
 rw [c1] at hh1
 cases c2 : hereP b (sk wsP b j) [62] with
 | true =>
  right
  have hl := hereP_len c2 s2
  rw [c2] at hh2
  refine ⟨(0, ⟨b, ((sk wsP b j + 1 : Nat) : Int)⟩, ⟨2, t.At, v, ps, t.Text, t.Refs⟩), fun rec => ?_, 0, sk wsP b j + 1, _, rfl, by simpa using hl, fun _ => okT 2 _ (.inl rfl) (by omega)⟩
  unfold F_scan_scanner_tag_l0
  dsimp only
  rw [hsp, Option.bind_some, hh1, Option.bind_some, cond_false, hh2, Option.bind_some, cond_true, sign_eq b _ _ s2 hb', c2, if_pos rfl, Option.bind_some]
  rfl
 | false =>
 rw [c2] at hh2
 by_cases c3 : sk wsP b j = j
 ·right
  refine ⟨(23, ⟨b, ((sk wsP b j : Nat) : Int)⟩, ⟨2, t.At, v, ps, t.Text, t.Refs⟩), fun rec => ?_, 23, sk wsP b j, _, rfl, s2, fun h => (by cases h)⟩
  unfold F_scan_scanner_tag_l0
  dsimp only
  rw [hsp, Option.bind_some, hh1, Option.bind_some, cond_false, hh2, Option.bind_some, cond_false, show (((sk wsP b j : Nat) : Int) == (j : Int)) = true by simp [c3], cond_true]
 have c3' : (((sk wsP b j : Nat) : Int) == (j : Int)) = false := by
  rw [beq_eq_false_iff_ne]; omega
 obtain ⟨nm, e1, k1, n1, n2, n3, n4, n5⟩ := name_sp b (sk wsP b j) s2 hb'
 by_cases ce1 : e1 = 0
 case neg =>
  right
  refine ⟨(e1, ⟨b, (k1 : Int)⟩, ⟨2, t.At, v, ps, t.Text, t.Refs⟩), fun rec => ?_, e1, k1, _, rfl, n3, fun h => absurd h ce1⟩
  unfold F_scan_scanner_tag_l0
  dsimp only
  rw [hsp, Option.bind_some, hh1, Option.bind_some, cond_false, hh2, Option.bind_some, cond_false, c3', cond_false, n1, Option.bind_some]
  dsimp only
  rw [show (e1 != 0) = true by simpa using ce1, cond_true]
 obtain ⟨n6, n7⟩ := n5 ce1
 obtain ⟨e2, k2, q1, q2, q3⟩ := equals_sp b k1 n3 hb'
 by_cases ce2 : e2 = 0
 case neg =>
  right
  refine ⟨(e2, ⟨b, (k2 : Int)⟩, ⟨2, t.At, v, ps, t.Text, t.Refs⟩), fun rec => ?_, e2, k2, _, rfl, q3, fun h => absurd h ce2⟩
  unfold F_scan_scanner_tag_l0
  dsimp only
  rw [hsp, Option.bind_some, hh1, Option.bind_some, cond_false, hh2, Option.bind_some, cond_false, c3', cond_false, n1, Option.bind_some]
  dsimp only
  rw [show (e1 != 0) = false by simpa using ce1, cond_false, q1, Option.bind_some]
  dsimp only
  rw [show (e2 != 0) = true by simpa using ce2, cond_true]
 obtain ⟨rv, e3, k3, w1, w2, w3, w4, w5⟩ := quoted_sp b k2 q3 hb'
 by_cases ce3 : e3 = 0
 case neg =>
  right
  refine ⟨(e3, ⟨b, (k3 : Int)⟩, ⟨2, t.At, v, ps, t.Text, t.Refs⟩), fun rec => ?_, e3, k3, _, rfl, w3, fun h => absurd h ce3⟩
  unfold F_scan_scanner_tag_l0
  dsimp only
  rw [hsp, Option.bind_some, hh1, Option.bind_some, cond_false, hh2, Option.bind_some, cond_false, c3', cond_false, n1, Option.bind_some]
  dsimp only
  rw [show (e1 != 0) = false by simpa using ce1, cond_false, q1, Option.bind_some]
  dsimp only
  rw [show (e2 != 0) = false by simpa using ce2, cond_false, w1, Option.bind_some]
  dsimp only
  rw [show (e3 != 0) = true by simpa using ce3, cond_true]
 obtain ⟨rd, hrd⟩ := read_some rv true (by omega)
 have hrv : F_refer_ReadValue rv = some (rd.1, rd.2.1, rd.2.2) := by unfold F_refer_ReadValue; rw [hrd]; rfl
 by_cases ce4 : rd.2.2 = 0
 case neg =>
  right
  refine ⟨(rd.2.2, ⟨b, (k3 : Int)⟩, ⟨2, t.At, v, ps, t.Text, t.Refs⟩), fun rec => ?_, rd.2.2, k3, _, rfl, w3, fun h => absurd h ce4⟩
  unfold F_scan_scanner_tag_l0
  dsimp only
  rw [hsp, Option.bind_some, hh1, Option.bind_some, cond_false, hh2, Option.bind_some, cond_false, c3', cond_false, n1, Option.bind_some]
  dsimp only
  rw [show (e1 != 0) = false by simpa using ce1, cond_false, q1, Option.bind_some]
  dsimp only
  rw [show (e2 != 0) = false by simpa using ce2, cond_false, w1, Option.bind_some]
  dsimp only
  rw [show (e3 != 0) = false by simpa using ce3, cond_false, hrv, Option.bind_some]
  dsimp only
  rw [show (rd.2.2 != 0) = true by simpa using ce4, cond_true]
 have hbody : ∀ rec, F_scan_scanner_tag_l0 rec (b, (j : Int), (2 : Int), t.At, v, ps, t.Text, t.Refs, y, z) = (iter (F_scan_scanner_tag_l1 2 t.At v ps t.Text t.Refs ((nm, e1), ⟨b, (k1 : Int)⟩) ((rv, e3), ⟨b, (k3 : Int)⟩)) FUEL 0).bind fun o => match o with
   | .inl _ => (app 32 ps [(⟨nm, rd.1⟩ : T_scan_Pair)]).bind fun _ => (some (ps ++ [(⟨nm, rd.1⟩ : T_scan_Pair)])).bind fun a51 => rec (b, (k3 : Int), (2 : Int), t.At, v, a51, t.Text, t.Refs, nm, rd.1)
   | .inr o1 => some o1 := by
  intro rec
  unfold F_scan_scanner_tag_l0
  dsimp only
  rw [hsp, Option.bind_some, hh1, Option.bind_some, cond_false, hh2, Option.bind_some, cond_false, c3', cond_false, n1, Option.bind_some]
  dsimp only
  rw [show (e1 != 0) = false by simpa using ce1, cond_false, q1, Option.bind_some]
  dsimp only
  rw [show (e2 != 0) = false by simpa using ce2, cond_false, w1, Option.bind_some]
  dsimp only
  rw [show (e3 != 0) = false by simpa using ce3, cond_false, hrv, Option.bind_some]
  dsimp only
  rw [show (rd.2.2 != 0) = false by simpa using ce4, cond_false]
  simp only [letJ]
  rfl
 obtain ⟨o, l1, l2⟩ := tag_l1 2 t.At v ps t.Text t.Refs ((nm, e1), ⟨b, (k1 : Int)⟩) ((rv, e3), ⟨b, (k3 : Int)⟩) (by omega)
 rcases l2 with ⟨rfl, hno⟩ | rfl
 ·left
  have w6 := w5 ce3
  refine ⟨(b, (k3 : Int), (2 : Int), t.At, v, ps ++ [(⟨nm, rd.1⟩ : T_scan_Pair)], t.Text, t.Refs, nm, rd.1), fun rec => ?_, ⟨k3, _, nm, rd.1, rfl, by omega, w3, by simp; omega, ?_⟩, by dsimp only; omega⟩
  ·rw [hbody, l1, Option.bind_some]
   dsimp only
   rw [app_some (by simp; omega) (by simp; omega), Option.bind_some, Option.bind_some]
  ·unfold nmP at g4 ⊢
   rw [List.map_append, List.nodup_append]
   refine ⟨g4, by simp, fun a ha c hc hac => ?_⟩
   rw [List.mem_map] at ha
   obtain ⟨p, hpm, rfl⟩ := ha
   simp at hc
   subst hc
   exact hno p hpm hac
 ·right
  exact ⟨_, fun rec => by rw [hbody, l1, Option.bind_some], 27, k3, _, rfl, w3, fun h => (by cases h)⟩
end Go.Proofs.YtfokkdofcekdbaaDoor
set_option maxRecDepth 20000
namespace Go.Proofs.YtfokkdofcekdbaaDoor
open Go.Lib (decodeL decodeN)
abbrev DeclW : List (List UInt8) := [([118, 101, 114, 115, 105, 111, 110] : List UInt8), ([101, 110, 99, 111, 100, 105, 110, 103] : List UInt8), ([115, 116, 97, 110, 100, 97, 108, 111, 110, 101] : List UInt8)]
theorem declW_at (k : Nat) (hk : k < 3) : ∃ w, idx DeclW (k : Int) = some w ∧ w.length ≤ 10 ∧ 1 ≤ w.length ∧ DeclW.take (k + 1) = DeclW.take k ++ [w] := by
 have h : k = 0 ∨ k = 1 ∨ k = 2 := by omega
 rcases h with rfl | rfl | rfl
 ·exact ⟨_, rfl, by decide, by decide, rfl⟩
 ·exact ⟨_, rfl, by decide, by decide, rfl⟩
 ·exact ⟨_, rfl, by decide, by decide, rfl⟩
theorem decl_l0 (b : List UInt8) (At : Int) (Nm Tx : List UInt8) (rf : Int) (h5 : 5 ≤ b.length) (hb : b.length ≤ 1073741824) :
  ∃ o, iter (F_scan_scanner_decl_l0) FUEL (b, (5 : Int), (1 : Int), At, Nm, ([] : List T_scan_Pair), Tx, rf, ([] : List UInt8), (0 : Int)) = some o ∧
  ((∃ (j : Nat) (ps : List T_scan_Pair) (la : List UInt8), o = .inl (b, (j : Int), la, (1 : Int), At, Nm, ps, Tx, rf) ∧ 5 ≤ j ∧ j ≤ b.length ∧ (nmP ps).Nodup ∧ ps.length ≤ 3 ∧ la.length ≤ 1073741824 ∧ ∀ c ∈ la, c.toNat < 128) ∨
   (∃ (j : Nat) (t' : Tk), o = .inr ((23 : Int), ⟨b, (j : Int)⟩, t') ∧ j ≤ b.length)) := by
 refine iter_dec (b := F_scan_scanner_decl_l0) (fun x => 3 - x.2.2.2.2.2.2.2.2.2.toNat) (fun x => ∃ (j k : Nat) (ps : List T_scan_Pair) (la : List UInt8), x = (b, (j : Int), (1 : Int), At, Nm, ps, Tx, rf, la, (k : Int)) ∧ 5 ≤ j ∧ j ≤ b.length ∧ k ≤ 3 ∧ (nmP ps).Sublist (DeclW.take k) ∧ ps.length ≤ k ∧ la.length ≤ 1073741824 ∧ ∀ c ∈ la, c.toNat < 128) _ ?_ FUEL _ ⟨5, 0, [], [], rfl, by omega, h5, by omega, List.nil_sublist _, by simp, by simp, by simp⟩ (by unfold FUEL; dsimp only; omega)
 rintro _ ⟨j, k, ps, la, rfl, g1, g2, g3, g4, g5, g6, g7⟩
 by_cases hk : k < 3
 case neg =>
  right
  refine ⟨.inl (b, (j : Int), la, (1 : Int), At, Nm, ps, Tx, rf), fun rec => ?_, .inl ⟨j, ps, la, rfl, g1, g2, ?_, by omega, g6, g7⟩⟩
  ·unfold F_scan_scanner_decl_l0
   dsimp only
   rw [show decide ((k : Int) < (DeclW.length : Int)) = false from decide_eq_false (show ¬ (k : Int) < ((3 : Nat) : Int) by omega), cond_false]
  ·exact (g4.trans (List.take_sublist _ _)).nodup (by decide)
 obtain ⟨w, hidx, w1, w2, w3⟩ := declW_at k hk
 have hkt : decide ((k : Int) < (DeclW.length : Int)) = true := decide_eq_true (show (k : Int) < ((3 : Nat) : Int) by omega)
 obtain ⟨s1, s2⟩ := sk_le wsP b j g2
 have hsp := spaces_eq b (j : Int) j g2 hb
 have hk1 : IntKind.wrap .i64 ((k : Int) + 1) = ((k + 1 : Nat) : Int) := by rw [w64 (by omega) (by omega)]; omega
 have skipI : ∃ (j' k' : Nat) (ps' : List T_scan_Pair) (la' : List UInt8), (b, (j : Int), (1 : Int), At, Nm, ps, Tx, rf, la, ((k + 1 : Nat) : Int)) = (b, (j' : Int), (1 : Int), At, Nm, ps', Tx, rf, la', (k' : Int)) ∧ 5 ≤ j' ∧ j' ≤ b.length ∧ k' ≤ 3 ∧ (nmP ps').Sublist (DeclW.take k') ∧ ps'.length ≤ k' ∧ la'.length ≤ 1073741824 ∧ ∀ c ∈ la', c.toNat < 128 :=
  ⟨j, k + 1, ps, la, rfl, g1, g2, by omega, by rw [w3]; exact g4.trans (List.sublist_append_left _ _), by omega, g6, g7⟩
 by_cases c3 : sk wsP b j = j
 ·have c3' : (((sk wsP b j : Nat) : Int) == (j : Int)) = true := by simp [c3]
  cases hv : w == ([118, 101, 114, 115, 105, 111, 110] : List UInt8) with
  | true =>
   right
   refine ⟨.inr ((23 : Int), ⟨b, (j : Int)⟩, ⟨1, At, Nm, ps, Tx, rf⟩), fun rec => ?_, .inr ⟨j, _, rfl, g2⟩⟩
   unfold F_scan_scanner_decl_l0
   dsimp only
   rw [hkt, cond_true]
   simp only [letJ]
   rw [hidx, Option.bind_some, hsp, Option.bind_some, c3', cond_true, cond_true, hv, cond_true]
  | false =>
   left
   refine ⟨_, fun rec => ?_, skipI, by dsimp only; omega⟩
   unfold F_scan_scanner_decl_l0
   dsimp only
   rw [hkt, cond_true]
   simp only [letJ]
   rw [hidx, Option.bind_some, hsp, Option.bind_some, c3', cond_true, cond_true, hv, cond_false, hk1]
 have c3' : (((sk wsP b j : Nat) : Int) == (j : Int)) = false := by rw [beq_eq_false_iff_ne]; omega
 cases hh : hereP b (sk wsP b j) w with
 | false =>
  have hh' : w.isPrefixOf (b.drop (sk wsP b j)) = false := hh
  cases hv : w == ([118, 101, 114, 115, 105, 111, 110] : List UInt8) with
  | true =>
   right
   refine ⟨.inr ((23 : Int), ⟨b, (j : Int)⟩, ⟨1, At, Nm, ps, Tx, rf⟩), fun rec => ?_, .inr ⟨j, _, rfl, g2⟩⟩
   unfold F_scan_scanner_decl_l0
   dsimp only
   rw [hkt, cond_true]
   simp only [letJ]
   rw [hidx, Option.bind_some, hsp, Option.bind_some, c3', cond_false, slc_drop s2, Option.bind_some, hasPrefix_eq, Option.bind_some, hh', Bool.not_false, cond_true, hv, cond_true]
  | false =>
   left
   refine ⟨_, fun rec => ?_, skipI, by dsimp only; omega⟩
   unfold F_scan_scanner_decl_l0
   dsimp only
   rw [hkt, cond_true]
   simp only [letJ]
   rw [hidx, Option.bind_some, hsp, Option.bind_some, c3', cond_false, slc_drop s2, Option.bind_some, hasPrefix_eq, Option.bind_some, hh', Bool.not_false, cond_true, hv, cond_false, hk1]
 | true =>
  have hh' : w.isPrefixOf (b.drop (sk wsP b j)) = true := hh
  have hl := hereP_len hh s2
  have hadd : IntKind.wrap .i64 (((sk wsP b j : Nat) : Int) + (w.length : Int)) = ((sk wsP b j + w.length : Nat) : Int) := by rw [w64 (by omega) (by omega)]; omega
  obtain ⟨e2, k2, q1, q2, q3⟩ := equals_sp b (sk wsP b j + w.length) hl hb
  have pre : ∀ rec, F_scan_scanner_decl_l0 rec (b, (j : Int), (1 : Int), At, Nm, ps, Tx, rf, la, (k : Int)) = cond (e2 != 0) (some (.inr ((23 : Int), ⟨b, (k2 : Int)⟩, ⟨1, At, Nm, ps, Tx, rf⟩)))
    ((F_scan_scanner_quoted ⟨b, (k2 : Int)⟩).bind fun x122 =>
    (letJ (fun v125 : Bool => cond v125
     (some (.inr ((23 : Int), x122.2, (⟨1, At, Nm, ps, Tx, rf⟩ : T_scan_Token))))
     ((app 32 ps [(⟨w, x122.1.1⟩ : T_scan_Pair)]).bind fun _ =>
      (some (ps ++ [(⟨w, x122.1.1⟩ : T_scan_Pair)])).bind fun a129 =>
     cond (w == ([101, 110, 99, 111, 100, 105, 110, 103] : List UInt8))
      (rec (x122.2.b, x122.2.at_, (1 : Int), At, Nm, a129, Tx, rf, x122.1.1, ((k + 1 : Nat) : Int)))
      (rec (x122.2.b, x122.2.at_, (1 : Int), At, Nm, a129, Tx, rf, la, ((k + 1 : Nat) : Int))))) fun J124 => cond (x122.1.2 != (0 : Int)) (J124 true) ((F_scan_fits w x122.1.1).bind fun x126 =>
     J124 (!x126)))) := by
   intro rec
   unfold F_scan_scanner_decl_l0
   dsimp only
   rw [hkt, cond_true]
   simp only [letJ]
   rw [hidx, Option.bind_some, hsp, Option.bind_some, c3', cond_false, slc_drop s2, Option.bind_some, hasPrefix_eq, Option.bind_some, hh', Bool.not_true, cond_false, hadd, q1, Option.bind_some]
   simp only [hk1]
  by_cases ce2 : e2 = 0
  case neg =>
   right
   refine ⟨.inr ((23 : Int), ⟨b, (k2 : Int)⟩, ⟨1, At, Nm, ps, Tx, rf⟩), fun rec => ?_, .inr ⟨k2, _, rfl, q3⟩⟩
   rw [pre, show (e2 != 0) = true by simpa using ce2, cond_true]
  obtain ⟨rv, e3, k3, u1, u2, u3, u4, u5⟩ := quoted_sp b k2 q3 hb
  by_cases ce3 : e3 = 0
  case neg =>
   right
   refine ⟨.inr ((23 : Int), ⟨b, (k3 : Int)⟩, ⟨1, At, Nm, ps, Tx, rf⟩), fun rec => ?_, .inr ⟨k3, _, rfl, u3⟩⟩
   rw [pre, show (e2 != 0) = false by simpa using ce2, cond_false, u1, Option.bind_some]
   simp only [letJ]
   rw [show (e3 != 0) = true by simpa using ce3, cond_true, cond_true]
  obtain ⟨r, hr, hr2⟩ := fits_sp w rv (by omega)
  cases r with
  | false =>
   right
   refine ⟨.inr ((23 : Int), ⟨b, (k3 : Int)⟩, ⟨1, At, Nm, ps, Tx, rf⟩), fun rec => ?_, .inr ⟨k3, _, rfl, u3⟩⟩
   rw [pre, show (e2 != 0) = false by simpa using ce2, cond_false, u1, Option.bind_some]
   simp only [letJ]
   rw [show (e3 != 0) = false by simpa using ce3, cond_false, hr, Option.bind_some, Bool.not_false, cond_true]
  | true =>
   left
   have hsub : (nmP (ps ++ [(⟨w, rv⟩ : T_scan_Pair)])).Sublist (DeclW.take (k + 1)) := by
    rw [w3]; unfold nmP at g4 ⊢; rw [List.map_append]; exact g4.append (List.Sublist.refl _)
   cases he : w == ([101, 110, 99, 111, 100, 105, 110, 103] : List UInt8) with
   | true =>
    refine ⟨(b, (k3 : Int), (1 : Int), At, Nm, ps ++ [(⟨w, rv⟩ : T_scan_Pair)], Tx, rf, rv, ((k + 1 : Nat) : Int)), fun rec => ?_, ⟨k3, k + 1, _, rv, rfl, by omega, u3, by omega, hsub, by simp; omega, by omega, hr2 (by simpa using he) rfl⟩, by dsimp only; omega⟩
    rw [pre, show (e2 != 0) = false by simpa using ce2, cond_false, u1, Option.bind_some]
    simp only [letJ]
    rw [show (e3 != 0) = false by simpa using ce3, cond_false, hr, Option.bind_some, Bool.not_true, cond_false, app_some (by simp; omega) (by simp; omega), Option.bind_some, Option.bind_some, he, cond_true]
   | false =>
    refine ⟨(b, (k3 : Int), (1 : Int), At, Nm, ps ++ [(⟨w, rv⟩ : T_scan_Pair)], Tx, rf, la, ((k + 1 : Nat) : Int)), fun rec => ?_, ⟨k3, k + 1, _, la, rfl, by omega, u3, by omega, hsub, by simp; omega, g6, g7⟩, by dsimp only; omega⟩
    rw [pre, show (e2 != 0) = false by simpa using ce2, cond_false, u1, Option.bind_some]
    simp only [letJ]
    rw [show (e3 != 0) = false by simpa using ce3, cond_false, hr, Option.bind_some, Bool.not_true, cond_false, app_some (by simp; omega) (by simp; omega), Option.bind_some, Option.bind_some, he, cond_false]
theorem decl_sp (b : List UInt8) (t : Tk) (h5 : 5 ≤ b.length) (hb : b.length ≤ 1073741824) (h60 : b[0]? = some 60) (ht : t.At = 0) (hn : t.Name = []) (hp : t.Pairs = []) : ∃ x, F_scan_scanner_decl ⟨b, (0 : Int)⟩ t = some x ∧ TokR b 0 x := by
 unfold F_scan_scanner_decl
 simp only [letJ]
 rw [hp]
 obtain ⟨o, e1, e2⟩ := decl_l0 b t.At t.Name t.Text t.Refs h5 hb
 rw [e1, Option.bind_some]
 rcases e2 with ⟨j, ps, la, rfl, h1, h2, h3, h7, h4, h6⟩ | ⟨j, t', rfl, h1⟩
 ·dsimp only
  obtain ⟨s1, s2⟩ := sk_le wsP b j h2
  rw [spaces_eq b _ j h2 hb, Option.bind_some, sign_eq b _ _ s2 hb]
  cases hh : hereP b (sk wsP b j) [63, 62] with
  | false =>
   rw [if_neg (by simp), Option.bind_some]
   exact ⟨_, rfl, 23, sk wsP b j, _, rfl, s2, fun h => (by cases h)⟩
  | true =>
   have hl := hereP_len hh s2
   have okT : TokOk b 0 ⟨1, t.At, t.Name, ps, t.Text, t.Refs⟩ (sk wsP b j + 2) := ⟨by omega, by rw [ht]; rfl, by show (false : Bool) = !(t.Name == []); rw [hn]; rfl, h3, fun h => (by cases h), fun _ => h60, fun _ => rfl, by show ps.length ≤ _; omega⟩
   rw [if_pos rfl, Option.bind_some]
   dsimp only
   rw [show ((0 : Int) != 0) = false from rfl, cond_false]
   cases la == ([] : List UInt8) with
   | true =>
    rw [Bool.not_true, cond_false, cond_false]
    exact ⟨_, rfl, 0, sk wsP b j + 2, _, rfl, by simpa using hl, fun _ => okT⟩
   | false =>
    obtain ⟨r, hr⟩ := eqf_ascii la [117, 116, 102, 45, 56] h4 (by simp) h6 (by decide)
    rw [Bool.not_false, cond_true, hr, Option.bind_some]
    cases r with
    | true =>
     rw [Bool.not_true, cond_false]
     exact ⟨_, rfl, 0, sk wsP b j + 2, _, rfl, by simpa using hl, fun _ => okT⟩
    | false =>
     rw [Bool.not_false, cond_true]
     exact ⟨_, rfl, 25, sk wsP b j + 2, _, rfl, by simpa using hl, fun h => (by cases h)⟩
 ·dsimp only
  exact ⟨_, rfl, 23, j, t', rfl, h1, fun h => (by cases h)⟩
theorem token_sp (b : List UInt8) (i : Nat) (hi : i < b.length) (hb : b.length ≤ 65536) : ∃ x, F_scan_scanner_token ⟨b, (i : Int)⟩ ⟨(0 : Int), (i : Int), ([] : List UInt8), ([] : List T_scan_Pair), ([] : List UInt8), (0 : Int)⟩ = some x ∧ TokR b i x := by
 have hb' : b.length ≤ 1073741824 := by omega
 have hle : i ≤ b.length := Nat.le_of_lt hi
 have rest : ∃ x, ((F_scan_scanner_here (⟨b, (i : Int)⟩ : T_scan_scanner) ([60, 33, 45, 45] : List UInt8)).bind fun x12 =>
    cond x12
    ((F_scan_scanner_upTo ⟨b, (i : Int)⟩ (⟨(7 : Int), (i : Int), ([] : List UInt8), ([] : List T_scan_Pair), ([] : List UInt8), (0 : Int)⟩ : T_scan_Token) (4 : Int) ([45, 45] : List UInt8)).bind fun x14 =>
    cond (x14.1 != (0 : Int))
     (some (x14.1, x14.2.1, x14.2.2))
     ((F_scan_scanner_sign x14.2.1 ([62] : List UInt8)).bind fun x17 =>
     some (x17.1, x17.2, x14.2.2)))
    ((F_scan_scanner_here (⟨b, (i : Int)⟩ : T_scan_scanner) ([60, 33, 91, 67, 68, 65, 84, 65, 91] : List UInt8)).bind fun x18 =>
    cond x18
     ((F_scan_scanner_upTo ⟨b, (i : Int)⟩ (⟨(6 : Int), (i : Int), ([] : List UInt8), ([] : List T_scan_Pair), ([] : List UInt8), (0 : Int)⟩ : T_scan_Token) (9 : Int) ([93, 93, 62] : List UInt8)).bind fun x20 =>
     some (x20.1, x20.2.1, x20.2.2))
     ((F_scan_scanner_here (⟨b, (i : Int)⟩ : T_scan_scanner) ([60, 33, 68, 79, 67, 84, 89, 80, 69] : List UInt8)).bind fun x22 =>
     cond x22
     (some ((25 : Int), (⟨b, (i : Int)⟩ : T_scan_scanner), (⟨(0 : Int), (i : Int), ([] : List UInt8), ([] : List T_scan_Pair), ([] : List UInt8), (0 : Int)⟩ : T_scan_Token)))
     ((F_scan_scanner_here (⟨b, (i : Int)⟩ : T_scan_scanner) ([60, 33] : List UInt8)).bind fun x24 =>
     cond x24
      (some ((23 : Int), (⟨b, (i : Int)⟩ : T_scan_scanner), (⟨(0 : Int), (i : Int), ([] : List UInt8), ([] : List T_scan_Pair), ([] : List UInt8), (0 : Int)⟩ : T_scan_Token)))
      ((F_scan_scanner_here (⟨b, (i : Int)⟩ : T_scan_scanner) ([60, 63] : List UInt8)).bind fun x26 =>
      cond x26
      ((F_scan_scanner_instr (⟨b, (i : Int)⟩ : T_scan_scanner) ⟨(0 : Int), (i : Int), ([] : List UInt8), ([] : List T_scan_Pair), ([] : List UInt8), (0 : Int)⟩).bind fun x28 =>
      some (x28.1, x28.2.1, x28.2.2))
      ((F_scan_scanner_here (⟨b, (i : Int)⟩ : T_scan_scanner) ([60, 47] : List UInt8)).bind fun x30 =>
      cond x30
       ((F_scan_scanner_closing (⟨b, (i : Int)⟩ : T_scan_scanner) ⟨(0 : Int), (i : Int), ([] : List UInt8), ([] : List T_scan_Pair), ([] : List UInt8), (0 : Int)⟩).bind fun x32 =>
       some (x32.1, x32.2.1, x32.2.2))
       ((F_scan_scanner_here (⟨b, (i : Int)⟩ : T_scan_scanner) ([60] : List UInt8)).bind fun x34 =>
       cond x34
       ((F_scan_scanner_tag (⟨b, (i : Int)⟩ : T_scan_scanner) ⟨(0 : Int), (i : Int), ([] : List UInt8), ([] : List T_scan_Pair), ([] : List UInt8), (0 : Int)⟩).bind fun x36 =>
       some (x36.1, x36.2.1, x36.2.2))
       ((F_scan_scanner_text (⟨b, (i : Int)⟩ : T_scan_scanner) ⟨(0 : Int), (i : Int), ([] : List UInt8), ([] : List T_scan_Pair), ([] : List UInt8), (0 : Int)⟩).bind fun x38 =>
       some (x38.1, x38.2.1, x38.2.2))))))))) = some x ∧ TokR b i x := by
  rw [here_eq b i _ hle, Option.bind_some]
  cases c1 : hereP b i [60, 33, 45, 45] with
  | true =>
   have hl := hereP_len c1 hle
   obtain ⟨e, j, x, u1, u2, u3⟩ := upTo_sp b i 4 ⟨(7 : Int), (i : Int), [], [], [], 0⟩ [45, 45] (by simp) (by simpa using hl) hb' (by simp)
   rw [cond_true, show (4 : Int) = ((4 : Nat) : Int) from rfl, u1, Option.bind_some]
   dsimp only
   by_cases he : e = 0
   case neg =>
    rw [show (e != 0) = true by simpa using he, cond_true]
    exact ⟨_, rfl, e, j, _, rfl, u2, fun h => absurd h he⟩
   rw [show (e != 0) = false by simpa using he, cond_false, sign_eq b j _ u2 hb']
   have := u3 he
   cases hh : hereP b j [62] with
   | false =>
    rw [if_neg (by simp), Option.bind_some]
    exact ⟨_, rfl, 23, j, _, rfl, u2, fun h => (by cases h)⟩
   | true =>
    have hl2 := hereP_len hh u2
    rw [if_pos rfl, Option.bind_some]
    exact ⟨_, rfl, 0, j + 1, _, rfl, by simpa using hl2, fun _ => ⟨by omega, rfl, rfl, List.nodup_nil, fun h => (by cases h), fun _ => hereP_get c1, fun h => (by cases h), Nat.zero_le _⟩⟩
  | false =>
  rw [cond_false, here_eq b i _ hle, Option.bind_some]
  cases c2 : hereP b i [60, 33, 91, 67, 68, 65, 84, 65, 91] with
  | true =>
   have hl := hereP_len c2 hle
   obtain ⟨e, j, x, u1, u2, u3⟩ := upTo_sp b i 9 ⟨(6 : Int), (i : Int), [], [], [], 0⟩ [93, 93, 62] (by simp) (by simpa using hl) hb' (by simp)
   rw [cond_true, show (9 : Int) = ((9 : Nat) : Int) from rfl, u1, Option.bind_some]
   exact ⟨_, rfl, e, j, _, rfl, u2, fun h => ⟨by have := u3 h; omega, rfl, rfl, List.nodup_nil, fun h => (by cases h), fun _ => hereP_get c2, fun h => (by cases h), Nat.zero_le _⟩⟩
  | false =>
  rw [cond_false, here_eq b i _ hle, Option.bind_some]
  cases c3 : hereP b i [60, 33, 68, 79, 67, 84, 89, 80, 69] with
  | true => exact ⟨_, rfl, 25, i, _, rfl, hle, fun h => (by cases h)⟩
  | false =>
  rw [cond_false, here_eq b i _ hle, Option.bind_some]
  cases c4 : hereP b i [60, 33] with
  | true => exact ⟨_, rfl, 23, i, _, rfl, hle, fun h => (by cases h)⟩
  | false =>
  rw [cond_false, here_eq b i _ hle, Option.bind_some]
  cases c5 : hereP b i [60, 63] with
  | true =>
   have hl := hereP_len c5 hle
   obtain ⟨x, h1, h2⟩ := instr_sp b i ⟨(0 : Int), (i : Int), [], [], [], 0⟩ (by simpa using hl) hb' (hereP_get c5) rfl rfl
   rw [cond_true, h1, Option.bind_some]
   exact ⟨_, rfl, h2⟩
  | false =>
  rw [cond_false, here_eq b i _ hle, Option.bind_some]
  cases c6 : hereP b i [60, 47] with
  | true =>
   have hl := hereP_len c6 hle
   obtain ⟨x, h1, h2⟩ := closing_sp b i ⟨(0 : Int), (i : Int), [], [], [], 0⟩ (by simpa using hl) hb' (hereP_get c6) rfl rfl
   rw [cond_true, h1, Option.bind_some]
   exact ⟨_, rfl, h2⟩
  | false =>
  rw [cond_false, here_eq b i _ hle, Option.bind_some]
  cases c7 : hereP b i [60] with
  | true =>
   obtain ⟨x, h1, h2⟩ := tag_sp b i ⟨(0 : Int), (i : Int), [], [], [], 0⟩ hi hb (hereP_get c7) rfl rfl
   rw [cond_true, h1, Option.bind_some]
   exact ⟨_, rfl, h2⟩
  | false =>
   obtain ⟨x, h1, h2⟩ := text_sp b i ⟨(0 : Int), (i : Int), [], [], [], 0⟩ hi hb' c7 rfl rfl rfl
   rw [cond_false, h1, Option.bind_some]
   exact ⟨_, rfl, h2⟩
 unfold F_scan_scanner_token
 simp only [letJ]
 by_cases h0 : i = 0
 ·subst h0
  rw [show (((0 : Nat) : Int) == (0 : Int)) = true from rfl, cond_true, here_eq b 0 _ hle, Option.bind_some]
  cases c0 : hereP b 0 [60, 63, 120, 109, 108] with
  | false => rw [cond_false, cond_false]; exact rest
  | true =>
   have hl := hereP_len c0 hle
   have h5 : 5 ≤ b.length := by simpa using hl
   rw [cond_true, show (5 : Int) = ((5 : Nat) : Int) from rfl, spaces_eq b _ 5 h5 hb', Option.bind_some]
   cases decide (((5 : Nat) : Int) < ((sk wsP b 5 : Nat) : Int)) with
   | false => rw [cond_false]; exact rest
   | true =>
    obtain ⟨x, h1, h2⟩ := decl_sp b ⟨(0 : Int), ((0 : Nat) : Int), [], [], [], 0⟩ h5 hb' (hereP_get c0) rfl rfl rfl
    rw [cond_true, show (((0 : Nat) : Int)) = (0 : Int) from rfl] at *
    rw [h1, Option.bind_some]
    exact ⟨_, rfl, h2⟩
 ·rw [show ((i : Int) == (0 : Int)) = false by rw [beq_eq_false_iff_ne]; omega, cond_false, cond_false]
  exact rest
end Go.Proofs.YtfokkdofcekdbaaDoor
set_option maxRecDepth 20000
namespace Go.Proofs.YtfokkdofcekdbaaDoor
open Go.Lib (decodeL decodeN)
theorem u8_nat (c : UInt8) : u8 (c.toNat : Int) = some c := by
 unfold u8
 have := c.toNat_lt
 rw [if_pos (by omega), Int.toNat_natCast]
 simp
def lnP (p : List UInt8) (i : Nat) : List UInt8 := if p.getD i 0 = 13 then [10] else if p.getD i 0 = 10 ∧ 0 < i ∧ p.getD (i - 1) 0 = 13 then [] else [p.getD i 0]
theorem u8_beq (c : UInt8) (n : Nat) (hn : n < 256) : ((c.toNat : Int) == (n : Int)) = decide (c = UInt8.ofNat n) := by
 rw [Bool.eq_iff_iff, beq_iff_eq, decide_eq_true_eq]
 have h2 : (UInt8.ofNat n).toNat = n := by show n % 256 = n; omega
 constructor
 ·intro h; apply UInt8.toNat_inj.1; rw [h2]; omega
 ·rintro rfl; rw [h2]
theorem lines_step1 (p : List UInt8) (i : Nat) (l : List UInt8) (hi : i < p.length) (hl : l.length ≤ i) (hp : p.length ≤ 1073741824) (rec) : F_char_Lines_l0 p rec (l, (i : Int)) = rec (l ++ lnP p i, ((i + 1 : Nat) : Int)) := by
 have hk1 : IntKind.wrap .i64 ((i : Int) + 1) = ((i + 1 : Nat) : Int) := by rw [w64 (by omega) (by omega)]; omega
 have hg : p.getD i 0 = p[i] := by simp [List.getD, hi]
 unfold F_char_Lines_l0
 dsimp only
 rw [decide_eq_true (by omega), cond_true]
 simp only [letJ]
 rw [idx_some hi, Option.bind_some, hk1, show (10 : Int) = ((10 : Nat) : Int) from rfl, show (13 : Int) = ((13 : Nat) : Int) from rfl, u8_beq _ 10 (by omega), u8_beq _ 13 (by omega)]
 have app1 : ∀ c : UInt8, app 1 l [c] = some (l ++ [c]) := fun c => app_some (by simp; omega) (by simp; omega)
 unfold lnP
 rw [hg]
 by_cases c10 : p[i] = 10
 ·by_cases h0 : 0 < i
  ·have hi1 : i - 1 < p.length := by omega
   have hg1 : p.getD (i - 1) 0 = p[i - 1] := by simp [List.getD, hi1]
   have hk2 : IntKind.wrap .i64 ((i : Int) - 1) = ((i - 1 : Nat) : Int) := by rw [w64 (by omega) (by omega)]; omega
   rw [decide_eq_true (show p[i] = UInt8.ofNat 10 from c10), decide_eq_true (show (0 : Int) < (i : Int) by omega), Bool.and_self, cond_true, hk2, idx_some hi1, Option.bind_some, u8_beq _ 13 (by omega), hg1, c10]
   by_cases c13 : p[i - 1] = 13
   ·rw [decide_eq_true (show p[i - 1] = UInt8.ofNat 13 from c13), cond_true, if_neg (by decide), if_pos ⟨rfl, h0, c13⟩, List.append_nil]
   ·rw [decide_eq_false (show ¬ p[i - 1] = UInt8.ofNat 13 from c13), cond_false, decide_eq_false (by decide), cond_false, if_neg (by decide), if_neg (fun h => c13 h.2.2), u8_nat, Option.bind_some, app1, Option.bind_some, Option.bind_some]
  ·rw [decide_eq_false (show ¬ (0 : Int) < (i : Int) by omega), Bool.and_false, cond_false, cond_false, c10, decide_eq_false (by decide), cond_false, if_neg (by decide), if_neg (fun h => h0 h.2.1), u8_nat, Option.bind_some, app1, Option.bind_some, Option.bind_some]
 ·rw [decide_eq_false (show ¬ p[i] = UInt8.ofNat 10 from c10), Bool.false_and, cond_false, cond_false]
  by_cases c13 : p[i] = 13
  ·rw [decide_eq_true (show p[i] = UInt8.ofNat 13 from c13), cond_true, if_pos c13, show u8 ((10 : Nat) : Int) = some 10 from rfl, Option.bind_some, app1, Option.bind_some, Option.bind_some]
  ·rw [decide_eq_false (show ¬ p[i] = UInt8.ofNat 13 from c13), cond_false, if_neg c13, if_neg (fun h => c10 h.1), u8_nat, Option.bind_some, app1, Option.bind_some, Option.bind_some]
theorem lines_step2 (p : List UInt8) (i : Nat) (l : List UInt8) (hi : i < p.length) (hl : l.length ≤ i) (hp : p.length ≤ 1073741824) (rec) : F_lecternref01_Lines_l0 p rec (l, (i : Int)) = rec (l ++ lnP p i, ((i + 1 : Nat) : Int)) := by
 have hk1 : IntKind.wrap .i64 ((i : Int) + 1) = ((i + 1 : Nat) : Int) := by rw [w64 (by omega) (by omega)]; omega
 have hg : p.getD i 0 = p[i] := by simp [List.getD, hi]
 unfold F_lecternref01_Lines_l0
 dsimp only
 rw [decide_eq_true (by omega), cond_true]
 simp only [letJ, bne]
 rw [idx_some hi, Option.bind_some, Option.bind_some, hk1, show u8 (10 : Int) = some 10 from rfl, show (10 : Int) = ((10 : Nat) : Int) from rfl, show (13 : Int) = ((13 : Nat) : Int) from rfl, u8_beq _ 10 (by omega), u8_beq _ 13 (by omega)]
 have app1 : ∀ c : UInt8, app 1 l [c] = some (l ++ [c]) := fun c => app_some (by simp; omega) (by simp; omega)
 unfold lnP
 rw [hg]
 by_cases c13 : p[i] = 13
 ·rw [decide_eq_true (show p[i] = UInt8.ofNat 13 from c13), cond_true, if_pos c13, Option.bind_some, app1, Option.bind_some]
 ·rw [decide_eq_false (show ¬ p[i] = UInt8.ofNat 13 from c13), cond_false, if_neg c13]
  by_cases c10 : p[i] = 10
  ·rw [decide_eq_true (show p[i] = UInt8.ofNat 10 from c10), Bool.not_true, Bool.false_or]
   by_cases h0 : 0 < i
   ·have hi1 : i - 1 < p.length := by omega
    have hg1 : p.getD (i - 1) 0 = p[i - 1] := by simp [List.getD, hi1]
    have hk2 : IntKind.wrap .i64 ((i : Int) - 1) = ((i - 1 : Nat) : Int) := by rw [w64 (by omega) (by omega)]; omega
    rw [show ((i : Int) == (0 : Int)) = false by rw [beq_eq_false_iff_ne]; omega, cond_false, hk2, idx_some hi1, Option.bind_some, u8_beq _ 13 (by omega), hg1, c10]
    by_cases c13' : p[i - 1] = 13
    ·rw [decide_eq_true (show p[i - 1] = UInt8.ofNat 13 from c13'), Bool.not_true, cond_false, if_pos ⟨rfl, h0, c13'⟩, List.append_nil]
    ·rw [decide_eq_false (show ¬ p[i - 1] = UInt8.ofNat 13 from c13'), Bool.not_false, cond_true, if_neg (fun h => c13' h.2.2), Option.bind_some, u8_nat, Option.bind_some, app1, Option.bind_some]
   ·rw [show ((i : Int) == (0 : Int)) = true by rw [beq_iff_eq]; omega, cond_true, cond_true, if_neg (fun h => h0 h.2.1), Option.bind_some, u8_nat, Option.bind_some, app1, Option.bind_some]
  ·rw [decide_eq_false (show ¬ p[i] = UInt8.ofNat 10 from c10), Bool.not_false, Bool.true_or, cond_true, cond_true, if_neg (fun h => c10 h.1), Option.bind_some, u8_nat, Option.bind_some, app1, Option.bind_some]
theorem lnP_len (p : List UInt8) (i : Nat) : (lnP p i).length ≤ 1 := by
 unfold lnP; split
 ·simp
 ·split <;> simp
theorem lines_two (p : List UInt8) (hp : p.length ≤ 1073741824) : ∃ r, F_char_Lines p = some r ∧ F_lecternref01_Lines p = some r ∧ r.length ≤ p.length := by
 obtain ⟨o, q, e1, e2, h1, h2⟩ := iter_two (b := F_char_Lines_l0 p) (c := F_lecternref01_Lines_l0 p) (fun x => p.length - x.2.toNat) (fun x y => x = y ∧ ∃ (l : List UInt8) (i : Nat), x = (l, (i : Int)) ∧ i ≤ p.length ∧ l.length ≤ i) (fun o q => o = q ∧ o.length ≤ p.length) (by
  rintro _ _ ⟨rfl, l, i, rfl, hi, hl⟩
  by_cases hlt : i < p.length
  ·left
   have := lnP_len p i
   exact ⟨_, _, fun rec => lines_step1 p i l hlt hl hp rec, fun rec => lines_step2 p i l hlt hl hp rec, ⟨rfl, _, i + 1, rfl, by omega, by rw [List.length_append]; omega⟩, by dsimp only; omega⟩
  ·right
   refine ⟨l, l, fun rec => ?_, fun rec => ?_, rfl, by omega⟩
   ·unfold F_char_Lines_l0; dsimp only; rw [decide_eq_false (by omega), cond_false]
   ·unfold F_lecternref01_Lines_l0; dsimp only; rw [decide_eq_false (by omega), cond_false]) FUEL FUEL (([] : List UInt8), (0 : Int)) (([] : List UInt8), (0 : Int)) ⟨rfl, [], 0, rfl, Nat.zero_le _, Nat.le_refl _⟩ (by unfold FUEL; dsimp only; omega) (by unfold FUEL; dsimp only; omega)
 subst h1
 refine ⟨o, ?_, ?_, h2⟩
 ·unfold F_char_Lines
  simp only [letJ]
  rw [show mkG 1 (0 : Int) (p.length : Int) = some () by unfold mkG; rw [if_pos (by omega)], Option.bind_some, Option.bind_some, show (List.replicate (Int.toNat (0 : Int)) (0 : UInt8)) = [] from rfl, e1, Option.bind_some]
 ·unfold F_lecternref01_Lines
  simp only [letJ]
  rw [e2, Option.bind_some]
theorem plain_two (p : List UInt8) (hp : p.length ≤ 1073741824) : ∃ r, F_scan_Plain p = some r ∧ F_lecternref03_Text p = some r ∧ r.length ≤ p.length := by
 have key : ∀ a : List UInt8, a.length ≤ p.length → (F_bytes_TrimPrefix p [239, 187, 191] = some a) → (∀ r, F_lecternref01_Lines a = some r → F_lecternref03_Text p = some r) → ∃ r, F_scan_Plain p = some r ∧ F_lecternref03_Text p = some r ∧ r.length ≤ p.length := by
  intro a ha h1 h2
  obtain ⟨r, r1, r2, r3⟩ := lines_two a (by omega)
  refine ⟨r, ?_, h2 r r2, by omega⟩
  unfold F_scan_Plain
  rw [show u8 (239 : Int) = some 239 from rfl, show u8 (187 : Int) = some 187 from rfl, show u8 (191 : Int) = some 191 from rfl, Option.bind_some, Option.bind_some, Option.bind_some, h1, Option.bind_some, r1, Option.bind_some]
 have no : ([239, 187, 191] : List UInt8).isPrefixOf p = false → (∀ r, F_lecternref01_Lines p = some r → F_lecternref03_Text p = some r) → ∃ r, F_scan_Plain p = some r ∧ F_lecternref03_Text p = some r ∧ r.length ≤ p.length := by
  intro h h2
  refine key p (Nat.le_refl _) ?_ h2
  unfold F_bytes_TrimPrefix
  rw [hasPrefix_eq, Option.bind_some, h, cond_false]
 rcases p with _ | ⟨a, _ | ⟨b, _ | ⟨c, q⟩⟩⟩
 ·exact no rfl fun r hr => (by
   unfold F_lecternref03_Text; simp only [letJ]
   rw [decide_eq_false (by simp), cond_false, cond_false, cond_false, cond_false, hr, Option.bind_some])
 ·exact no (by simp [List.isPrefixOf]) fun r hr => (by
   unfold F_lecternref03_Text; simp only [letJ]
   rw [decide_eq_false (by simp), cond_false, cond_false, cond_false, cond_false, hr, Option.bind_some])
 ·exact no (by simp [List.isPrefixOf]) fun r hr => (by
   unfold F_lecternref03_Text; simp only [letJ]
   rw [decide_eq_false (by simp), cond_false, cond_false, cond_false, cond_false, hr, Option.bind_some])
 ·have hd : decide ((3 : Int) ≤ ((a :: b :: c :: q).length : Int)) = true := decide_eq_true (by simp only [List.length_cons]; omega)
  have i0 : idx (a :: b :: c :: q) (0 : Int) = some a := idx_some (i := 0) (by simp)
  have i1 : idx (a :: b :: c :: q) (1 : Int) = some b := idx_some (i := 1) (by simp)
  have i2 : idx (a :: b :: c :: q) (2 : Int) = some c := idx_some (i := 2) (by simp)
  have ba := u8_beq a 239 (by omega)
  have bb := u8_beq b 187 (by omega)
  have bc := u8_beq c 191 (by omega)
  have hT : F_lecternref03_Text (a :: b :: c :: q) = cond (decide (a = 239)) (cond (decide (b = 187)) (cond (decide (c = 191)) (F_lecternref01_Lines q) (F_lecternref01_Lines (a :: b :: c :: q))) (F_lecternref01_Lines (a :: b :: c :: q))) (F_lecternref01_Lines (a :: b :: c :: q)) := by
   unfold F_lecternref03_Text
   simp only [letJ]
   rw [hd, cond_true, i0, Option.bind_some, i1, Option.bind_some, i2, Option.bind_some]
   rw [show (239 : Int) = ((239 : Nat) : Int) from rfl, show (187 : Int) = ((187 : Nat) : Int) from rfl, show (191 : Int) = ((191 : Nat) : Int) from rfl, ba, bb, bc]
   have hs : slc (a :: b :: c :: q) (3 : Int) ((a :: b :: c :: q).length : Int) = some q := slc_drop (n := 3) (l := a :: b :: c :: q) (by simp)
   have hbind : ∀ o : Option (List UInt8), (o.bind fun x => some x) = o := fun o => by cases o <;> rfl
   rw [hs, Option.bind_some, hbind, hbind]
   show cond (decide (a = 239)) _ _ = _
   cases decide (a = 239) with
   | false => rfl
   | true =>
    show cond (decide (b = 187)) _ _ = cond (decide (b = 187)) _ _
    cases decide (b = 187) with
    | false => rfl
    | true =>
     show cond (decide (c = 191)) _ _ = cond (decide (c = 191)) _ _
     cases decide (c = 191) <;> rfl
  by_cases hall : a = 239 ∧ b = 187 ∧ c = 191
  ·obtain ⟨rfl, rfl, rfl⟩ := hall
   refine key q (by simp only [List.length_cons]; omega) ?_ fun r hr => by rw [hT]; exact hr
   unfold F_bytes_TrimPrefix
   rw [hasPrefix_eq, Option.bind_some, show ([239, 187, 191] : List UInt8).isPrefixOf (239 :: 187 :: 191 :: q) = true by simp [List.isPrefixOf], cond_true]
   have hs : slc (239 :: 187 :: 191 :: q : List UInt8) ((([239, 187, 191] : List UInt8).length : Nat) : Int) ((239 :: 187 :: 191 :: q : List UInt8).length : Int) = some q := slc_drop (n := 3) (l := 239 :: 187 :: 191 :: q) (by simp)
   rw [hs, Option.bind_some]
  ·refine no ?_ fun r hr => ?_
   ·rw [Bool.eq_false_iff]
    intro h
    simp only [List.isPrefixOf, Bool.and_true, Bool.and_eq_true, beq_iff_eq] at h
    exact hall ⟨h.1.symm, h.2.1.symm, h.2.2.symm⟩
   ·rw [hT]
    by_cases ha : a = 239
    ·rw [decide_eq_true ha, cond_true]
     by_cases hb : b = 187
     ·rw [decide_eq_true hb, cond_true, decide_eq_false (fun h => hall ⟨ha, hb, h⟩), cond_false, hr]
     ·rw [decide_eq_false hb, cond_false, hr]
    ·rw [decide_eq_false ha, cond_false, hr]
theorem fault_sp (b : List UInt8) (hb : b.length ≤ 1073741824) : ∃ (a e : Int), F_char_Fault b = some (a, e) ∧ (e ≠ 0 → 0 ≤ a ∧ a ≤ b.length) := by
 obtain ⟨o, e, h⟩ := iter_dec (b := F_char_Fault_l0 b) (fun x => b.length - x.toNat) (fun x => ∃ i : Nat, x = (i : Int) ∧ i ≤ b.length) (fun o => o = .inl () ∨ ∃ (i : Nat) (f : Int), o = .inr ((i : Int), f) ∧ i ≤ b.length) (by
  rintro _ ⟨i, rfl, hi⟩
  by_cases hlt : i < b.length
  ·obtain ⟨d1, d2, _⟩ := dec_bytes b i hlt
   have hn := F_next b i hlt hb
   unfold F_char_Fault_l0
   rw [hn]
   simp only [Option.bind_some]
   rw [decide_eq_true (show (i : Int) < (b.length : Int) by omega)]
   simp only [cond_true]
   cases badR (decodeL (b.drop i)) with
   | true => exact .inr ⟨_, fun _ => rfl, .inr ⟨i, 20, rfl, hi⟩⟩
   | false =>
    simp only [Bool.false_eq_true, if_false]
    cases charP ((decodeL (b.drop i)).1 : Int) with
    | false => exact .inr ⟨_, fun _ => rfl, .inr ⟨i, 21, rfl, hi⟩⟩
    | true => exact .inl ⟨_, fun _ => rfl, ⟨i + (decodeL (b.drop i)).2, rfl, d2⟩, by rw [Int.toNat_natCast]; simp only [if_true]; rw [Int.toNat_natCast]; omega⟩
  ·right
   refine ⟨.inl (), fun rec => ?_, .inl rfl⟩
   unfold F_char_Fault_l0
   rw [decide_eq_false (by omega), cond_false]) FUEL (0 : Int) ⟨0, rfl, Nat.zero_le _⟩ (by unfold FUEL; omega)
 unfold F_char_Fault
 simp only [letJ]
 rw [e, Option.bind_some]
 rcases h with rfl | ⟨i, f, rfl, hi⟩
 ·exact ⟨0, 0, rfl, fun h => absurd rfl h⟩
 ·exact ⟨_, _, rfl, fun _ => ⟨by omega, by omega⟩⟩
def Pos (b : List UInt8) (L : List Tk) (j : Nat) : Prop := (∀ k t, L[k]? = some t → ∃ i j', TokOk b i t j' ∧ i < b.length ∧ (k = 0 → i = 0) ∧ (∀ t', 0 < k → L[k - 1]? = some t' → ∃ i', TokOk b i' t' i)) ∧ (L = [] → j = 0) ∧ (∀ t, 0 < L.length → L[L.length - 1]? = some t → ∃ i, TokOk b i t j)
theorem pos_snoc {b : List UInt8} {L : List Tk} {i j : Nat} {t : Tk} (h : Pos b L i) (hi : i < b.length) (ht : TokOk b i t j) : Pos b (L ++ [t]) j := by
 obtain ⟨h1, h2, h3⟩ := h
 refine ⟨fun k u hu => ?_, fun h => by simp at h, fun u _ hu => ?_⟩
 ·by_cases hk : k < L.length
  ·rw [List.getElem?_append_left hk] at hu
   obtain ⟨i1, j1, a1, a2, a3, a4⟩ := h1 k u hu
   refine ⟨i1, j1, a1, a2, a3, fun t' h0 ht' => a4 t' h0 ?_⟩
   rwa [List.getElem?_append_left (by omega)] at ht'
  ·have hk' : k = L.length := by
    have := (List.getElem?_eq_some_iff.1 hu).1
    rw [List.length_append, List.length_singleton] at this
    omega
   subst hk'
   rw [List.getElem?_append_right (Nat.le_refl _), Nat.sub_self] at hu
   injection hu with hu
   subst hu
   refine ⟨i, j, ht, hi, fun h0 => h2 (List.length_eq_zero_iff.1 h0), fun t' h0 ht' => h3 t' h0 ?_⟩
   rwa [List.getElem?_append_left (by omega)] at ht'
 ·rw [List.length_append, List.length_singleton, Nat.add_sub_cancel, List.getElem?_append_right (Nat.le_refl _), Nat.sub_self] at hu
  injection hu with hu
  subst hu
  exact ⟨i, ht⟩
theorem all_sp (p : List UInt8) (hp : p.length ≤ 1073741824) : ∃ (L : List Tk) (a e : Int), F_scan_All p = some (L, a, e) ∧ (e ≠ 0 → L = [] ∧ 0 ≤ a ∧ a ≤ p.length) ∧ (e = 0 → ∃ b, F_scan_Plain p = some b ∧ F_lecternref03_Text p = some b ∧ b.length ≤ p.length ∧ a = 0 ∧ Pos b L b.length ∧ L.length ≤ b.length) := by
 unfold F_scan_All
 by_cases hl : 65536 < p.length
 ·rw [decide_eq_true (by omega), cond_true]
  exact ⟨_, _, _, rfl, fun _ => ⟨rfl, by omega, by omega⟩, fun h => by cases h⟩
 rw [decide_eq_false (by omega), cond_false]
 obtain ⟨b, r1, r2, r3⟩ := plain_two p hp
 rw [r1, Option.bind_some]
 obtain ⟨fa, fe, f1, f2⟩ := fault_sp b (by omega)
 dsimp only
 rw [f1, Option.bind_some]
 by_cases hf : fe = 0
 case neg =>
  rw [show (fe != 0) = true by simpa using hf, cond_true]
  have := f2 hf
  exact ⟨_, _, _, rfl, fun _ => ⟨rfl, this.1, by omega⟩, fun h => absurd h hf⟩
 rw [show (fe != 0) = false by simpa using hf, cond_false]
 obtain ⟨o, e1, e2⟩ := iter_dec (b := F_scan_All_l0) (fun x => b.length - x.2.1.toNat) (fun x => ∃ (j : Nat) (L : List Tk), x = (b, (j : Int), L) ∧ j ≤ b.length ∧ L.length ≤ j ∧ Pos b L j) (fun o => (∃ L : List Tk, o = (L, 0, 0) ∧ Pos b L b.length ∧ L.length ≤ b.length) ∨ ∃ (j : Nat) (e : Int), o = ([], (j : Int), e) ∧ e ≠ 0 ∧ j ≤ b.length) (by
  rintro _ ⟨j, L, rfl, g1, g2, g3⟩
  by_cases hj : j = b.length
  ·right
   subst hj
   refine ⟨(L, 0, 0), fun rec => ?_, .inl ⟨L, rfl, g3, g2⟩⟩
   unfold F_scan_All_l0
   dsimp only
   rw [show ((b.length : Int) == (b.length : Int)) = true by simp, cond_true]
  ·obtain ⟨_, t1, e, j2, t, rfl, t2, t3⟩ := token_sp b j (by omega) (by omega)
   have hne : ((j : Int) == (b.length : Int)) = false := by rw [beq_eq_false_iff_ne]; omega
   by_cases he : e = 0
   ·left
    have t4 := t3 he
    refine ⟨(b, (j2 : Int), L ++ [t]), fun rec => ?_, ⟨j2, _, rfl, t2, by have := t4.lt; simp; omega, pos_snoc g3 (by omega) t4⟩, by have := t4.lt; dsimp only; omega⟩
    unfold F_scan_All_l0
    dsimp only
    rw [hne, cond_false, t1, Option.bind_some]
    dsimp only
    rw [show (e != 0) = false by simpa using he, cond_false, app_some (by simp; omega) (by simp; omega), Option.bind_some, Option.bind_some]
   ·right
    refine ⟨([], (j : Int), e), fun rec => ?_, .inr ⟨j, e, rfl, he, g1⟩⟩
    unfold F_scan_All_l0
    dsimp only
    rw [hne, cond_false, t1, Option.bind_some]
    dsimp only
    rw [show (e != 0) = true by simpa using he, cond_true]) FUEL (b, (0 : Int), ([] : List T_scan_Token)) ⟨0, [], rfl, Nat.zero_le _, Nat.le_refl _, ⟨fun k t h => by simp at h, fun _ => rfl, fun t h => by simp at h⟩⟩ (by unfold FUEL; dsimp only; omega)
 rw [e1, Option.bind_some]
 rcases e2 with ⟨L, rfl, h1, h2⟩ | ⟨j, e, rfl, h1, h2⟩
 ·exact ⟨_, _, _, rfl, fun h => absurd rfl h, fun _ => ⟨b, rfl, r2, r3, rfl, h1, h2⟩⟩
 ·exact ⟨_, _, _, rfl, fun _ => ⟨rfl, by omega, by omega⟩, fun h => absurd h h1⟩
end Go.Proofs.YtfokkdofcekdbaaDoor
set_option maxRecDepth 20000
namespace Go.Proofs.YtfokkdofcekdbaaDoor
open Go.Lib (decodeL decodeN)
structure Agr (U V : List UInt8) (n : Nat) : Prop where
 tk : U.take n = V.take n
 u : n ≤ U.length
 v : n ≤ V.length
 dec : ∀ j, j < n → decodeL (U.drop j) = decodeL (V.drop j)
theorem Agr.symm {U V : List UInt8} {n : Nat} (A : Agr U V n) : Agr V U n := ⟨A.tk.symm, A.v, A.u, fun j h => (A.dec j h).symm⟩
theorem Agr.get {U V : List UInt8} {n : Nat} (A : Agr U V n) {j : Nat} (h : j < n) : U[j]? = V[j]? := by
 have := congrArg (fun l : List UInt8 => l[j]?) A.tk
 simpa [List.getElem?_take, h] using this
theorem Agr.seg {U V : List UInt8} {n : Nat} (A : Agr U V n) {a k : Nat} (h : a + k ≤ n) : (U.drop a).take k = (V.drop a).take k := by
 apply List.ext_getElem?
 intro x
 rw [List.getElem?_take, List.getElem?_take]
 split
 ·rw [List.getElem?_drop, List.getElem?_drop, A.get (by omega)]
 ·rfl
theorem Agr.here {U V : List UInt8} {n : Nat} (A : Agr U V n) {j : Nat} {w : List UInt8} (h : j + w.length ≤ n) : hereP U j w = hereP V j w := by
 have h1 := A.u
 have h2 := A.v
 unfold hereP
 rw [isPre_take, isPre_take, A.seg h, decide_eq_true (by rw [List.length_drop]; omega), decide_eq_true (by rw [List.length_drop]; omega)]
theorem Agr.sk {U V : List UInt8} {n : Nat} (A : Agr U V n) (P : UInt8 → Bool) : ∀ (d j : Nat), j + d = n → Proofs.YtfokkdofcekdbaaDoor.sk P U j < n → Proofs.YtfokkdofcekdbaaDoor.sk P V j = Proofs.YtfokkdofcekdbaaDoor.sk P U j
 | d, j, hd, h => by
  have h1 := A.u
  have h2 := A.v
  have hj : j < n := by
   have := (sk_le P U j (by omega)).1
   omega
  have hg : U[j]'(by omega) = V[j]'(by omega) := by
   have := A.get hj
   rw [List.getElem?_eq_getElem (by omega), List.getElem?_eq_getElem (by omega)] at this
   exact Option.some.inj this
  rw [sk_step (by omega : j < U.length)] at h ⊢
  rw [sk_step (by omega : j < V.length), hg]
  rw [hg] at h
  cases hp : P (V[j]'(by omega)) with
  | false => rfl
  | true =>
   rw [hp, if_pos rfl] at h
   rw [if_pos rfl, if_pos rfl]
   cases d with
   | zero => omega
   | succ d => exact Agr.sk A P d (j + 1) (by omega) h
def stopN (i k r : Int) : Bool := (r != 58) && (!partP r || ((k == i) && !startP r))
theorem name_step (b : List UInt8) (i k : Nat) (hk : k < b.length) (hb : b.length ≤ 1073741824) (rec : Int → Option Int) : F_scan_scanner_name_l0 ⟨b, (i : Int)⟩ rec (k : Int) = cond (stopN i k ((decodeL (b.drop k)).1 : Int)) (some (k : Int)) (rec ((k + (decodeL (b.drop k)).2 : Nat) : Int)) := by
 obtain ⟨d1, d2, _⟩ := dec_bytes b k hk
 unfold F_scan_scanner_name_l0
 dsimp only
 rw [decide_eq_true (by omega), cond_true, slc_drop (Nat.le_of_lt hk), Option.bind_some, decodeRune_eq b k hk, Option.bind_some]
 simp only [letJ, F_isPart, F_isStart, Option.bind_some]
 have hgo : IntKind.wrap .i64 ((k : Int) + ((decodeL (b.drop k)).2 : Int)) = ((k + (decodeL (b.drop k)).2 : Nat) : Int) := by rw [w64 (by omega) (by omega)]; omega
 rw [hgo]
 unfold stopN
 cases ((decodeL (b.drop k)).1 : Int) != 58 with
 | false => rfl
 | true =>
  cases partP ((decodeL (b.drop k)).1 : Int) with
  | false => rfl
  | true =>
   cases ((k : Int) == (i : Int)) with
   | false => rfl
   | true => cases startP ((decodeL (b.drop k)).1 : Int) <;> rfl
theorem name_end (b : List UInt8) (i : Nat) (rec : Int → Option Int) : F_scan_scanner_name_l0 ⟨b, (i : Int)⟩ rec (b.length : Int) = some (b.length : Int) := by
 unfold F_scan_scanner_name_l0
 dsimp only
 rw [decide_eq_false (by omega), cond_false]
theorem name_iter (b : List UInt8) (i : Nat) (hi : i ≤ b.length) (hb : b.length ≤ 1073741824) : ∃ j : Nat, iter (F_scan_scanner_name_l0 ⟨b, (i : Int)⟩) FUEL (i : Int) = some (j : Int) ∧ i ≤ j ∧ j ≤ b.length := by
 obtain ⟨o, h, j, rfl, h1, h2⟩ := iter_dec (b := F_scan_scanner_name_l0 ⟨b, (i : Int)⟩) (fun x => b.length - x.toNat) (fun x => ∃ k : Nat, x = (k : Int) ∧ i ≤ k ∧ k ≤ b.length) (fun o => ∃ j : Nat, o = (j : Int) ∧ i ≤ j ∧ j ≤ b.length) (by
  rintro _ ⟨k, rfl, g1, g2⟩
  by_cases hk : k < b.length
  ·obtain ⟨d1, d2, _⟩ := dec_bytes b k hk
   cases hs : stopN i k ((decodeL (b.drop k)).1 : Int) with
   | true => exact .inr ⟨(k : Int), fun rec => by rw [name_step b i k hk hb, hs, cond_true], k, rfl, g1, g2⟩
   | false => exact .inl ⟨_, fun rec => by rw [name_step b i k hk hb, hs, cond_false], ⟨_, rfl, by omega, d2⟩, by rw [Int.toNat_natCast, Int.toNat_natCast]; omega⟩
  ·have : k = b.length := by omega
   subst this
   exact .inr ⟨_, fun rec => name_end b i rec, _, rfl, g1, g2⟩) FUEL (i : Int) ⟨i, rfl, Nat.le_refl _, hi⟩ (by unfold FUEL; omega)
 exact ⟨j, h, h1, h2⟩
theorem name_eq (b : List UInt8) (i j : Nat) (h : iter (F_scan_scanner_name_l0 ⟨b, (i : Int)⟩) FUEL (i : Int) = some (j : Int)) (h1 : i ≤ j) (h2 : j ≤ b.length) :
  F_scan_scanner_name ⟨b, (i : Int)⟩ = cond ((b.drop i).take (j - i) == ([] : List UInt8)) (some (([], 23), ⟨b, (i : Int)⟩)) ((F_char_Split ((b.drop i).take (j - i))).bind fun x => cond (!x.2.2) (some (([], 24), ⟨b, (i : Int)⟩)) (some (((b.drop i).take (j - i), 0), ⟨b, (j : Int)⟩))) := by
 unfold F_scan_scanner_name
 simp only [letJ]
 rw [h, Option.bind_some]
 have hsl : slc b (i : Int) (j : Int) = some ((b.drop i).take (j - i)) := by
  unfold slc; rw [if_pos (by omega)]; simp only [Int.toNat_natCast]
 rw [hsl, Option.bind_some]
theorem name_ok {b : List UInt8} {i : Nat} (hi : i ≤ b.length) (hb : b.length ≤ 1073741824) {v : List UInt8} {s : T_scan_scanner} (h : F_scan_scanner_name ⟨b, (i : Int)⟩ = some ((v, 0), s)) :
  ∃ j : Nat, s = ⟨b, (j : Int)⟩ ∧ i < j ∧ j ≤ b.length ∧ v = (b.drop i).take (j - i) ∧ iter (F_scan_scanner_name_l0 ⟨b, (i : Int)⟩) FUEL (i : Int) = some (j : Int) := by
 obtain ⟨j, h1, h2, h3⟩ := name_iter b i hi hb
 rw [name_eq b i j h1 h2 h3] at h
 cases hw : ((b.drop i).take (j - i) == ([] : List UInt8)) with
 | true => rw [hw, cond_true] at h; cases h
 | false =>
  rw [hw, cond_false] at h
  cases hs : F_char_Split ((b.drop i).take (j - i)) with
  | none => rw [hs] at h; cases h
  | some x =>
   rw [hs, Option.bind_some] at h
   cases hx : x.2.2 with
   | false => rw [hx, Bool.not_false, cond_true] at h; cases h
   | true =>
    rw [hx, Bool.not_true, cond_false] at h
    cases h
    refine ⟨j, rfl, ?_, h3, rfl, h1⟩
    by_cases hij : i = j
    ·subst hij
     rw [Nat.sub_self, List.take_zero] at hw
     cases hw
    ·omega
theorem name_head {b : List UInt8} {i : Nat} (hi : i ≤ b.length) (hb : b.length ≤ 1073741824) {v : List UInt8} {s : T_scan_scanner} (h : F_scan_scanner_name ⟨b, (i : Int)⟩ = some ((v, 0), s)) {c : UInt8} (hc : b[i]? = some c) (h128 : c.toNat < 128) : stopN i i (c.toNat : Int) = false := by
 obtain ⟨j, e1, e2, e3, e4, e5⟩ := name_ok hi hb h
 have hlt : i < b.length := by omega
 have hg : b.getD i 0 = c := by simp [List.getD, hc]
 obtain ⟨d1, d2, d3, _⟩ := dec_bytes b i hlt
 rw [hg] at d3
 have d4 := d3 h128
 obtain ⟨m, hm⟩ : ∃ m, FUEL = m + 1 := ⟨FUEL - 1, by unfold FUEL; omega⟩
 rw [hm, iter_succ, name_step b i i hlt hb, d4] at e5
 cases hs : stopN i i (c.toNat : Int) with
 | false => rfl
 | true =>
  rw [hs, cond_true] at e5
  have := Option.some.inj e5
  omega
theorem ixB_of {l : List UInt8} {c : UInt8} {m : Nat} (h1 : l[m]? = some c) (h2 : ∀ k, k < m → l[k]? ≠ some c) : Lib.indexByte l c = (m : Int) := by
 by_cases hn : Lib.indexByte l c < 0
 ·have hge := Lib.indexByte_ge l c
  exact absurd h1 (Lib.indexByte_none (by omega) m)
 ·obtain ⟨o, e1, e2⟩ := ixB_nat l c hn
  obtain ⟨g1, g2⟩ := Lib.indexByte_some e1
  rw [e1]
  rcases Nat.lt_trichotomy o m with h | h | h
  ·exact absurd g1 (h2 o h)
  ·rw [h]
  ·exact absurd h1 (g2 m h)
theorem Agr.index {U V : List UInt8} {n : Nat} (A : Agr U V n) {a m : Nat} {w : List UInt8} (h : Lib.index (U.drop a) w = (m : Int)) (hm : a + m + w.length ≤ n) : Lib.index (V.drop a) w = (m : Int) := by
 have h1 := A.v
 have oc : ∀ k, k ≤ m → Lib.occAt (V.drop a) w k = Lib.occAt (U.drop a) w k := by
  intro k hk
  unfold Lib.occAt
  rw [List.drop_drop, List.drop_drop]
  exact (A.here (j := a + k) (w := w) (by omega)).symm
 rcases Lib.index_spec (U.drop a) w with ⟨g, _⟩ | ⟨i, g1, g2, g3, g4⟩
 ·omega
 ·have : i = m := by omega
  subst this
  refine Lib.index_first (by rw [List.length_drop]; omega) (by rw [oc i (Nat.le_refl _)]; exact g3) fun k hk => ?_
  rw [oc k (by omega)]
  exact g4 k hk
def quo (b : List UInt8) (i : Nat) : ((List UInt8) × Int) × T_scan_scanner :=
 if (hereP b i [39] = true ∨ hereP b i [34] = true) ∧ 0 ≤ Lib.indexByte (b.drop (i + 1)) (b.getD i 0) then (((b.drop (i + 1)).take (Lib.indexByte (b.drop (i + 1)) (b.getD i 0)).toNat, 0), ⟨b, ((i + ((Lib.indexByte (b.drop (i + 1)) (b.getD i 0)).toNat + 2) : Nat) : Int)⟩) else (([], 23), ⟨b, (i : Int)⟩)
theorem quoted_eq (b : List UInt8) (i : Nat) (hi : i ≤ b.length) (hb : b.length ≤ 1073741824) : F_scan_scanner_quoted ⟨b, (i : Int)⟩ = some (quo b i) := by
 have main : i < b.length → (hereP b i [39] = true ∨ hereP b i [34] = true) → ((slc b (IntKind.wrap .i64 ((i : Int) + (1 : Int))) (b.length : Int)).bind fun x7 =>
   (idx b (i : Int)).bind fun x8 =>
   (L_bIndexByte x7 (x8.toNat : Int)).bind fun x9 =>
   cond (decide (x9 < (0 : Int)))
   (some ((([] : List UInt8), (23 : Int)), (⟨b, (i : Int)⟩ : T_scan_scanner)))
   ((slc x7 (0 : Int) x9).bind fun x11 =>
   some ((x11, (0 : Int)), (⟨b, (IntKind.wrap .i64 ((i : Int) + (IntKind.wrap .i64 (x9 + (2 : Int)))))⟩ : T_scan_scanner)))) = some (quo b i) := by
  intro hlt hq
  have hg : b.getD i 0 = b[i] := by simp [List.getD, hlt]
  unfold quo
  rw [w64 (x := (i : Int) + 1) (by omega) (by omega), show (i : Int) + 1 = ((i + 1 : Nat) : Int) by omega, slc_drop hlt, Option.bind_some, idx_some hlt, Option.bind_some, hg]
  unfold L_bIndexByte
  rw [nat_u8, Option.bind_some]
  by_cases hn : Lib.indexByte (b.drop (i + 1)) b[i] < 0
  ·rw [decide_eq_true hn, cond_true, if_neg (fun h => by omega)]
  ·obtain ⟨n, e1, e2⟩ := ixB_nat _ _ hn
   rw [decide_eq_false hn, cond_false, if_pos ⟨hq, by omega⟩, e1, slc_take0 (Nat.le_of_lt e2), Option.bind_some, Int.toNat_natCast]
   rw [List.length_drop] at e2
   rw [w64 (x := (n : Int) + 2) (by omega) (by omega), w64 (by omega) (by omega)]
   rfl
 unfold F_scan_scanner_quoted
 dsimp only
 rw [here_eq b i _ hi, here_eq b i _ hi, Option.bind_some]
 simp only [letJ]
 cases h1 : hereP b i [39] with
 | true =>
  have := hereP_len h1 hi
  rw [Bool.not_true, cond_false, cond_false]
  exact main (by simp at this; omega) (.inl h1)
 | false =>
  rw [Bool.not_false, cond_true, Option.bind_some]
  cases h2 : hereP b i [34] with
  | true =>
   have := hereP_len h2 hi
   rw [Bool.not_true, cond_false]
   exact main (by simp at this; omega) (.inr h2)
  | false =>
   rw [Bool.not_false, cond_true]
   unfold quo
   rw [if_neg (fun h => by rw [h1, h2] at h; simp at h)]
theorem equals_eq (b : List UInt8) (i : Nat) (hi : i ≤ b.length) (hb : b.length ≤ 1073741824) : F_scan_scanner_equals ⟨b, (i : Int)⟩ = some (if hereP b (sk wsP b i) [61] = true then (0, ⟨b, ((sk wsP b (sk wsP b i + 1) : Nat) : Int)⟩) else (23, ⟨b, ((sk wsP b (sk wsP b i) : Nat) : Int)⟩)) := by
 obtain ⟨s1, s2⟩ := sk_le wsP b i hi
 unfold F_scan_scanner_equals
 rw [spaces_eq b _ i hi hb, Option.bind_some]
 dsimp only
 rw [sign_eq b _ _ s2 hb, Option.bind_some]
 cases h : hereP b (sk wsP b i) [61] with
 | false =>
  rw [if_neg (by simp), if_neg (by simp)]
  dsimp only
  rw [spaces_eq b _ _ s2 hb, Option.bind_some]
 | true =>
  have hl := hereP_len h s2
  rw [if_pos rfl, if_pos rfl]
  dsimp only
  rw [spaces_eq b _ _ hl hb, Option.bind_some]
  rfl
theorem equals_ok {b : List UInt8} {i : Nat} (hi : i ≤ b.length) (hb : b.length ≤ 1073741824) {s : T_scan_scanner} (h : F_scan_scanner_equals ⟨b, (i : Int)⟩ = some (0, s)) : ∃ j : Nat, s = ⟨b, (j : Int)⟩ ∧ j = sk wsP b (sk wsP b i + 1) ∧ hereP b (sk wsP b i) [61] = true ∧ sk wsP b i < j ∧ j ≤ b.length := by
 rw [equals_eq b i hi hb] at h
 split at h
 ·rename_i hc
  obtain ⟨s1, s2⟩ := sk_le wsP b i hi
  have hl := hereP_len hc s2
  obtain ⟨t1, t2⟩ := sk_le wsP b _ hl
  have h := Option.some.inj h
  injection h with _ h
  exact ⟨_, h.symm, rfl, hc, by simp at t1; omega, t2⟩
 ·have h := Option.some.inj h
  injection h with h _
  cases h
end Go.Proofs.YtfokkdofcekdbaaDoor
set_option maxRecDepth 20000
namespace Go.Proofs.YtfokkdofcekdbaaDoor
open Go.Lib (decodeL decodeN)
theorem inj3 {b b' : List UInt8} {e e' : Int} {j f : Nat} {t t' : Tk} (h : some (e, (⟨b, (j : Int)⟩ : T_scan_scanner), t) = some (e', ⟨b', (f : Int)⟩, t')) : e = e' ∧ j = f ∧ t = t' := by
 have h := Option.some.inj h
 injection h with h1 h
 injection h with h2 h3
 injection h2 with _ h2
 exact ⟨h1, by omega, h3⟩
theorem stop_at (i r : Int) : stopN i i r = ((r != 58) && (!partP r || !startP r)) := by unfold stopN; rw [beq_self_eq_true, Bool.true_and]
theorem tag_l1_no (k At : Int) (Nm : List UInt8) (ps : List T_scan_Pair) (Tx : List UInt8) (rf : Int) (x27 x31 : ((List UInt8) × Int) × T_scan_scanner) (hl : ps.length ≤ 1073741824) (hn : ∀ p ∈ ps, p.Name ≠ x27.1.1) :
  iter (F_scan_scanner_tag_l1 k At Nm ps Tx rf x27 x31) FUEL (0 : Int) = some (.inl ()) := by
 obtain ⟨o, e, h2⟩ := iter_spec (b := F_scan_scanner_tag_l1 k At Nm ps Tx rf x27 x31) (fun i x => x = (i : Int)) (fun o => o = .inl ()) ps.length (x0 := (0 : Int)) rfl (by
  rintro i _ rec hi rfl
  left
  refine ⟨((i + 1 : Nat) : Int), ?_, rfl⟩
  unfold F_scan_scanner_tag_l1
  rw [decide_eq_true (by omega), cond_true, idx_some hi, Option.bind_some, show (ps[i].Name == x27.1.1) = false by simpa using hn _ (List.getElem_mem hi), cond_false, w64 (by omega) (by omega)]; rfl) (by
  rintro _ rec rfl
  refine ⟨_, ?_, rfl⟩
  unfold F_scan_scanner_tag_l1
  rw [decide_eq_false (by omega), cond_false]) (n := FUEL) (by unfold FUEL; omega)
 rw [e, h2]
end Go.Proofs.YtfokkdofcekdbaaDoor
set_option maxRecDepth 20000
namespace Go.Proofs.YtfokkdofcekdbaaDoor
open Go.Lib (decodeL decodeN)
theorem hereP_nth : ∀ {w : List UInt8} {b : List UInt8} {i : Nat} (k : Nat), hereP b i w = true → k < w.length → b[i + k]? = w[k]?
 | w, b, i, k, h, hk => by
  unfold hereP at h
  rw [List.isPrefixOf_iff_prefix] at h
  obtain ⟨r, hr⟩ := h
  rw [← List.getElem?_drop, ← hr, List.getElem?_append_left hk]
def HdP (k : Nat) (c : UInt8) : Prop := c = 63 ∨ (k ≤ 0 ∧ c = 118) ∨ (k ≤ 1 ∧ c = 101) ∨ (k ≤ 2 ∧ c = 115)
theorem hdP_up {k : Nat} {c : UInt8} (h : HdP (k + 1) c) : HdP k c := by
 rcases h with h | ⟨a, h⟩ | ⟨a, h⟩ | ⟨a, h⟩
 ·exact .inl h
 ·omega
 ·exact .inr (.inr (.inl ⟨by omega, h⟩))
 ·exact .inr (.inr (.inr ⟨by omega, h⟩))
theorem declW_hd (k : Nat) (hk : k < 3) : ∃ w c, idx DeclW (k : Int) = some w ∧ w.length ≤ 10 ∧ 1 ≤ w.length ∧ w[0]? = some c ∧ HdP k c ∧ ¬ HdP (k + 1) c := by
 have h : k = 0 ∨ k = 1 ∨ k = 2 := by omega
 rcases h with rfl | rfl | rfl
 ·exact ⟨_, _, rfl, by decide, by decide, rfl, .inr (.inl ⟨by omega, rfl⟩), by unfold HdP; simp⟩
 ·exact ⟨_, _, rfl, by decide, by decide, rfl, .inr (.inr (.inl ⟨by omega, rfl⟩)), by unfold HdP; simp⟩
 ·exact ⟨_, _, rfl, by decide, by decide, rfl, .inr (.inr (.inr ⟨by omega, rfl⟩)), by unfold HdP; simp⟩
end Go.Proofs.YtfokkdofcekdbaaDoor
set_option maxRecDepth 20000
namespace Go.Proofs.YtfokkdofcekdbaaDoor
open Go.Lib (decodeL decodeN)
abbrev tok0 (i : Int) : Tk := ⟨(0 : Int), i, ([] : List UInt8), ([] : List T_scan_Pair), ([] : List UInt8), (0 : Int)⟩
abbrev tokK (k i : Int) : Tk := ⟨k, i, ([] : List UInt8), ([] : List T_scan_Pair), ([] : List UInt8), (0 : Int)⟩
def tokRest (b : List UInt8) (i : Nat) : Option (Int × T_scan_scanner × Tk) :=
 cond (hereP b i [60, 33, 45, 45])
  ((F_scan_scanner_upTo ⟨b, (i : Int)⟩ (tokK 7 i) (4 : Int) ([45, 45] : List UInt8)).bind fun x14 => cond (x14.1 != (0 : Int)) (some x14) ((F_scan_scanner_sign x14.2.1 ([62] : List UInt8)).bind fun x17 => some (x17.1, x17.2, x14.2.2)))
 (cond (hereP b i [60, 33, 91, 67, 68, 65, 84, 65, 91]) (F_scan_scanner_upTo ⟨b, (i : Int)⟩ (tokK 6 i) (9 : Int) ([93, 93, 62] : List UInt8))
 (cond (hereP b i [60, 33, 68, 79, 67, 84, 89, 80, 69]) (some (25, ⟨b, (i : Int)⟩, tok0 i))
 (cond (hereP b i [60, 33]) (some (23, ⟨b, (i : Int)⟩, tok0 i))
 (cond (hereP b i [60, 63]) (F_scan_scanner_instr ⟨b, (i : Int)⟩ (tok0 i))
 (cond (hereP b i [60, 47]) (F_scan_scanner_closing ⟨b, (i : Int)⟩ (tok0 i))
 (cond (hereP b i [60]) (F_scan_scanner_tag ⟨b, (i : Int)⟩ (tok0 i)) (F_scan_scanner_text ⟨b, (i : Int)⟩ (tok0 i))))))))
def declP (b : List UInt8) (i : Nat) : Bool := decide (i = 0) && (hereP b 0 [60, 63, 120, 109, 108] && decide (5 < sk wsP b 5))
theorem bind_eta (o : Option (Int × T_scan_scanner × T_scan_Token)) : (o.bind fun x => some (x.1, x.2.1, x.2.2)) = o := by cases o <;> rfl
theorem token_eq (b : List UInt8) (i : Nat) (hi : i ≤ b.length) (hb : b.length ≤ 1073741824) : F_scan_scanner_token ⟨b, (i : Int)⟩ (tok0 i) = cond (declP b i) (F_scan_scanner_decl ⟨b, (0 : Int)⟩ (tok0 0)) (tokRest b i) := by
 have rest : ((F_scan_scanner_here (⟨b, (i : Int)⟩ : T_scan_scanner) ([60, 33, 45, 45] : List UInt8)).bind fun x12 =>
    cond x12
    ((F_scan_scanner_upTo ⟨b, (i : Int)⟩ (⟨(7 : Int), (i : Int), ([] : List UInt8), ([] : List T_scan_Pair), ([] : List UInt8), (0 : Int)⟩ : T_scan_Token) (4 : Int) ([45, 45] : List UInt8)).bind fun x14 =>
    cond (x14.1 != (0 : Int))
     (some (x14.1, x14.2.1, x14.2.2))
     ((F_scan_scanner_sign x14.2.1 ([62] : List UInt8)).bind fun x17 =>
     some (x17.1, x17.2, x14.2.2)))
    ((F_scan_scanner_here (⟨b, (i : Int)⟩ : T_scan_scanner) ([60, 33, 91, 67, 68, 65, 84, 65, 91] : List UInt8)).bind fun x18 =>
    cond x18
     ((F_scan_scanner_upTo ⟨b, (i : Int)⟩ (⟨(6 : Int), (i : Int), ([] : List UInt8), ([] : List T_scan_Pair), ([] : List UInt8), (0 : Int)⟩ : T_scan_Token) (9 : Int) ([93, 93, 62] : List UInt8)).bind fun x20 =>
     some (x20.1, x20.2.1, x20.2.2))
     ((F_scan_scanner_here (⟨b, (i : Int)⟩ : T_scan_scanner) ([60, 33, 68, 79, 67, 84, 89, 80, 69] : List UInt8)).bind fun x22 =>
     cond x22
     (some ((25 : Int), (⟨b, (i : Int)⟩ : T_scan_scanner), (⟨(0 : Int), (i : Int), ([] : List UInt8), ([] : List T_scan_Pair), ([] : List UInt8), (0 : Int)⟩ : T_scan_Token)))
     ((F_scan_scanner_here (⟨b, (i : Int)⟩ : T_scan_scanner) ([60, 33] : List UInt8)).bind fun x24 =>
     cond x24
      (some ((23 : Int), (⟨b, (i : Int)⟩ : T_scan_scanner), (⟨(0 : Int), (i : Int), ([] : List UInt8), ([] : List T_scan_Pair), ([] : List UInt8), (0 : Int)⟩ : T_scan_Token)))
      ((F_scan_scanner_here (⟨b, (i : Int)⟩ : T_scan_scanner) ([60, 63] : List UInt8)).bind fun x26 =>
      cond x26
      ((F_scan_scanner_instr (⟨b, (i : Int)⟩ : T_scan_scanner) ⟨(0 : Int), (i : Int), ([] : List UInt8), ([] : List T_scan_Pair), ([] : List UInt8), (0 : Int)⟩).bind fun x28 =>
      some (x28.1, x28.2.1, x28.2.2))
      ((F_scan_scanner_here (⟨b, (i : Int)⟩ : T_scan_scanner) ([60, 47] : List UInt8)).bind fun x30 =>
      cond x30
       ((F_scan_scanner_closing (⟨b, (i : Int)⟩ : T_scan_scanner) ⟨(0 : Int), (i : Int), ([] : List UInt8), ([] : List T_scan_Pair), ([] : List UInt8), (0 : Int)⟩).bind fun x32 =>
       some (x32.1, x32.2.1, x32.2.2))
       ((F_scan_scanner_here (⟨b, (i : Int)⟩ : T_scan_scanner) ([60] : List UInt8)).bind fun x34 =>
       cond x34
       ((F_scan_scanner_tag (⟨b, (i : Int)⟩ : T_scan_scanner) ⟨(0 : Int), (i : Int), ([] : List UInt8), ([] : List T_scan_Pair), ([] : List UInt8), (0 : Int)⟩).bind fun x36 =>
       some (x36.1, x36.2.1, x36.2.2))
       ((F_scan_scanner_text (⟨b, (i : Int)⟩ : T_scan_scanner) ⟨(0 : Int), (i : Int), ([] : List UInt8), ([] : List T_scan_Pair), ([] : List UInt8), (0 : Int)⟩).bind fun x38 =>
       some (x38.1, x38.2.1, x38.2.2))))))))) = tokRest b i := by
  simp only [here_eq b i _ hi, Option.bind_some, bind_eta]
  rfl
 unfold F_scan_scanner_token
 simp only [letJ]
 unfold declP
 by_cases h0 : i = 0
 ·subst h0
  rw [show (((0 : Nat) : Int) == (0 : Int)) = true from rfl, cond_true, here_eq b 0 _ hi, Option.bind_some, decide_eq_true (rfl : (0 : Nat) = 0), Bool.true_and]
  cases c0 : hereP b 0 [60, 63, 120, 109, 108] with
  | false => rw [cond_false, cond_false, Bool.false_and, cond_false]; exact rest
  | true =>
   have hl := hereP_len c0 hi
   have h5 : 5 ≤ b.length := by simpa using hl
   rw [cond_true, show (5 : Int) = ((5 : Nat) : Int) from rfl, spaces_eq b _ 5 h5 hb, Option.bind_some, Bool.true_and]
   by_cases h5' : 5 < sk wsP b 5
   ·rw [decide_eq_true (show (((5 : Nat) : Int) < ((sk wsP b 5 : Nat) : Int)) by omega), decide_eq_true h5', cond_true, cond_true, bind_eta]; rfl
   ·rw [decide_eq_false (show ¬ (((5 : Nat) : Int) < ((sk wsP b 5 : Nat) : Int)) by omega), decide_eq_false h5', cond_false, cond_false]; exact rest
 ·rw [show ((i : Int) == (0 : Int)) = false by rw [beq_eq_false_iff_ne]; omega, cond_false, cond_false, decide_eq_false h0, Bool.false_and, cond_false]
  exact rest
end Go.Proofs.YtfokkdofcekdbaaDoor
