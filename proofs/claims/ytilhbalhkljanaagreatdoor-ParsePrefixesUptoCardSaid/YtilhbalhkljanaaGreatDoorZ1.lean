/- Characters and names: what the program's functions answer. No condition. -/
import Derived.Test.YtilhbalhkljanaaGreatDoorWs
import Derived.Test.YtilhbalhkljanaaGreatDoorPf
import Derived.Test.YtilhbalhkljanaaGreatDoorPl1
import Derived.KernelRfl
import Derived.Lib.MapLaws
import Derived.Lib.TrimUEq
import Derived.Lib.ValidLaws
import Derived.Lib.Index
import Derived.Laws.BitsAllLaws
import Derived.Lib.SlTrimSet
import Derived.Laws.Cover4
import Derived.Lib.IndexMore
import Derived.Lib.IndexLaws
set_option linter.unusedSimpArgs false
set_option linter.unusedVariables false
set_option maxRecDepth 20000
namespace Go.Proofs.YtilhbalhkljanaaGreatDoor
open Go.Lib (decodeL decodeN)
theorem getD_drop (p : LB) (x k : Nat) : (p.drop x).getD k 0 = p.getD (x + k) 0 := by simp [List.getD, List.getElem?_drop]
theorem decN_facts (n b0 b1 b2 b3 : Nat) : (b0 < 128 → decodeN n b0 b1 b2 b3 = (b0, 1)) ∧ (2 ≤ (decodeN n b0 b1 b2 b3).2 → 128 ≤ b1) ∧ (3 ≤ (decodeN n b0 b1 b2 b3).2 → 128 ≤ b2) ∧ (4 ≤ (decodeN n b0 b1 b2 b3).2 → 128 ≤ b3) ∧ (decodeN n b0 b1 b2 b3).2 ≤ 4 := by
 unfold decodeN
 repeat' split
 all_goals refine ⟨fun h => ?_, fun h => ?_, fun h => ?_, fun h => ?_, ?_⟩
 all_goals first | rfl | omega | (simp only at *; omega)
theorem drop_ne {α : Type} {l : List α} {i : Nat} (h : i < l.length) : l.drop i = l[i] :: l.drop (i + 1) := List.drop_eq_getElem_cons h
theorem dec_bytes (p : LB) (x : Nat) (hx : x < p.length) : 1 ≤ (decodeL (p.drop x)).2 ∧ x + (decodeL (p.drop x)).2 ≤ p.length ∧ ((p.getD x 0).toNat < 128 → decodeL (p.drop x) = ((p.getD x 0).toNat, 1)) ∧ ∀ k, 1 ≤ k → k < (decodeL (p.drop x)).2 → 128 ≤ (p.getD (x + k) 0).toNat := by
 have hne : p.drop x ≠ [] := by intro h; have := congrArg List.length h; simp at this; omega
 have h1 := Lib.decodeL_width (p.drop x)
 have h2 := Lib.decodeL_le (p.drop x) hne
 have e := Lib.decodeL_N (p.drop x)
 simp only [getD_drop] at e
 have f := decN_facts (p.drop x).length (p.getD (x + 0) 0).toNat (p.getD (x + 1) 0).toNat (p.getD (x + 2) 0).toNat (p.getD (x + 3) 0).toNat
 rw [← e] at f
 obtain ⟨f0, f1, f2, f3, f4⟩ := f
 rw [List.length_drop] at h2
 refine ⟨h1, by omega, fun h => f0 h, fun k hk1 hk2 => ?_⟩
 match k, hk1, hk2 with
 | 1, _, hk => exact f1 (by omega)
 | 2, _, hk => exact f2 (by omega)
 | 3, _, hk => exact f3 (by omega)
 | k + 4, _, hk => omega
theorem dec_at (p : LB) (x : Nat) : (rnS p x = ((decodeL (p.drop x)).1 : Int)) ∧ wdS p x = (decodeL (p.drop x)).2 := by
 have := Lib.decodeL_drop ⟨p.toArray⟩ x
 simp only at this
 unfold rnS wdS
 rw [← this]
 exact ⟨rfl, rfl⟩
def badR (d : Nat × Nat) : Bool := decide (d.1 = 65533 ∧ d.2 = 1)
def inP (r : Int) : List T_char_span → Bool
 | [] => false
 | s :: l => if r ≤ s.hi then decide (s.lo ≤ r) else inP r l
theorem F_in (r : Int) (l : List T_char_span) (hl : l.length ≤ 9223372036854775807) : F_char_in r l = some (inP r l) := by
 unfold F_char_in
 simp only [letJ]
 obtain ⟨o, h1, h2⟩ := iter_spec (b := F_char_in_l0 r l) (fun i x => x = (i : Int) ∧ inP r l = inP r (l.drop i)) (fun o => match o with | .inl _ => inP r l = false | .inr b => inP r l = b) l.length (x0 := (0 : Int)) ⟨rfl, by simp⟩
  (fun i x rec hi ⟨hx, hI⟩ => by
   subst hx
   rw [drop_ne hi, inP] at hI
   unfold F_char_in_l0
   rw [dT (by omega), cT, idx_some hi, bS, w64 (by omega) (by omega)]
   by_cases c : r ≤ l[i].hi
   ·rw [if_pos c] at hI
    rw [dT c]
    exact .inr ⟨.inr _, rfl, hI⟩
   ·rw [if_neg c] at hI
    rw [dF c]
    exact .inl ⟨_, rfl, rfl, hI⟩)
  (fun x rec ⟨hx, hI⟩ => ⟨.inl (), by
   subst hx
   unfold F_char_in_l0
   rw [dF (by omega), cF], by show inP r l = false; rw [hI, List.drop_length]; rfl⟩) (n := FUEL) (by unfold FUEL; omega)
 rw [h1, bS]
 cases o with
 | inl u => simp only at h2; rw [h2]
 | inr b => simp only at h2; rw [h2]
def srt : List T_char_span → Bool
 | [] => true
 | s :: l => l.all (fun t => decide (s.hi < t.lo)) && srt l
theorem inP_any (r : Int) : ∀ l, srt l = true → inP r l = l.any fun s => decide (s.lo ≤ r ∧ r ≤ s.hi)
 | [], _ => rfl
 | s :: l, h => by
  simp only [srt, Bool.and_eq_true, List.all_eq_true, decide_eq_true_eq] at h
  simp only [inP, List.any_cons]
  by_cases c : r ≤ s.hi
  ·rw [if_pos c]
   have : (l.any fun s => decide (s.lo ≤ r ∧ r ≤ s.hi)) = false := by
    rw [List.any_eq_false]
    intro t ht
    have := h.1 t ht
    simp only [decide_eq_true_eq]; omega
   rw [this, Bool.or_false]
   by_cases c2 : s.lo ≤ r <;> simp [c, c2]
  ·rw [if_neg c, inP_any r l h.2, dF (fun hh => c hh.2), Bool.false_or]
def charP (r : Int) : Bool := decide (r = 9 ∨ r = 10 ∨ r = 13 ∨ (32 ≤ r ∧ r ≤ 55295) ∨ (57344 ≤ r ∧ r ≤ 65533) ∨ (65536 ≤ r ∧ r ≤ 1114111))
def startP (r : Int) : Bool := decide ((65 ≤ r ∧ r ≤ 90) ∨ r = 95 ∨ (97 ≤ r ∧ r ≤ 122) ∨ (192 ≤ r ∧ r ≤ 214) ∨ (216 ≤ r ∧ r ≤ 246) ∨ (248 ≤ r ∧ r ≤ 767) ∨ (880 ≤ r ∧ r ≤ 893) ∨ (895 ≤ r ∧ r ≤ 8191) ∨ (8204 ≤ r ∧ r ≤ 8205) ∨ (8304 ≤ r ∧ r ≤ 8591) ∨ (11264 ≤ r ∧ r ≤ 12271) ∨ (12289 ≤ r ∧ r ≤ 55295) ∨ (63744 ≤ r ∧ r ≤ 64975) ∨ (65008 ≤ r ∧ r ≤ 65533) ∨ (65536 ≤ r ∧ r ≤ 983039))
def partP (r : Int) : Bool := startP r || decide (r = 45 ∨ r = 46 ∨ (48 ≤ r ∧ r ≤ 57) ∨ r = 183 ∨ (768 ≤ r ∧ r ≤ 879) ∨ (8255 ≤ r ∧ r ≤ 8256))
theorem in_eq (r : Int) (k : Bool → Option Bool) (l : List T_char_span) (hl : l.length ≤ 9223372036854775807) : (F_char_in r l).bind k = k (inP r l) := by rw [F_in r l hl]; rfl
theorem F_isChar (r : Int) : F_char_IsChar r = some (charP r) := by
 unfold F_char_IsChar charP
 simp only [letJ]
 by_cases c : r = 9 ∨ r = 10 ∨ r = 13
 ·have e : (((r == (9 : Int)) || (r == (10 : Int))) || (r == (13 : Int))) = true := by simp only [Bool.or_eq_true, beq_iff_eq]; omega
  rw [e, cT, dT (by omega)]
 ·have e : (((r == (9 : Int)) || (r == (10 : Int))) || (r == (13 : Int))) = false := by simp only [Bool.or_eq_false_iff, beq_eq_false_iff_ne]; omega
  rw [e, cF, in_eq _ _ _ (by decide)]
  congr 1
  rw [inP_any _ _ (by decide), Bool.eq_iff_iff]
  simp only [List.any_cons, List.any_nil, Bool.or_eq_true, decide_eq_true_eq, Bool.false_eq_true, or_false]
  omega
theorem F_isStart (r : Int) : F_char_IsStart r = some (startP r) := by
 unfold F_char_IsStart startP
 by_cases c : r < 128
 ·rw [dT c, cT]
  congr 1
  rw [Bool.eq_iff_iff]
  simp only [Bool.or_eq_true, Bool.and_eq_true, beq_iff_eq, decide_eq_true_eq]
  omega
 ·rw [dF c, cF, in_eq _ _ _ (by decide)]
  congr 1
  rw [inP_any _ _ (by decide), Bool.eq_iff_iff]
  simp only [List.any_cons, List.any_nil, Bool.or_eq_true, decide_eq_true_eq, Bool.false_eq_true, or_false]
  omega
theorem F_isPart (r : Int) : F_char_IsPart r = some (partP r) := by
 unfold F_char_IsPart partP
 rw [F_isStart, bS]
 simp only [letJ]
 by_cases c : startP r = true ∨ r = 45 ∨ r = 46 ∨ (48 ≤ r ∧ r ≤ 57) ∨ r = 183
 ·have e : ((((startP r || (r == (45 : Int))) || (r == (46 : Int))) || ((decide ((48 : Int) ≤ r)) && (decide (r ≤ (57 : Int))))) || (r == (183 : Int))) = true := by
   simp only [Bool.or_eq_true, Bool.and_eq_true, beq_iff_eq, decide_eq_true_eq]
   rcases c with c | c
   ·simp [c]
   ·omega
  rw [e, cT]
  congr 1
  rcases c with c | c
  ·simp [c]
  ·rw [dT (by omega), Bool.or_true]
 ·have hs : startP r = false := by simpa using fun h => c (.inl h)
  have e : ((((startP r || (r == (45 : Int))) || (r == (46 : Int))) || ((decide ((48 : Int) ≤ r)) && (decide (r ≤ (57 : Int))))) || (r == (183 : Int))) = false := by
   rw [Bool.eq_false_iff]
   simp only [ne_eq, Bool.or_eq_true, Bool.and_eq_true, beq_iff_eq, decide_eq_true_eq, hs, Bool.false_eq_true, false_or]
   intro h; apply c; right; omega
  rw [e, cF, in_eq _ _ _ (by decide)]
  congr 1
  rw [hs, Bool.false_or]
  rw [inP_any _ _ (by decide), Bool.eq_iff_iff]
  simp only [List.any_cons, List.any_nil, Bool.or_eq_true, decide_eq_true_eq, Bool.false_eq_true, or_false]
  omega
theorem decN_two (n b0 b1 b2 b3 : Nat) : (decodeN n b0 b1 b2 b3).2 = 2 → (decodeN n b0 b1 b2 b3).1 ≤ 2047 := by
 unfold decodeN
 repeat' split
 all_goals first | (intro h; simp only at h; omega) | (intro _; simp only; omega)
theorem badR_iff (l : LB) (x : Nat) (hx : x < l.length) : ((((decodeL (l.drop x)).1 : Int) == (65533 : Int)) && decide (((decodeL (l.drop x)).2 : Int) < (3 : Int))) = badR (decodeL (l.drop x)) := by
 obtain ⟨d1, _⟩ := dec_bytes l x hx
 have e := Lib.decodeL_N (l.drop x)
 have h2 := decN_two (l.drop x).length ((l.drop x).getD 0 0).toNat ((l.drop x).getD 1 0).toNat ((l.drop x).getD 2 0).toNat ((l.drop x).getD 3 0).toNat
 rw [← e] at h2
 unfold badR
 rw [Bool.eq_iff_iff]
 simp only [Bool.and_eq_true, beq_iff_eq, decide_eq_true_eq]
 omega
theorem F_next (p : LB) (x : Nat) (hx : x < p.length) (hl : p.length ≤ 1073741824) : F_char_Next p (x : Int) = some (if badR (decodeL (p.drop x)) then (0, 0, 20) else if charP (decodeL (p.drop x)).1 then (((decodeL (p.drop x)).1 : Int), ((x + (decodeL (p.drop x)).2 : Nat) : Int), 0) else (0, 0, 21)) := by
 obtain ⟨d1, d2, d3, d4⟩ := dec_bytes p x hx
 unfold F_char_Next
 rw [dF (by omega), dF (by omega)]
 simp only [Bool.or_self, cF]
 have hs : slc p (x : Int) (p.length : Int) = some (p.drop x) := by
  unfold slc; rw [if_pos (by omega)]; simp only [Int.toNat_natCast]; rw [List.take_of_length_le (by simp)]
 rw [hs, bS]
 have hne : p.drop x ≠ [] := by intro h; have := congrArg List.length h; simp at this; omega
 have hd : L_DecodeRune (p.drop x) = some (((decodeL (p.drop x)).1 : Int), ((decodeL (p.drop x)).2 : Int)) := by
  unfold L_DecodeRune Lib.decodeGo
  rw [if_neg hne, if_neg (by
   show ¬ ((p.drop x).toArray.size = 0)
   simp; omega)]
  rfl
 rw [hd, bS]
 simp only [badR_iff p x hx, F_isChar, bS]
 cases badR (decodeL (p.drop x))
 ·cases charP ((decodeL (p.drop x)).1 : Int)
  ·rfl
  ·simp only [cF, Bool.not_true, Bool.false_eq_true, if_false, if_true]
   rw [w64 (by omega) (by omega)]; rfl
 ·rfl
def okN (l : LB) : Nat → Nat → Bool
 | 0, _ => true
 | n + 1, j => if j < l.length then !badR (decodeL (l.drop j)) && (partP (decodeL (l.drop j)).1 && ((!decide (j = 0) || startP (decodeL (l.drop j)).1) && okN l n (j + (decodeL (l.drop j)).2))) else true
theorem okN_valid (l : LB) : ∀ n j, l.length ≤ j + n → okN l n j = true → Lib.validD (l.drop j) = true
 | 0, j, h, _ => by rw [List.drop_of_length_le (by omega)]; rfl
 | n + 1, j, h, hok => by
  by_cases hj : j < l.length
  ·obtain ⟨d1, d2, d3, d4⟩ := dec_bytes l j hj
   simp only [okN, if_pos hj, Bool.and_eq_true, Bool.not_eq_true'] at hok
   have hne : l.drop j ≠ [] := by intro h; have := congrArg List.length h; simp at this; omega
   have hb := hok.1
   unfold badR at hb
   rw [Lib.validD_step _ hne, if_neg (of_decide_eq_false hb), List.drop_drop]
   exact okN_valid l n _ (by omega) hok.2.2.2
  ·rw [List.drop_of_length_le (by omega)]; rfl
def nameP (l : LB) : Bool := !(decide (l = []) || decide (100 < l.length)) && okN l l.length 0
theorem F_nameC (l : LB) : F_char_Name l = some (nameP l) := by
 unfold F_char_Name nameP
 simp only [letJ]
 by_cases c : l = [] ∨ 100 < l.length
 ·have e1 : ((l == ([] : LB)) || decide ((100 : Int) < (l.length : Int))) = true := by
   simp only [Bool.or_eq_true, beq_iff_eq, decide_eq_true_eq]
   rcases c with rfl | c
   ·left; rfl
   ·right; omega
  have e2 : (decide (l = []) || decide (100 < l.length)) = true := by simpa using c
  rw [e1, e2]; rfl
 ·have hl : l.length ≤ 100 := by omega
  have hne : 0 < l.length := List.length_pos_iff.2 fun h => c (.inl h)
  have e1 : ((l == ([] : LB)) || decide ((100 : Int) < (l.length : Int))) = false := by
   simp only [Bool.or_eq_false_iff, beq_eq_false_iff_ne, decide_eq_false_iff_not]
   exact ⟨fun h => c (.inl h), by omega⟩
  have e2 : (decide (l = []) || decide (100 < l.length)) = false := by
   simp only [Bool.or_eq_false_iff, decide_eq_false_iff_not]
   exact ⟨fun h => c (.inl h), by omega⟩
  rw [e1, e2, cF, Bool.not_false, Bool.true_and]
  have hv : L_ValidString l = some (Lib.validD l) := by unfold L_ValidString; rw [if_pos (by omega)]
  rw [hv, bS]
  cases hval : Lib.validD l
  ·have : okN l l.length 0 = false := by
    cases hok : okN l l.length 0
    ·rfl
    ·have := okN_valid l l.length 0 (by omega) hok
     rw [List.drop_zero, hval] at this; cases this
   rw [this]; rfl
  simp only [Bool.not_true, cF]
  obtain ⟨o, h1, h2⟩ := iter_spec (b := F_char_Name_l0 l) (fun i x => i ≤ x ∧ x ≤ l.length ∧ okN l l.length 0 = okN l (l.length - i) x ∧ Lib.validD (l.drop x) = true) (fun o => match o with | .inl _ => okN l l.length 0 = true | .inr b => b = false ∧ okN l l.length 0 = false) l.length (x0 := (0 : Nat)) ⟨Nat.le_refl _, Nat.zero_le _, rfl, by simpa using hval⟩
   (fun i j rec hi ⟨hij, hjl, hI, hV⟩ => by
    have es : l.length - i = (l.length - (i + 1)) + 1 := by omega
    rw [es, okN] at hI
    unfold F_char_Name_l0
    by_cases hj : j < l.length
    ·obtain ⟨d1, d2, d3, d4⟩ := dec_bytes l j hj
     obtain ⟨r1, r2⟩ := dec_at l j
     have hne : l.drop j ≠ [] := by intro h; have := congrArg List.length h; simp at this; omega
     rw [Lib.validD_step _ hne] at hV
     have hb : badR (decodeL (l.drop j)) = false := by
      unfold badR
      apply dF
      intro h; rw [if_pos h] at hV; cases hV
     rw [if_neg (of_decide_eq_false hb), List.drop_drop] at hV
     rw [if_pos hj, hb] at hI
     simp only [letJ]
     rw [dT hj, cT]
     simp only [r1, r2, F_isPart, F_isStart, bS]
     have ez : (((j : Nat) : Int) == (0 : Int)) = decide (j = 0) := by
      rw [Bool.eq_iff_iff]; simp only [beq_iff_eq, decide_eq_true_eq]; omega
     rw [ez]
     cases hp : partP ((decodeL (l.drop j)).1 : Int)
     ·rw [hp] at hI
      refine .inr ⟨.inr false, ?_, rfl, by simpa using hI⟩
      cases decide (j = 0) <;> cases startP ((decodeL (l.drop j)).1 : Int) <;> rfl
     ·rw [hp] at hI
      cases hd0 : decide (j = 0)
      ·rw [hd0] at hI
       exact .inl ⟨j + (decodeL (l.drop j)).2, rfl, by omega, d2, by simpa using hI, hV⟩
      ·rw [hd0] at hI
       cases hs : startP ((decodeL (l.drop j)).1 : Int)
       ·rw [hs] at hI
        exact .inr ⟨.inr false, rfl, rfl, by simpa using hI⟩
       ·rw [hs] at hI
        exact .inl ⟨j + (decodeL (l.drop j)).2, rfl, by omega, d2, by simpa using hI, hV⟩
    ·rw [if_neg hj] at hI
     rw [dF hj, cF]
     exact .inr ⟨.inl (), rfl, hI⟩)
   (fun j rec ⟨hij, hjl, hI, hV⟩ => ⟨.inl (), by
    unfold F_char_Name_l0
    rw [dF (by omega), cF], by show okN l l.length 0 = true; rw [hI, Nat.sub_self]; rfl⟩) (n := FUEL) (by unfold FUEL; omega)
  rw [h1, bS]
  cases o with
  | inl u => simp only at h2; rw [h2]
  | inr b => obtain ⟨rfl, h3⟩ := h2; rw [h3]
def sk (P : UInt8 → Bool) (s : LB) (i : Nat) : Nat := i + ((s.drop i).takeWhile P).length
theorem sk_le (P : UInt8 → Bool) (s : LB) (i : Nat) (h : i ≤ s.length) : i ≤ sk P s i ∧ sk P s i ≤ s.length := by
 unfold sk
 have := (List.takeWhile_sublist P (l := s.drop i)).length_le
 rw [List.length_drop] at this
 omega
theorem sk_end (P : UInt8 → Bool) (s : LB) : sk P s s.length = s.length := by simp [sk]
theorem sk_step {P : UInt8 → Bool} {s : LB} {i : Nat} (h : i < s.length) : sk P s i = if P s[i] = true then sk P s (i + 1) else i := by
 unfold sk
 rw [List.drop_eq_getElem_cons h, List.takeWhile_cons]
 split
 ·rw [List.length_cons]; omega
 ·rfl
theorem scan_loop {b : (Int → Option Int) → Int → Option Int} (P : UInt8 → Bool) (s : LB)
  (hb : ∀ (rec : Int → Option Int) (i : Nat) (h : i < s.length), b rec (i : Int) = cond (P s[i]) (rec ((i + 1 : Nat) : Int)) (some (i : Int)))
  (he : ∀ rec : Int → Option Int, b rec (s.length : Int) = some (s.length : Int)) :
  ∀ (n j i : Nat), i + j = s.length → j < n → iter b n (i : Int) = some ((sk P s i : Nat) : Int)
 | 0, j, i, _, h => by omega
 | n + 1, 0, i, e, h => by
  have : i = s.length := by omega
  subst this
  show b (iter b n) _ = _
  rw [he, sk_end]
 | n + 1, j + 1, i, e, h => by
  have hi : i < s.length := by omega
  show b (iter b n) _ = _
  rw [hb _ i hi, sk_step hi]
  cases hP : P s[i] with
  | true => rw [cT, if_pos rfl]; exact scan_loop P s hb he n j (i + 1) (by omega) (by omega)
  | false => rw [cF, if_neg (by simp)]
theorem all_u8 {p : UInt8 → Bool} (h : (List.range 256).all (fun n => p (UInt8.ofNat n)) = true) (c : UInt8) : p c = true := by
 rw [List.all_eq_true] at h
 have := h c.toNat (List.mem_range.2 c.toNat_lt)
 simpa using this
theorem nat_u8 (c : UInt8) : ((c.toNat : Int)).toNat.toUInt8 = c := by simp
theorem iter_succ {σ ρ : Type} (b : (σ → Option ρ) → σ → Option ρ) (n : Nat) (x : σ) : iter b (n + 1) x = b (iter b n) x := rfl
def readN (n b0 b1 b2 b3 : Nat) : Int × Int :=
 if b0 < 128 then (b0, 1)
 else if 192 ≤ b0 ∧ b0 < 224 then
  (if n < 2 then (0, 0) else if b1 < 128 ∨ 191 < b1 then (0, 0) else
   if (64 * ((b0 : Int) - 192) + b1 - 128 < 128 ∨ 1114111 < 64 * ((b0 : Int) - 192) + b1 - 128) ∨ (55296 ≤ 64 * ((b0 : Int) - 192) + b1 - 128 ∧ 64 * ((b0 : Int) - 192) + b1 - 128 ≤ 57343) then (0, 0) else (64 * ((b0 : Int) - 192) + b1 - 128, 2))
 else if 224 ≤ b0 ∧ b0 < 240 then
  (if n < 3 then (0, 0) else if b1 < 128 ∨ 191 < b1 then (0, 0) else if b2 < 128 ∨ 191 < b2 then (0, 0) else
   if (64 * (64 * ((b0 : Int) - 224) + b1 - 128) + b2 - 128 < 2048 ∨ 1114111 < 64 * (64 * ((b0 : Int) - 224) + b1 - 128) + b2 - 128) ∨ (55296 ≤ 64 * (64 * ((b0 : Int) - 224) + b1 - 128) + b2 - 128 ∧ 64 * (64 * ((b0 : Int) - 224) + b1 - 128) + b2 - 128 ≤ 57343) then (0, 0) else (64 * (64 * ((b0 : Int) - 224) + b1 - 128) + b2 - 128, 3))
 else if 240 ≤ b0 ∧ b0 < 248 then
  (if n < 4 then (0, 0) else if b1 < 128 ∨ 191 < b1 then (0, 0) else if b2 < 128 ∨ 191 < b2 then (0, 0) else if b3 < 128 ∨ 191 < b3 then (0, 0) else
   if (64 * (64 * (64 * ((b0 : Int) - 240) + b1 - 128) + b2 - 128) + b3 - 128 < 65536 ∨ 1114111 < 64 * (64 * (64 * ((b0 : Int) - 240) + b1 - 128) + b2 - 128) + b3 - 128) ∨ (55296 ≤ 64 * (64 * (64 * ((b0 : Int) - 240) + b1 - 128) + b2 - 128) + b3 - 128 ∧ 64 * (64 * (64 * ((b0 : Int) - 240) + b1 - 128) + b2 - 128) + b3 - 128 ≤ 57343) then (0, 0) else (64 * (64 * (64 * ((b0 : Int) - 240) + b1 - 128) + b2 - 128) + b3 - 128, 4))
 else (0, 0)
theorem readN_eq (n b0 b1 b2 b3 : Nat) (hn : 1 ≤ n) (h0 : b0 < 256) (h1 : b1 < 256) (h2 : b2 < 256) (h3 : b3 < 256) :
  readN n b0 b1 b2 b3 = if badR (decodeN n b0 b1 b2 b3) then (0, 0) else (((decodeN n b0 b1 b2 b3).1 : Int), ((decodeN n b0 b1 b2 b3).2 : Int)) := by
 have key : (decodeN n b0 b1 b2 b3).1 = 65533 ∧ (decodeN n b0 b1 b2 b3).2 = 1 ∧ readN n b0 b1 b2 b3 = (0, 0) ∨ ((decodeN n b0 b1 b2 b3).2 ≠ 1 ∨ (decodeN n b0 b1 b2 b3).1 ≠ 65533) ∧ readN n b0 b1 b2 b3 = (((decodeN n b0 b1 b2 b3).1 : Int), ((decodeN n b0 b1 b2 b3).2 : Int)) := by
  by_cases c0 : b0 < 128
  ·right
   have hD : decodeN n b0 b1 b2 b3 = (b0, 1) := by unfold decodeN; rw [if_pos c0]
   have hR : readN n b0 b1 b2 b3 = ((b0 : Int), 1) := by unfold readN; rw [if_pos c0]
   rw [hD, hR]; exact ⟨.inr (by simp only; omega), rfl⟩
  by_cases c1 : b0 < 192 ∨ 248 ≤ b0
  ·
   left
   have hD : decodeN n b0 b1 b2 b3 = (65533, 1) := by unfold decodeN; rw [if_neg (show ¬ (b0 < 128) by omega), if_neg (show ¬ (b0 / 32 = 6 ∧ (1 < n ∧ b1 / 64 = 2)) by omega), if_neg (show ¬ (b0 / 16 = 14 ∧ (1 < n ∧ b1 / 64 = 2) ∧ (2 < n ∧ b2 / 64 = 2)) by omega), if_neg (show ¬ (b0 / 8 = 30 ∧ (1 < n ∧ b1 / 64 = 2) ∧ (2 < n ∧ b2 / 64 = 2) ∧ (3 < n ∧ b3 / 64 = 2)) by omega)]
   have hR : readN n b0 b1 b2 b3 = (0, 0) := by unfold readN; rw [if_neg (show ¬ (b0 < 128) by omega), if_neg (show ¬ (192 ≤ b0 ∧ b0 < 224) by omega), if_neg (show ¬ (224 ≤ b0 ∧ b0 < 240) by omega), if_neg (show ¬ (240 ≤ b0 ∧ b0 < 248) by omega)]
   rw [hD, hR]; exact ⟨rfl, rfl, rfl⟩
  by_cases c2 : b0 < 224
  ·
   by_cases g : b0 / 32 = 6 ∧ (1 < n ∧ b1 / 64 = 2)
   ·
    by_cases g2 : b0 % 32 * 64 + b1 % 64 ≥ 128
    ·
     right
     have hD : decodeN n b0 b1 b2 b3 = (b0 % 32 * 64 + b1 % 64, 2) := by unfold decodeN; rw [if_neg (show ¬ (b0 < 128) by omega), if_pos g, if_pos g2]
     have hR : readN n b0 b1 b2 b3 = (64 * ((b0 : Int) - 192) + b1 - 128, 2) := by unfold readN; rw [if_neg (show ¬ (b0 < 128) by omega), if_pos (show 192 ≤ b0 ∧ b0 < 224 by omega), if_neg (show ¬ (n < 2) by omega), if_neg (show ¬ (b1 < 128 ∨ 191 < b1) by omega), if_neg (show ¬ ((64 * ((b0 : Int) - 192) + b1 - 128 < 128 ∨ 1114111 < 64 * ((b0 : Int) - 192) + b1 - 128) ∨ (55296 ≤ 64 * ((b0 : Int) - 192) + b1 - 128 ∧ 64 * ((b0 : Int) - 192) + b1 - 128 ≤ 57343)) by omega)]
     rw [hD, hR]; exact ⟨.inl (by simp only; omega), by simp only [Prod.mk.injEq]; omega⟩
    ·
     left
     have hD : decodeN n b0 b1 b2 b3 = (65533, 1) := by unfold decodeN; rw [if_neg (show ¬ (b0 < 128) by omega), if_pos g, if_neg g2]
     have hR : readN n b0 b1 b2 b3 = (0, 0) := by unfold readN; rw [if_neg (show ¬ (b0 < 128) by omega), if_pos (show 192 ≤ b0 ∧ b0 < 224 by omega), if_neg (show ¬ (n < 2) by omega), if_neg (show ¬ (b1 < 128 ∨ 191 < b1) by omega), if_pos (show (64 * ((b0 : Int) - 192) + b1 - 128 < 128 ∨ 1114111 < 64 * ((b0 : Int) - 192) + b1 - 128) ∨ (55296 ≤ 64 * ((b0 : Int) - 192) + b1 - 128 ∧ 64 * ((b0 : Int) - 192) + b1 - 128 ≤ 57343) by omega)]
     rw [hD, hR]; exact ⟨rfl, rfl, rfl⟩
   ·
    by_cases g3 : n < 2
    ·
     left
     have hD : decodeN n b0 b1 b2 b3 = (65533, 1) := by unfold decodeN; rw [if_neg (show ¬ (b0 < 128) by omega), if_neg g, if_neg (show ¬ (b0 / 16 = 14 ∧ (1 < n ∧ b1 / 64 = 2) ∧ (2 < n ∧ b2 / 64 = 2)) by omega), if_neg (show ¬ (b0 / 8 = 30 ∧ (1 < n ∧ b1 / 64 = 2) ∧ (2 < n ∧ b2 / 64 = 2) ∧ (3 < n ∧ b3 / 64 = 2)) by omega)]
     have hR : readN n b0 b1 b2 b3 = (0, 0) := by unfold readN; rw [if_neg (show ¬ (b0 < 128) by omega), if_pos (show 192 ≤ b0 ∧ b0 < 224 by omega), if_pos g3]
     rw [hD, hR]; exact ⟨rfl, rfl, rfl⟩
    have f1 : b1 < 128 ∨ 191 < b1 := by omega
    left
    have hD : decodeN n b0 b1 b2 b3 = (65533, 1) := by unfold decodeN; rw [if_neg (show ¬ (b0 < 128) by omega), if_neg g, if_neg (show ¬ (b0 / 16 = 14 ∧ (1 < n ∧ b1 / 64 = 2) ∧ (2 < n ∧ b2 / 64 = 2)) by omega), if_neg (show ¬ (b0 / 8 = 30 ∧ (1 < n ∧ b1 / 64 = 2) ∧ (2 < n ∧ b2 / 64 = 2) ∧ (3 < n ∧ b3 / 64 = 2)) by omega)]
    have hR : readN n b0 b1 b2 b3 = (0, 0) := by unfold readN; rw [if_neg (show ¬ (b0 < 128) by omega), if_pos (show 192 ≤ b0 ∧ b0 < 224 by omega), if_neg g3, if_pos f1]
    rw [hD, hR]; exact ⟨rfl, rfl, rfl⟩
  by_cases c3 : b0 < 240
  ·
   by_cases g : b0 / 16 = 14 ∧ (1 < n ∧ b1 / 64 = 2) ∧ (2 < n ∧ b2 / 64 = 2)
   ·
    by_cases g2 : b0 % 16 * 4096 + b1 % 64 * 64 + b2 % 64 ≥ 2048 ∧ (b0 % 16 * 4096 + b1 % 64 * 64 + b2 % 64 < 55296 ∨ (57344 ≤ b0 % 16 * 4096 + b1 % 64 * 64 + b2 % 64 ∧ b0 % 16 * 4096 + b1 % 64 * 64 + b2 % 64 ≤ 1114111))
    ·
     right
     have hD : decodeN n b0 b1 b2 b3 = (b0 % 16 * 4096 + b1 % 64 * 64 + b2 % 64, 3) := by unfold decodeN; rw [if_neg (show ¬ (b0 < 128) by omega), if_neg (show ¬ (b0 / 32 = 6 ∧ (1 < n ∧ b1 / 64 = 2)) by omega), if_pos g, if_pos g2]
     have hR : readN n b0 b1 b2 b3 = (64 * (64 * ((b0 : Int) - 224) + b1 - 128) + b2 - 128, 3) := by unfold readN; rw [if_neg (show ¬ (b0 < 128) by omega), if_neg (show ¬ (192 ≤ b0 ∧ b0 < 224) by omega), if_pos (show 224 ≤ b0 ∧ b0 < 240 by omega), if_neg (show ¬ (n < 3) by omega), if_neg (show ¬ (b1 < 128 ∨ 191 < b1) by omega), if_neg (show ¬ (b2 < 128 ∨ 191 < b2) by omega), if_neg (show ¬ ((64 * (64 * ((b0 : Int) - 224) + b1 - 128) + b2 - 128 < 2048 ∨ 1114111 < 64 * (64 * ((b0 : Int) - 224) + b1 - 128) + b2 - 128) ∨ (55296 ≤ 64 * (64 * ((b0 : Int) - 224) + b1 - 128) + b2 - 128 ∧ 64 * (64 * ((b0 : Int) - 224) + b1 - 128) + b2 - 128 ≤ 57343)) by omega)]
     rw [hD, hR]; exact ⟨.inl (by simp only; omega), by simp only [Prod.mk.injEq]; omega⟩
    ·
     left
     have hD : decodeN n b0 b1 b2 b3 = (65533, 1) := by unfold decodeN; rw [if_neg (show ¬ (b0 < 128) by omega), if_neg (show ¬ (b0 / 32 = 6 ∧ (1 < n ∧ b1 / 64 = 2)) by omega), if_pos g, if_neg g2]
     have hR : readN n b0 b1 b2 b3 = (0, 0) := by unfold readN; rw [if_neg (show ¬ (b0 < 128) by omega), if_neg (show ¬ (192 ≤ b0 ∧ b0 < 224) by omega), if_pos (show 224 ≤ b0 ∧ b0 < 240 by omega), if_neg (show ¬ (n < 3) by omega), if_neg (show ¬ (b1 < 128 ∨ 191 < b1) by omega), if_neg (show ¬ (b2 < 128 ∨ 191 < b2) by omega), if_pos (show (64 * (64 * ((b0 : Int) - 224) + b1 - 128) + b2 - 128 < 2048 ∨ 1114111 < 64 * (64 * ((b0 : Int) - 224) + b1 - 128) + b2 - 128) ∨ (55296 ≤ 64 * (64 * ((b0 : Int) - 224) + b1 - 128) + b2 - 128 ∧ 64 * (64 * ((b0 : Int) - 224) + b1 - 128) + b2 - 128 ≤ 57343) by omega)]
     rw [hD, hR]; exact ⟨rfl, rfl, rfl⟩
   ·
    by_cases g3 : n < 3
    ·
     left
     have hD : decodeN n b0 b1 b2 b3 = (65533, 1) := by unfold decodeN; rw [if_neg (show ¬ (b0 < 128) by omega), if_neg (show ¬ (b0 / 32 = 6 ∧ (1 < n ∧ b1 / 64 = 2)) by omega), if_neg g, if_neg (show ¬ (b0 / 8 = 30 ∧ (1 < n ∧ b1 / 64 = 2) ∧ (2 < n ∧ b2 / 64 = 2) ∧ (3 < n ∧ b3 / 64 = 2)) by omega)]
     have hR : readN n b0 b1 b2 b3 = (0, 0) := by unfold readN; rw [if_neg (show ¬ (b0 < 128) by omega), if_neg (show ¬ (192 ≤ b0 ∧ b0 < 224) by omega), if_pos (show 224 ≤ b0 ∧ b0 < 240 by omega), if_pos g3]
     rw [hD, hR]; exact ⟨rfl, rfl, rfl⟩
    by_cases f1 : b1 < 128 ∨ 191 < b1
    ·
     left
     have hD : decodeN n b0 b1 b2 b3 = (65533, 1) := by unfold decodeN; rw [if_neg (show ¬ (b0 < 128) by omega), if_neg (show ¬ (b0 / 32 = 6 ∧ (1 < n ∧ b1 / 64 = 2)) by omega), if_neg g, if_neg (show ¬ (b0 / 8 = 30 ∧ (1 < n ∧ b1 / 64 = 2) ∧ (2 < n ∧ b2 / 64 = 2) ∧ (3 < n ∧ b3 / 64 = 2)) by omega)]
     have hR : readN n b0 b1 b2 b3 = (0, 0) := by unfold readN; rw [if_neg (show ¬ (b0 < 128) by omega), if_neg (show ¬ (192 ≤ b0 ∧ b0 < 224) by omega), if_pos (show 224 ≤ b0 ∧ b0 < 240 by omega), if_neg g3, if_pos f1]
     rw [hD, hR]; exact ⟨rfl, rfl, rfl⟩
    have f2 : b2 < 128 ∨ 191 < b2 := by omega
    left
    have hD : decodeN n b0 b1 b2 b3 = (65533, 1) := by unfold decodeN; rw [if_neg (show ¬ (b0 < 128) by omega), if_neg (show ¬ (b0 / 32 = 6 ∧ (1 < n ∧ b1 / 64 = 2)) by omega), if_neg g, if_neg (show ¬ (b0 / 8 = 30 ∧ (1 < n ∧ b1 / 64 = 2) ∧ (2 < n ∧ b2 / 64 = 2) ∧ (3 < n ∧ b3 / 64 = 2)) by omega)]
    have hR : readN n b0 b1 b2 b3 = (0, 0) := by unfold readN; rw [if_neg (show ¬ (b0 < 128) by omega), if_neg (show ¬ (192 ≤ b0 ∧ b0 < 224) by omega), if_pos (show 224 ≤ b0 ∧ b0 < 240 by omega), if_neg g3, if_neg f1, if_pos f2]
    rw [hD, hR]; exact ⟨rfl, rfl, rfl⟩
  by_cases c4 : b0 < 248
  ·
   by_cases g : b0 / 8 = 30 ∧ (1 < n ∧ b1 / 64 = 2) ∧ (2 < n ∧ b2 / 64 = 2) ∧ (3 < n ∧ b3 / 64 = 2)
   ·
    by_cases g2 : b0 % 8 * 262144 + b1 % 64 * 4096 + b2 % 64 * 64 + b3 % 64 ≥ 65536 ∧ (b0 % 8 * 262144 + b1 % 64 * 4096 + b2 % 64 * 64 + b3 % 64 < 55296 ∨ (57344 ≤ b0 % 8 * 262144 + b1 % 64 * 4096 + b2 % 64 * 64 + b3 % 64 ∧ b0 % 8 * 262144 + b1 % 64 * 4096 + b2 % 64 * 64 + b3 % 64 ≤ 1114111))
    ·
     right
     have hD : decodeN n b0 b1 b2 b3 = (b0 % 8 * 262144 + b1 % 64 * 4096 + b2 % 64 * 64 + b3 % 64, 4) := by unfold decodeN; rw [if_neg (show ¬ (b0 < 128) by omega), if_neg (show ¬ (b0 / 32 = 6 ∧ (1 < n ∧ b1 / 64 = 2)) by omega), if_neg (show ¬ (b0 / 16 = 14 ∧ (1 < n ∧ b1 / 64 = 2) ∧ (2 < n ∧ b2 / 64 = 2)) by omega), if_pos g, if_pos g2]
     have hR : readN n b0 b1 b2 b3 = (64 * (64 * (64 * ((b0 : Int) - 240) + b1 - 128) + b2 - 128) + b3 - 128, 4) := by unfold readN; rw [if_neg (show ¬ (b0 < 128) by omega), if_neg (show ¬ (192 ≤ b0 ∧ b0 < 224) by omega), if_neg (show ¬ (224 ≤ b0 ∧ b0 < 240) by omega), if_pos (show 240 ≤ b0 ∧ b0 < 248 by omega), if_neg (show ¬ (n < 4) by omega), if_neg (show ¬ (b1 < 128 ∨ 191 < b1) by omega), if_neg (show ¬ (b2 < 128 ∨ 191 < b2) by omega), if_neg (show ¬ (b3 < 128 ∨ 191 < b3) by omega), if_neg (show ¬ ((64 * (64 * (64 * ((b0 : Int) - 240) + b1 - 128) + b2 - 128) + b3 - 128 < 65536 ∨ 1114111 < 64 * (64 * (64 * ((b0 : Int) - 240) + b1 - 128) + b2 - 128) + b3 - 128) ∨ (55296 ≤ 64 * (64 * (64 * ((b0 : Int) - 240) + b1 - 128) + b2 - 128) + b3 - 128 ∧ 64 * (64 * (64 * ((b0 : Int) - 240) + b1 - 128) + b2 - 128) + b3 - 128 ≤ 57343)) by omega)]
     rw [hD, hR]; exact ⟨.inl (by simp only; omega), by simp only [Prod.mk.injEq]; omega⟩
    ·
     left
     have hD : decodeN n b0 b1 b2 b3 = (65533, 1) := by unfold decodeN; rw [if_neg (show ¬ (b0 < 128) by omega), if_neg (show ¬ (b0 / 32 = 6 ∧ (1 < n ∧ b1 / 64 = 2)) by omega), if_neg (show ¬ (b0 / 16 = 14 ∧ (1 < n ∧ b1 / 64 = 2) ∧ (2 < n ∧ b2 / 64 = 2)) by omega), if_pos g, if_neg g2]
     have hR : readN n b0 b1 b2 b3 = (0, 0) := by unfold readN; rw [if_neg (show ¬ (b0 < 128) by omega), if_neg (show ¬ (192 ≤ b0 ∧ b0 < 224) by omega), if_neg (show ¬ (224 ≤ b0 ∧ b0 < 240) by omega), if_pos (show 240 ≤ b0 ∧ b0 < 248 by omega), if_neg (show ¬ (n < 4) by omega), if_neg (show ¬ (b1 < 128 ∨ 191 < b1) by omega), if_neg (show ¬ (b2 < 128 ∨ 191 < b2) by omega), if_neg (show ¬ (b3 < 128 ∨ 191 < b3) by omega), if_pos (show (64 * (64 * (64 * ((b0 : Int) - 240) + b1 - 128) + b2 - 128) + b3 - 128 < 65536 ∨ 1114111 < 64 * (64 * (64 * ((b0 : Int) - 240) + b1 - 128) + b2 - 128) + b3 - 128) ∨ (55296 ≤ 64 * (64 * (64 * ((b0 : Int) - 240) + b1 - 128) + b2 - 128) + b3 - 128 ∧ 64 * (64 * (64 * ((b0 : Int) - 240) + b1 - 128) + b2 - 128) + b3 - 128 ≤ 57343) by omega)]
     rw [hD, hR]; exact ⟨rfl, rfl, rfl⟩
   ·
    by_cases g3 : n < 4
    ·
     left
     have hD : decodeN n b0 b1 b2 b3 = (65533, 1) := by unfold decodeN; rw [if_neg (show ¬ (b0 < 128) by omega), if_neg (show ¬ (b0 / 32 = 6 ∧ (1 < n ∧ b1 / 64 = 2)) by omega), if_neg (show ¬ (b0 / 16 = 14 ∧ (1 < n ∧ b1 / 64 = 2) ∧ (2 < n ∧ b2 / 64 = 2)) by omega), if_neg g]
     have hR : readN n b0 b1 b2 b3 = (0, 0) := by unfold readN; rw [if_neg (show ¬ (b0 < 128) by omega), if_neg (show ¬ (192 ≤ b0 ∧ b0 < 224) by omega), if_neg (show ¬ (224 ≤ b0 ∧ b0 < 240) by omega), if_pos (show 240 ≤ b0 ∧ b0 < 248 by omega), if_pos g3]
     rw [hD, hR]; exact ⟨rfl, rfl, rfl⟩
    by_cases f1 : b1 < 128 ∨ 191 < b1
    ·
     left
     have hD : decodeN n b0 b1 b2 b3 = (65533, 1) := by unfold decodeN; rw [if_neg (show ¬ (b0 < 128) by omega), if_neg (show ¬ (b0 / 32 = 6 ∧ (1 < n ∧ b1 / 64 = 2)) by omega), if_neg (show ¬ (b0 / 16 = 14 ∧ (1 < n ∧ b1 / 64 = 2) ∧ (2 < n ∧ b2 / 64 = 2)) by omega), if_neg g]
     have hR : readN n b0 b1 b2 b3 = (0, 0) := by unfold readN; rw [if_neg (show ¬ (b0 < 128) by omega), if_neg (show ¬ (192 ≤ b0 ∧ b0 < 224) by omega), if_neg (show ¬ (224 ≤ b0 ∧ b0 < 240) by omega), if_pos (show 240 ≤ b0 ∧ b0 < 248 by omega), if_neg g3, if_pos f1]
     rw [hD, hR]; exact ⟨rfl, rfl, rfl⟩
    by_cases f2 : b2 < 128 ∨ 191 < b2
    ·
     left
     have hD : decodeN n b0 b1 b2 b3 = (65533, 1) := by unfold decodeN; rw [if_neg (show ¬ (b0 < 128) by omega), if_neg (show ¬ (b0 / 32 = 6 ∧ (1 < n ∧ b1 / 64 = 2)) by omega), if_neg (show ¬ (b0 / 16 = 14 ∧ (1 < n ∧ b1 / 64 = 2) ∧ (2 < n ∧ b2 / 64 = 2)) by omega), if_neg g]
     have hR : readN n b0 b1 b2 b3 = (0, 0) := by unfold readN; rw [if_neg (show ¬ (b0 < 128) by omega), if_neg (show ¬ (192 ≤ b0 ∧ b0 < 224) by omega), if_neg (show ¬ (224 ≤ b0 ∧ b0 < 240) by omega), if_pos (show 240 ≤ b0 ∧ b0 < 248 by omega), if_neg g3, if_neg f1, if_pos f2]
     rw [hD, hR]; exact ⟨rfl, rfl, rfl⟩
    have f3 : b3 < 128 ∨ 191 < b3 := by omega
    left
    have hD : decodeN n b0 b1 b2 b3 = (65533, 1) := by unfold decodeN; rw [if_neg (show ¬ (b0 < 128) by omega), if_neg (show ¬ (b0 / 32 = 6 ∧ (1 < n ∧ b1 / 64 = 2)) by omega), if_neg (show ¬ (b0 / 16 = 14 ∧ (1 < n ∧ b1 / 64 = 2) ∧ (2 < n ∧ b2 / 64 = 2)) by omega), if_neg g]
    have hR : readN n b0 b1 b2 b3 = (0, 0) := by unfold readN; rw [if_neg (show ¬ (b0 < 128) by omega), if_neg (show ¬ (192 ≤ b0 ∧ b0 < 224) by omega), if_neg (show ¬ (224 ≤ b0 ∧ b0 < 240) by omega), if_pos (show 240 ≤ b0 ∧ b0 < 248 by omega), if_neg g3, if_neg f1, if_neg f2, if_pos f3]
    rw [hD, hR]; exact ⟨rfl, rfl, rfl⟩
  exact absurd c4 (by omega)
 unfold badR
 rcases key with ⟨k1, k2, k3⟩ | ⟨k1, k2⟩
 ·rw [dT ⟨k1, k2⟩, k3]; rfl
 ·rw [dF (by omega), k2]; rfl
open Go.Lib (decodeL decodeN)
abbrev bt (l : LB) (k : Nat) : Nat := (l.getD k 0).toNat
theorem bt_lt (l : LB) (k : Nat) : bt l k < 256 := (l.getD k 0).toNat_lt
theorem idx_bt {l : LB} {k : Nat} (h : k < l.length) : idx l (k : Int) = some (l.getD k 0) := by
 rw [idx_some h]; simp [List.getD, h]
theorem loop_step (l : LB) (i k : Nat) (n : Int) (rec : Int × Int → Option (Int ⊕ (Int × Int))) (r : Int) (hk : (k : Int) < n) (hik : i + k < l.length) (hl : l.length ≤ 1073741824) (hr0 : 0 ≤ r) (hr1 : r ≤ 1073741824) :
  F_lecternref01_Read_l0 l (i : Int) n rec (r, (k : Int)) = if bt l (i + k) < 128 ∨ 191 < bt l (i + k) then some (.inr ((0 : Int), (0 : Int))) else rec (64 * r + (bt l (i + k) : Int) - 128, ((k + 1 : Nat) : Int)) := by
 have hb := bt_lt l (i + k)
 unfold F_lecternref01_Read_l0
 simp only
 rw [dT hk, cT, w64 (x := (i : Int) + (k : Int)) (by omega) (by omega), show ((i : Int) + (k : Int)) = ((i + k : Nat) : Int) by omega, idx_bt hik, bS]
 have e : (((l.getD (i + k) 0).toNat : Nat) : Int) = (bt l (i + k) : Int) := rfl
 rw [e, w64 (x := (bt l (i + k) : Int)) (by omega) (by omega)]
 by_cases c : bt l (i + k) < 128 ∨ 191 < bt l (i + k)
 ·rw [if_pos c]
  have : (decide ((bt l (i + k) : Int) < (128 : Int)) || decide ((191 : Int) < (bt l (i + k) : Int))) = true := by simp only [Bool.or_eq_true, decide_eq_true_eq]; omega
  rw [this, cT]
 ·rw [if_neg c]
  have : (decide ((bt l (i + k) : Int) < (128 : Int)) || decide ((191 : Int) < (bt l (i + k) : Int))) = false := by simp only [Bool.or_eq_false_iff, decide_eq_false_iff_not]; omega
  rw [this, cF, w64 (x := (64 : Int) * r) (by omega) (by omega), w64 (x := (64 : Int) * r + (bt l (i + k) : Int)) (by omega) (by omega), w64 (x := (64 : Int) * r + (bt l (i + k) : Int) - 128) (by omega) (by omega), w64 (x := (k : Int) + 1) (by omega) (by omega)]; rfl
theorem loop_end (l : LB) (i : Int) (n : Int) (rec : Int × Int → Option (Int ⊕ (Int × Int))) (r : Int) : F_lecternref01_Read_l0 l i n rec (r, n) = some (.inl r) := by
 unfold F_lecternref01_Read_l0
 simp only
 rw [dF (by omega), cF]
theorem loop2 (l : LB) (i : Nat) (r : Int) (hik : i + 2 ≤ l.length) (hl : l.length ≤ 1073741824) (hr0 : 0 ≤ r) (hr1 : r ≤ 1000) :
  iter (F_lecternref01_Read_l0 l (i : Int) 2) FUEL (r, 1) = some (if bt l (i + 1) < 128 ∨ 191 < bt l (i + 1) then .inr (0, 0) else .inl (64 * r + (bt l (i + 1) : Int) - 128)) := by
 have key : ∀ N, iter (F_lecternref01_Read_l0 l (i : Int) 2) (N + 2) (r, ((1 : Nat) : Int)) = some (if bt l (i + 1) < 128 ∨ 191 < bt l (i + 1) then .inr (0, 0) else .inl (64 * r + (bt l (i + 1) : Int) - 128)) := fun N => by
  show F_lecternref01_Read_l0 l (i : Int) 2 (iter _ (N + 1)) (r, ((1 : Nat) : Int)) = _
  rw [loop_step l i 1 2 _ r (by omega) (by omega) hl hr0 (by omega)]
  split
  ·rfl
  ·show F_lecternref01_Read_l0 l (i : Int) 2 (iter _ N) (_, 2) = _
   rw [loop_end]
 rw [show FUEL = 18446744073709551614 + 2 from rfl]; exact key _
theorem loop3 (l : LB) (i : Nat) (r : Int) (hik : i + 3 ≤ l.length) (hl : l.length ≤ 1073741824) (hr0 : 0 ≤ r) (hr1 : r ≤ 1000) :
  iter (F_lecternref01_Read_l0 l (i : Int) 3) FUEL (r, 1) = some (if bt l (i + 1) < 128 ∨ 191 < bt l (i + 1) then .inr (0, 0) else if bt l (i + 2) < 128 ∨ 191 < bt l (i + 2) then .inr (0, 0) else .inl (64 * (64 * r + (bt l (i + 1) : Int) - 128) + (bt l (i + 2) : Int) - 128)) := by
 have h1 := bt_lt l (i + 1)
 have key : ∀ N, iter (F_lecternref01_Read_l0 l (i : Int) 3) (N + 3) (r, ((1 : Nat) : Int)) = some (if bt l (i + 1) < 128 ∨ 191 < bt l (i + 1) then .inr (0, 0) else if bt l (i + 2) < 128 ∨ 191 < bt l (i + 2) then .inr (0, 0) else .inl (64 * (64 * r + (bt l (i + 1) : Int) - 128) + (bt l (i + 2) : Int) - 128)) := fun N => by
  show F_lecternref01_Read_l0 l (i : Int) 3 (iter _ (N + 2)) (r, ((1 : Nat) : Int)) = _
  rw [loop_step l i 1 3 _ r (by omega) (by omega) hl hr0 (by omega)]
  split
  ·rfl
  ·rename_i c
   show F_lecternref01_Read_l0 l (i : Int) 3 (iter _ (N + 1)) (_, ((2 : Nat) : Int)) = _
   rw [loop_step l i 2 3 _ _ (by omega) (by omega) hl (by omega) (by omega)]
   split
   ·rfl
   ·show F_lecternref01_Read_l0 l (i : Int) 3 (iter _ N) (_, 3) = _
    rw [loop_end]
 rw [show FUEL = 18446744073709551613 + 3 from rfl]; exact key _
theorem loop4 (l : LB) (i : Nat) (r : Int) (hik : i + 4 ≤ l.length) (hl : l.length ≤ 1073741824) (hr0 : 0 ≤ r) (hr1 : r ≤ 1000) :
  iter (F_lecternref01_Read_l0 l (i : Int) 4) FUEL (r, 1) = some (if bt l (i + 1) < 128 ∨ 191 < bt l (i + 1) then .inr (0, 0) else if bt l (i + 2) < 128 ∨ 191 < bt l (i + 2) then .inr (0, 0) else if bt l (i + 3) < 128 ∨ 191 < bt l (i + 3) then .inr (0, 0) else .inl (64 * (64 * (64 * r + (bt l (i + 1) : Int) - 128) + (bt l (i + 2) : Int) - 128) + (bt l (i + 3) : Int) - 128)) := by
 have h1 := bt_lt l (i + 1)
 have h2 := bt_lt l (i + 2)
 have key : ∀ N, iter (F_lecternref01_Read_l0 l (i : Int) 4) (N + 4) (r, ((1 : Nat) : Int)) = some (if bt l (i + 1) < 128 ∨ 191 < bt l (i + 1) then .inr (0, 0) else if bt l (i + 2) < 128 ∨ 191 < bt l (i + 2) then .inr (0, 0) else if bt l (i + 3) < 128 ∨ 191 < bt l (i + 3) then .inr (0, 0) else .inl (64 * (64 * (64 * r + (bt l (i + 1) : Int) - 128) + (bt l (i + 2) : Int) - 128) + (bt l (i + 3) : Int) - 128)) := fun N => by
  show F_lecternref01_Read_l0 l (i : Int) 4 (iter _ (N + 3)) (r, ((1 : Nat) : Int)) = _
  rw [loop_step l i 1 4 _ r (by omega) (by omega) hl hr0 (by omega)]
  split
  ·rfl
  ·rename_i c
   show F_lecternref01_Read_l0 l (i : Int) 4 (iter _ (N + 2)) (_, ((2 : Nat) : Int)) = _
   rw [loop_step l i 2 4 _ _ (by omega) (by omega) hl (by omega) (by omega)]
   split
   ·rfl
   ·rename_i c2
    show F_lecternref01_Read_l0 l (i : Int) 4 (iter _ (N + 1)) (_, ((3 : Nat) : Int)) = _
    rw [loop_step l i 3 4 _ _ (by omega) (by omega) hl (by omega) (by omega)]
    split
    ·rfl
    ·show F_lecternref01_Read_l0 l (i : Int) 4 (iter _ N) (_, 4) = _
     rw [loop_end]
 rw [show FUEL = 18446744073709551612 + 4 from rfl]; exact key _
theorem bad3 {r least : Int} : (((decide (r < least)) || (decide ((1114111 : Int) < r))) || ((decide ((55296 : Int) ≤ r)) && (decide (r ≤ (57343 : Int))))) = decide ((r < least ∨ 1114111 < r) ∨ (55296 ≤ r ∧ r ≤ 57343)) := by
 simp only [Bool.decide_or, Bool.decide_and]
theorem F_readN (l : LB) (i : Nat) (hi : i < l.length) (hl : l.length ≤ 1073741824) : F_lecternref01_Read l (i : Int) = some (readN (l.length - i) (bt l i) (bt l (i + 1)) (bt l (i + 2)) (bt l (i + 3))) := by
 have h0 := bt_lt l i
 unfold F_lecternref01_Read
 rw [idx_bt hi, bS]
 have e : (((l.getD i 0).toNat : Nat) : Int) = (bt l i : Int) := rfl
 simp only [e, letJ, bad3]
 rw [w64 (x := (bt l i : Int)) (by omega) (by omega)]
 unfold readN
 by_cases c0 : bt l i < 128
 ·rw [if_pos c0, dT (by omega), cT]
 rw [if_neg c0, dF (show ¬ ((bt l i : Int) < 128) by omega), cF]
 by_cases c2 : 192 ≤ bt l i ∧ bt l i < 224
 ·rw [if_pos c2, dT (show (192 : Int) ≤ (bt l i : Int) by omega), dT (show (bt l i : Int) < 224 by omega), Bool.and_self, cT, w64 (x := (i : Int) + 2) (by omega) (by omega)]
  by_cases g : l.length - i < 2
  ·rw [if_pos g, dT (show (l.length : Int) < (i : Int) + 2 by omega), cT]
  ·rw [if_neg g, dF (show ¬ ((l.length : Int) < (i : Int) + 2) by omega), cF, w64 (x := (bt l i : Int) - 192) (by omega) (by omega), loop2 l i _ (by omega) hl (by omega) (by omega), bS]
   by_cases f1 : bt l (i + 1) < 128 ∨ 191 < bt l (i + 1)
   ·rw [if_pos f1, if_pos f1]
   ·rw [if_neg f1, if_neg f1]
    simp only
    split
    ·rename_i hh; rw [dT hh, cT]
    ·rename_i hh; rw [dF hh, cF]
 rw [if_neg c2, show (decide ((192 : Int) ≤ (bt l i : Int)) && decide ((bt l i : Int) < 224)) = false by simp only [Bool.and_eq_false_iff, decide_eq_false_iff_not]; omega, cF]
 by_cases c3 : 224 ≤ bt l i ∧ bt l i < 240
 ·rw [if_pos c3, dT (show (224 : Int) ≤ (bt l i : Int) by omega), dT (show (bt l i : Int) < 240 by omega), Bool.and_self, cT, w64 (x := (i : Int) + 3) (by omega) (by omega)]
  by_cases g : l.length - i < 3
  ·rw [if_pos g, dT (show (l.length : Int) < (i : Int) + 3 by omega), cT]
  ·rw [if_neg g, dF (show ¬ ((l.length : Int) < (i : Int) + 3) by omega), cF, w64 (x := (bt l i : Int) - 224) (by omega) (by omega), loop3 l i _ (by omega) hl (by omega) (by omega), bS]
   by_cases f1 : bt l (i + 1) < 128 ∨ 191 < bt l (i + 1)
   ·rw [if_pos f1, if_pos f1]
   ·rw [if_neg f1, if_neg f1]
    by_cases f2 : bt l (i + 2) < 128 ∨ 191 < bt l (i + 2)
    ·rw [if_pos f2, if_pos f2]
    ·rw [if_neg f2, if_neg f2]
     simp only
     split
     ·rename_i hh; rw [dT hh, cT]
     ·rename_i hh; rw [dF hh, cF]
 rw [if_neg c3, show (decide ((224 : Int) ≤ (bt l i : Int)) && decide ((bt l i : Int) < 240)) = false by simp only [Bool.and_eq_false_iff, decide_eq_false_iff_not]; omega, cF]
 by_cases c4 : 240 ≤ bt l i ∧ bt l i < 248
 ·rw [if_pos c4, dT (show (240 : Int) ≤ (bt l i : Int) by omega), dT (show (bt l i : Int) < 248 by omega), Bool.and_self, cT, w64 (x := (i : Int) + 4) (by omega) (by omega)]
  by_cases g : l.length - i < 4
  ·rw [if_pos g, dT (show (l.length : Int) < (i : Int) + 4 by omega), cT]
  ·rw [if_neg g, dF (show ¬ ((l.length : Int) < (i : Int) + 4) by omega), cF, w64 (x := (bt l i : Int) - 240) (by omega) (by omega), loop4 l i _ (by omega) hl (by omega) (by omega), bS]
   by_cases f1 : bt l (i + 1) < 128 ∨ 191 < bt l (i + 1)
   ·rw [if_pos f1, if_pos f1]
   ·rw [if_neg f1, if_neg f1]
    by_cases f2 : bt l (i + 2) < 128 ∨ 191 < bt l (i + 2)
    ·rw [if_pos f2, if_pos f2]
    ·rw [if_neg f2, if_neg f2]
     by_cases f3 : bt l (i + 3) < 128 ∨ 191 < bt l (i + 3)
     ·rw [if_pos f3, if_pos f3]
     ·rw [if_neg f3, if_neg f3]
      simp only
      split
      ·rename_i hh; rw [dT hh, cT]
      ·rename_i hh; rw [dF hh, cF]
 rw [if_neg c4, show (decide ((240 : Int) ≤ (bt l i : Int)) && decide ((bt l i : Int) < 248)) = false by simp only [Bool.and_eq_false_iff, decide_eq_false_iff_not]; omega, cF]
theorem F_read1 (l : LB) (i : Nat) (hi : i < l.length) (hl : l.length ≤ 1073741824) : F_lecternref01_Read l (i : Int) = some (if badR (decodeL (l.drop i)) then (0, 0) else (((decodeL (l.drop i)).1 : Int), ((decodeL (l.drop i)).2 : Int))) := by
 rw [F_readN l i hi hl, readN_eq _ _ _ _ _ (by omega) (bt_lt _ _) (bt_lt _ _) (bt_lt _ _) (bt_lt _ _)]
 have e := Lib.decodeL_N (l.drop i)
 simp only [getD_drop, List.length_drop] at e
 rw [e]; rfl
theorem slc_drop {α : Type} {l : List α} {n : Nat} (h : n ≤ l.length) : slc l (n : Int) (l.length : Int) = some (l.drop n) := by
 unfold slc; rw [if_pos (by omega)]; simp only [Int.toNat_natCast]; rw [List.take_of_length_le (by simp)]
theorem slc_take0 {α : Type} {l : List α} {n : Nat} (h : n ≤ l.length) : slc l (0 : Int) (n : Int) = some (l.take n) := by
 unfold slc; rw [if_pos (by omega)]; simp
def hereP (b : LB) (i : Nat) (w : LB) : Bool := w.isPrefixOf (b.drop i)
theorem isPre_take (w l : LB) : w.isPrefixOf l = (decide (w.length ≤ l.length) && (l.take w.length == w)) := by
 rw [Bool.eq_iff_iff, List.isPrefixOf_iff_prefix, Bool.and_eq_true, decide_eq_true_eq, beq_iff_eq, List.prefix_iff_eq_take]
 constructor
 ·intro h
  refine ⟨?_, h.symm⟩
  have := congrArg List.length h
  rw [List.length_take] at this; omega
 ·rintro ⟨_, h⟩; exact h.symm
theorem hasPrefix_eq (l w : LB) : F_bytes_HasPrefix l w = some (w.isPrefixOf l) := by
 unfold F_bytes_HasPrefix F_bytes_Equal
 simp only [letJ]
 rw [isPre_take]
 by_cases h : w.length ≤ l.length
 ·rw [dT (show (w.length : Int) ≤ (l.length : Int) by omega), cT, slc_take0 h, bS, bS, dT h, Bool.true_and]
 ·rw [dF (show ¬ (w.length : Int) ≤ (l.length : Int) by omega), cF, dF h, Bool.false_and]
theorem here_eq (b : LB) (i : Nat) (w : LB) (hi : i ≤ b.length) : F_scan_scanner_here ⟨b, (i : Int)⟩ w = some (hereP b i w) := by
 unfold F_scan_scanner_here
 dsimp only
 rw [slc_drop hi, bS, hasPrefix_eq, bS]; rfl
theorem hereP_len {b : LB} {i : Nat} {w : LB} (h : hereP b i w = true) (hi : i ≤ b.length) : i + w.length ≤ b.length := by
 unfold hereP at h
 rw [isPre_take, Bool.and_eq_true, decide_eq_true_eq, List.length_drop] at h
 omega
theorem hereP_one {b : LB} {i : Nat} {c : UInt8} : hereP b i [c] = (b[i]? == some c) := by
 unfold hereP
 by_cases hi : i < b.length
 ·rw [List.drop_eq_getElem_cons hi, List.getElem?_eq_getElem hi]
  simp only [List.isPrefixOf, Bool.and_true]
  rw [Bool.eq_iff_iff, beq_iff_eq, beq_iff_eq, Option.some.injEq]
  exact ⟨fun h => h.symm, fun h => h.symm⟩
 ·rw [List.drop_eq_nil_of_le (by omega), List.getElem?_eq_none (by omega)]; rfl
def wsP (c : UInt8) : Bool := decide ((0 : Int) ≤ Lib.indexByte [32, 9, 10, 13] c)
theorem spaces_eq (b : LB) (a : Int) (i : Nat) (hi : i ≤ b.length) (hb : b.length ≤ 1073741824) : F_scan_scanner_spaces ⟨b, a⟩ (i : Int) = some ((sk wsP b i : Nat) : Int) := by
 unfold F_scan_scanner_spaces
 simp only [letJ]
 have := scan_loop (b := F_scan_scanner_spaces_l0 ⟨b, a⟩) wsP b (fun rec i h => by
  unfold F_scan_scanner_spaces_l0
  simp only [letJ]
  rw [dT (by omega), cT, idx_some h, bS]
  unfold L_IndexByte
  rw [nat_u8, bS, w64 (by omega) (by omega)]
  rfl) (fun rec => by
  unfold F_scan_scanner_spaces_l0
  simp only [letJ]
  rw [dF (by omega), cF, cF]) FUEL (b.length - i) i (by omega) (by unfold FUEL; omega)
 rw [this, bS]
theorem sign_eq (b : LB) (i : Nat) (w : LB) (hi : i ≤ b.length) (hb : b.length ≤ 1073741824) : F_scan_scanner_sign ⟨b, (i : Int)⟩ w = some (if hereP b i w = true then (0, ⟨b, ((i + w.length : Nat) : Int)⟩) else (23, ⟨b, (i : Int)⟩)) := by
 unfold F_scan_scanner_sign
 rw [here_eq b i w hi, bS]
 cases h : hereP b i w with
 | false => rfl
 | true =>
  have := hereP_len h hi
  dsimp only
  rw [Bool.not_true, cF, if_pos rfl, w64 (by omega) (by omega)]; rfl
theorem ixB_lt (l : LB) (c : UInt8) (h : 0 ≤ Lib.indexByte l c) : Lib.indexByte l c < l.length := by
 induction l with
 | nil => simp [Lib.indexByte] at h
 | cons b l ih =>
  simp only [Lib.indexByte] at h ⊢
  split
  ·rw [List.length_cons]; omega
  ·rename_i hb
   rw [if_neg hb] at h
   split at h
   ·omega
   ·rename_i h1
    rw [if_neg h1]
    have h2 := Lib.indexByte_ge l c
    have h3 : Lib.indexByte l c ≠ -1 := by simpa using h1
    have := ih (by omega)
    rw [List.length_cons]; omega
theorem ixB_nat (l : LB) (c : UInt8) (h : ¬ Lib.indexByte l c < 0) : ∃ n : Nat, Lib.indexByte l c = (n : Int) ∧ n < l.length := by
 have := ixB_lt l c (by omega)
 exact ⟨(Lib.indexByte l c).toNat, by omega, by omega⟩
theorem decodeRune_eq (b : LB) (i : Nat) (hi : i < b.length) : L_DecodeRune (b.drop i) = some (((decodeL (b.drop i)).1 : Int), ((decodeL (b.drop i)).2 : Int)) := by
 have hne : b.drop i ≠ [] := by intro h; have := congrArg List.length h; simp at this; omega
 unfold L_DecodeRune Lib.decodeGo
 rw [if_neg hne, if_neg (by
  show ¬ ((b.drop i).toArray.size = 0)
  simp; omega)]
 rfl
theorem split_some (q : LB) (hq : q.length ≤ 1073741824) : ∃ r, F_char_Split q = some r := by
 unfold F_char_Split L_Cut
 rw [if_pos (by omega), bS]
 simp only [letJ, F_nameC, bS]
 cases (Lib.cut q [58]).2.2 <;> cases nameP q <;> cases nameP (Lib.cut q [58]).1 <;> cases nameP (Lib.cut q [58]).2.1 <;> exact ⟨_, rfl⟩
theorem name_sp (b : LB) (i : Nat) (hi : i ≤ b.length) (hb : b.length ≤ 1073741824) : ∃ (v : LB) (e : Int) (j : Nat), F_scan_scanner_name ⟨b, (i : Int)⟩ = some ((v, e), ⟨b, (j : Int)⟩) ∧ i ≤ j ∧ j ≤ b.length ∧ v.length ≤ b.length ∧ (e = 0 → v ≠ [] ∧ i < j) := by
 have key : ∃ o : Int, iter (F_scan_scanner_name_l0 ⟨b, (i : Int)⟩) FUEL (i : Int) = some o ∧ ∃ j : Nat, o = (j : Int) ∧ i ≤ j ∧ j ≤ b.length := by
  refine iter_spec (b := F_scan_scanner_name_l0 ⟨b, (i : Int)⟩) (fun k x => ∃ j : Nat, x = (j : Int) ∧ i + k ≤ j ∧ j ≤ b.length) _ (b.length - i) (x0 := (i : Int)) ⟨i, rfl, by omega, hi⟩ ?_ ?_ (n := FUEL) (by unfold FUEL; omega)
  ·rintro k x rec hk ⟨j, rfl, h1, h2⟩
   unfold F_scan_scanner_name_l0
   dsimp only
   by_cases hj : j < b.length
   ·obtain ⟨d1, d2, _⟩ := dec_bytes b j hj
    rw [dT (by omega), cT, slc_drop h2, bS, decodeRune_eq b j hj, bS]
    simp only [letJ, F_isPart, F_isStart, bS]
    have hgo : IntKind.wrap .i64 ((j : Int) + ((decodeL (b.drop j)).2 : Int)) = ((j + (decodeL (b.drop j)).2 : Nat) : Int) := by rw [w64 (by omega) (by omega)]; omega
    rw [hgo]
    have two : ∀ c : Bool, (∃ y, cond c (some (j : Int)) (rec ((j + (decodeL (b.drop j)).2 : Nat) : Int)) = rec y ∧ ∃ j' : Nat, y = (j' : Int) ∧ i + (k + 1) ≤ j' ∧ j' ≤ b.length) ∨ (∃ o, cond c (some (j : Int)) (rec ((j + (decodeL (b.drop j)).2 : Nat) : Int)) = some o ∧ ∃ j' : Nat, o = (j' : Int) ∧ i ≤ j' ∧ j' ≤ b.length) := by
     intro c
     cases c with
     | false => exact .inl ⟨_, rfl, _, rfl, by omega, d2⟩
     | true => exact .inr ⟨_, rfl, j, rfl, by omega, h2⟩
    cases ((decodeL (b.drop j)).1 : Int) != 58 with
    | false => exact two false
    | true =>
     cases partP ((decodeL (b.drop j)).1 : Int) with
     | false => exact two true
     | true =>
      cases ((j : Int) == (i : Int)) with
      | false => exact two false
      | true => exact two (!startP ((decodeL (b.drop j)).1 : Int))
   ·rw [dF (by omega), cF]
    exact .inr ⟨_, rfl, j, rfl, by omega, h2⟩
  ·rintro x rec ⟨j, rfl, h1, h2⟩
   have : j = b.length := by omega
   subst this
   unfold F_scan_scanner_name_l0
   dsimp only
   rw [dF (by omega), cF]
   exact ⟨_, rfl, _, rfl, hi, Nat.le_refl _⟩
 obtain ⟨o, e1, j, rfl, h1, h2⟩ := key
 unfold F_scan_scanner_name
 simp only [letJ]
 rw [e1, bS]
 have hsl : slc b (i : Int) (j : Int) = some ((b.drop i).take (j - i)) := by
  unfold slc; rw [if_pos (by omega)]; simp only [Int.toNat_natCast]
 rw [hsl, bS]
 have hlen : ((b.drop i).take (j - i)).length = j - i := by rw [List.length_take, List.length_drop]; omega
 generalize (b.drop i).take (j - i) = w at hlen
 by_cases hw : w = []
 ·rw [show (w == []) = true by simp [hw], cT]
  exact ⟨[], 23, i, rfl, Nat.le_refl _, hi, Nat.zero_le _, fun h => by omega⟩
 ·obtain ⟨r, hr⟩ := split_some w (by omega)
  rw [show (w == []) = false by simp [hw], cF, hr, bS]
  cases r.2.2 with
  | false => exact ⟨[], 24, i, rfl, Nat.le_refl _, hi, Nat.zero_le _, fun h => by omega⟩
  | true =>
   have : 0 < w.length := List.length_pos_iff.2 hw
   exact ⟨w, 0, j, rfl, h1, h2, by omega, fun _ => ⟨hw, by omega⟩⟩
theorem iter_dec {σ ρ : Type} {b : (σ → Option ρ) → σ → Option ρ} (μ : σ → Nat) (I : σ → Prop) (R : ρ → Prop)
  (step : ∀ x, I x → (∃ y, (∀ rec, b rec x = rec y) ∧ I y ∧ μ y < μ x) ∨ (∃ o, (∀ rec, b rec x = some o) ∧ R o)) :
  ∀ (n : Nat) (x : σ), I x → μ x < n → ∃ o, iter b n x = some o ∧ R o
 | 0, x, _, h => by omega
 | n + 1, x, hI, h1 => by
  rcases step x hI with ⟨y, e1, hI', hm⟩ | ⟨o, e1, hR⟩
  ·obtain ⟨o, g1, hR⟩ := iter_dec μ I R step n y hI' (by omega)
   exact ⟨o, by show b (iter b n) x = _; rw [e1, g1], hR⟩
  ·exact ⟨o, e1 _, hR⟩
def xmlS (l : LB) : Prop := l = [120, 109, 108] ∨ l = [109, 108] ∨ l = [108] ∨ l = []
theorem index_occ : ∀ {s sub : LB} {n : Nat}, Lib.index s sub = (n : Int) → sub ≠ [] → sub.isPrefixOf (s.drop n) = true ∧ n + sub.length ≤ s.length
 | [], sub, n, h, hne => by
  simp only [Lib.index] at h
  split at h
  ·rename_i he
   exact absurd (by simpa using he) hne
  ·omega
 | b :: l, sub, n, h, hne => by
  simp only [Lib.index] at h
  split at h
  ·rename_i hp
   have : n = 0 := by omega
   subst this
   have h2 := hp
   rw [isPre_take, Bool.and_eq_true, decide_eq_true_eq] at h2
   exact ⟨hp, by omega⟩
  ·split at h
   ·omega
   ·cases n with
    | zero =>
     have := Lib.index_ge l sub
     rename_i h1
     have h3 : Lib.index l sub ≠ -1 := by simpa using h1
     omega
    | succ n =>
     have := index_occ (s := l) (sub := sub) (n := n) (by omega) hne
     exact ⟨this.1, by rw [List.length_cons]; omega⟩
theorem enc_len (r : Int) : (Utf8.encode r).data.toList.length ≤ 4 := by
 have h : (Utf8.encode r).data.size ≤ 4 := encode_size_le r
 rw [Array.length_toList]; exact h
abbrev Tk := TK
def nmP (l : List TP) : List LB := l.map (·.Name)
def namedP (t : Tk) : Bool := ((((t.Kind == (2 : Int)) || (t.Kind == (3 : Int))) || (t.Kind == (4 : Int))) || (t.Kind == (8 : Int)))
structure TokOk (b : LB) (i : Nat) (t : Tk) (j : Nat) : Prop where
 lt : i < j
 at_ : t.At = (i : Int)
 nm : namedP t = !(t.Name == [])
 nd : (nmP t.Pairs).Nodup
 txt : t.Kind = 5 → b[i]? ≠ some 60 ∧ (j = b.length ∨ b[j]? = some 60)
 oth : t.Kind ≠ 5 → b[i]? = some 60
 dec : t.Kind = 1 → i = 0
 len : t.Pairs.length ≤ b.length + 3
def TokR (b : LB) (i : Nat) (x : Int × TS × Tk) : Prop := ∃ (e : Int) (j : Nat) (t : Tk), x = (e, ⟨b, (j : Int)⟩, t) ∧ j ≤ b.length ∧ (e = 0 → TokOk b i t j)

abbrev DeclW : List LB := [([118, 101, 114, 115, 105, 111, 110] : LB), ([101, 110, 99, 111, 100, 105, 110, 103] : LB), ([115, 116, 97, 110, 100, 97, 108, 111, 110, 101] : LB)]
theorem u8_nat (c : UInt8) : u8 (c.toNat : Int) = some c := by
 unfold u8
 have := c.toNat_lt
 rw [if_pos (by omega), Int.toNat_natCast]
 simp
def lnP (p : LB) (i : Nat) : LB := if p.getD i 0 = 13 then [10] else if p.getD i 0 = 10 ∧ 0 < i ∧ p.getD (i - 1) 0 = 13 then [] else [p.getD i 0]
theorem u8_beq (c : UInt8) (n : Nat) (hn : n < 256) : ((c.toNat : Int) == (n : Int)) = decide (c = UInt8.ofNat n) := by
 rw [Bool.eq_iff_iff, beq_iff_eq, decide_eq_true_eq]
 have h2 : (UInt8.ofNat n).toNat = n := by show n % 256 = n; omega
 constructor
 ·intro h; apply UInt8.toNat_inj.1; rw [h2]; omega
 ·rintro rfl; rw [h2]
theorem lines_step1 (p : LB) (i : Nat) (l : LB) (hi : i < p.length) (hl : l.length ≤ i) (hp : p.length ≤ 1073741824) (rec) : F_char_Lines_l0 p rec (l, (i : Int)) = rec (l ++ lnP p i, ((i + 1 : Nat) : Int)) := by
 have hk1 : IntKind.wrap .i64 ((i : Int) + 1) = ((i + 1 : Nat) : Int) := by rw [w64 (by omega) (by omega)]; omega
 have hg : p.getD i 0 = p[i] := by simp [List.getD, hi]
 unfold F_char_Lines_l0
 dsimp only
 rw [dT (by omega), cT]
 simp only [letJ]
 rw [idx_some hi, bS, hk1, show (10 : Int) = ((10 : Nat) : Int) from rfl, show (13 : Int) = ((13 : Nat) : Int) from rfl, u8_beq _ 10 (by omega), u8_beq _ 13 (by omega)]
 have app1 : ∀ c : UInt8, app 1 l [c] = some (l ++ [c]) := fun c => app_some (by simp; omega) (by simp; omega)
 unfold lnP
 rw [hg]
 by_cases c10 : p[i] = 10
 ·by_cases h0 : 0 < i
  ·have hi1 : i - 1 < p.length := by omega
   have hg1 : p.getD (i - 1) 0 = p[i - 1] := by simp [List.getD, hi1]
   have hk2 : IntKind.wrap .i64 ((i : Int) - 1) = ((i - 1 : Nat) : Int) := by rw [w64 (by omega) (by omega)]; omega
   rw [dT (show p[i] = UInt8.ofNat 10 from c10), dT (show (0 : Int) < (i : Int) by omega), Bool.and_self, cT, hk2, idx_some hi1, bS, u8_beq _ 13 (by omega), hg1, c10]
   by_cases c13 : p[i - 1] = 13
   ·rw [dT (show p[i - 1] = UInt8.ofNat 13 from c13), cT, if_neg (by decide), if_pos ⟨rfl, h0, c13⟩, List.append_nil]
   ·rw [dF (show ¬ p[i - 1] = UInt8.ofNat 13 from c13), cF, dF (by decide), cF, if_neg (by decide), if_neg (fun h => c13 h.2.2), u8_nat, bS, app1, bS, bS]
  ·rw [dF (show ¬ (0 : Int) < (i : Int) by omega), Bool.and_false, cF, cF, c10, dF (by decide), cF, if_neg (by decide), if_neg (fun h => h0 h.2.1), u8_nat, bS, app1, bS, bS]
 ·rw [dF (show ¬ p[i] = UInt8.ofNat 10 from c10), Bool.false_and, cF, cF]
  by_cases c13 : p[i] = 13
  ·rw [dT (show p[i] = UInt8.ofNat 13 from c13), cT, if_pos c13, show u8 ((10 : Nat) : Int) = some 10 from rfl, bS, app1, bS, bS]
  ·rw [dF (show ¬ p[i] = UInt8.ofNat 13 from c13), cF, if_neg c13, if_neg (fun h => c10 h.1), u8_nat, bS, app1, bS, bS]
theorem lnP_len (p : LB) (i : Nat) : (lnP p i).length ≤ 1 := by
 unfold lnP; split
 ·simp
 ·split <;> simp
def Pos (b : LB) (L : List Tk) (j : Nat) : Prop := (∀ k t, L[k]? = some t → ∃ i j', TokOk b i t j' ∧ i < b.length ∧ (k = 0 → i = 0) ∧ (∀ t', 0 < k → L[k - 1]? = some t' → ∃ i', TokOk b i' t' i)) ∧ (L = [] → j = 0) ∧ (∀ t, 0 < L.length → L[L.length - 1]? = some t → ∃ i, TokOk b i t j)
structure Agr (U V : LB) (n : Nat) : Prop where
 tk : U.take n = V.take n
 u : n ≤ U.length
 v : n ≤ V.length
 dec : ∀ j, j < n → decodeL (U.drop j) = decodeL (V.drop j)
theorem Agr.symm {U V : LB} {n : Nat} (A : Agr U V n) : Agr V U n := ⟨A.tk.symm, A.v, A.u, fun j h => (A.dec j h).symm⟩
theorem Agr.get {U V : LB} {n : Nat} (A : Agr U V n) {j : Nat} (h : j < n) : U[j]? = V[j]? := by
 have := congrArg (fun l : LB => l[j]?) A.tk
 simpa [List.getElem?_take, h] using this
theorem Agr.seg {U V : LB} {n : Nat} (A : Agr U V n) {a k : Nat} (h : a + k ≤ n) : (U.drop a).take k = (V.drop a).take k := by
 apply List.ext_getElem?
 intro x
 rw [List.getElem?_take, List.getElem?_take]
 split
 ·rw [List.getElem?_drop, List.getElem?_drop, A.get (by omega)]
 ·rfl
theorem Agr.here {U V : LB} {n : Nat} (A : Agr U V n) {j : Nat} {w : LB} (h : j + w.length ≤ n) : hereP U j w = hereP V j w := by
 have h1 := A.u
 have h2 := A.v
 unfold hereP
 rw [isPre_take, isPre_take, A.seg h, dT (by rw [List.length_drop]; omega), dT (by rw [List.length_drop]; omega)]
theorem Agr.sk {U V : LB} {n : Nat} (A : Agr U V n) (P : UInt8 → Bool) : ∀ (d j : Nat), j + d = n → Proofs.YtilhbalhkljanaaGreatDoor.sk P U j < n → Proofs.YtilhbalhkljanaaGreatDoor.sk P V j = Proofs.YtilhbalhkljanaaGreatDoor.sk P U j
 | d, j, hd, h => by
  have h1 := A.u
  have h2 := A.v
  have hj : j < n := by
   have := (sk_le P U j (by omega)).1
   omega
  have hg : U[j]'(by omega) = V[j]'(by omega) := by
   have := A.get hj
   rw [List.getElem?_eq_getElem (by omega), List.getElem?_eq_getElem (by omega)] at this
   exact Option.some.inj this
  rw [sk_step (by omega : j < U.length)] at h ⊢
  rw [sk_step (by omega : j < V.length), hg]
  rw [hg] at h
  cases hp : P (V[j]'(by omega)) with
  | false => rfl
  | true =>
   rw [hp, if_pos rfl] at h
   rw [if_pos rfl, if_pos rfl]
   cases d with
   | zero => omega
   | succ d => exact Agr.sk A P d (j + 1) (by omega) h
def stopN (i k r : Int) : Bool := (r != 58) && (!partP r || ((k == i) && !startP r))
theorem name_step (b : LB) (i k : Nat) (hk : k < b.length) (hb : b.length ≤ 1073741824) (rec : Int → Option Int) : F_scan_scanner_name_l0 ⟨b, (i : Int)⟩ rec (k : Int) = cond (stopN i k ((decodeL (b.drop k)).1 : Int)) (some (k : Int)) (rec ((k + (decodeL (b.drop k)).2 : Nat) : Int)) := by
 obtain ⟨d1, d2, _⟩ := dec_bytes b k hk
 unfold F_scan_scanner_name_l0
 dsimp only
 rw [dT (by omega), cT, slc_drop (Nat.le_of_lt hk), bS, decodeRune_eq b k hk, bS]
 simp only [letJ, F_isPart, F_isStart, bS]
 have hgo : IntKind.wrap .i64 ((k : Int) + ((decodeL (b.drop k)).2 : Int)) = ((k + (decodeL (b.drop k)).2 : Nat) : Int) := by rw [w64 (by omega) (by omega)]; omega
 rw [hgo]
 unfold stopN
 cases ((decodeL (b.drop k)).1 : Int) != 58 with
 | false => rfl
 | true =>
  cases partP ((decodeL (b.drop k)).1 : Int) with
  | false => rfl
  | true =>
   cases ((k : Int) == (i : Int)) with
   | false => rfl
   | true => cases startP ((decodeL (b.drop k)).1 : Int) <;> rfl
theorem name_end (b : LB) (i : Nat) (rec : Int → Option Int) : F_scan_scanner_name_l0 ⟨b, (i : Int)⟩ rec (b.length : Int) = some (b.length : Int) := by
 unfold F_scan_scanner_name_l0
 dsimp only
 rw [dF (by omega), cF]
theorem name_iter (b : LB) (i : Nat) (hi : i ≤ b.length) (hb : b.length ≤ 1073741824) : ∃ j : Nat, iter (F_scan_scanner_name_l0 ⟨b, (i : Int)⟩) FUEL (i : Int) = some (j : Int) ∧ i ≤ j ∧ j ≤ b.length := by
 obtain ⟨o, h, j, rfl, h1, h2⟩ := iter_dec (b := F_scan_scanner_name_l0 ⟨b, (i : Int)⟩) (fun x => b.length - x.toNat) (fun x => ∃ k : Nat, x = (k : Int) ∧ i ≤ k ∧ k ≤ b.length) (fun o => ∃ j : Nat, o = (j : Int) ∧ i ≤ j ∧ j ≤ b.length) (by
  rintro _ ⟨k, rfl, g1, g2⟩
  by_cases hk : k < b.length
  ·obtain ⟨d1, d2, _⟩ := dec_bytes b k hk
   cases hs : stopN i k ((decodeL (b.drop k)).1 : Int) with
   | true => exact .inr ⟨(k : Int), fun rec => by rw [name_step b i k hk hb, hs, cT], k, rfl, g1, g2⟩
   | false => exact .inl ⟨_, fun rec => by rw [name_step b i k hk hb, hs, cF], ⟨_, rfl, by omega, d2⟩, by rw [Int.toNat_natCast, Int.toNat_natCast]; omega⟩
  ·have : k = b.length := by omega
   subst this
   exact .inr ⟨_, fun rec => name_end b i rec, _, rfl, g1, g2⟩) FUEL (i : Int) ⟨i, rfl, Nat.le_refl _, hi⟩ (by unfold FUEL; omega)
 exact ⟨j, h, h1, h2⟩
theorem name_eq (b : LB) (i j : Nat) (h : iter (F_scan_scanner_name_l0 ⟨b, (i : Int)⟩) FUEL (i : Int) = some (j : Int)) (h1 : i ≤ j) (h2 : j ≤ b.length) :
  F_scan_scanner_name ⟨b, (i : Int)⟩ = cond ((b.drop i).take (j - i) == ([] : LB)) (some (([], 23), ⟨b, (i : Int)⟩)) ((F_char_Split ((b.drop i).take (j - i))).bind fun x => cond (!x.2.2) (some (([], 24), ⟨b, (i : Int)⟩)) (some (((b.drop i).take (j - i), 0), ⟨b, (j : Int)⟩))) := by
 unfold F_scan_scanner_name
 simp only [letJ]
 rw [h, bS]
 have hsl : slc b (i : Int) (j : Int) = some ((b.drop i).take (j - i)) := by
  unfold slc; rw [if_pos (by omega)]; simp only [Int.toNat_natCast]
 rw [hsl, bS]
theorem name_ok {b : LB} {i : Nat} (hi : i ≤ b.length) (hb : b.length ≤ 1073741824) {v : LB} {s : TS} (h : F_scan_scanner_name ⟨b, (i : Int)⟩ = some ((v, 0), s)) :
  ∃ j : Nat, s = ⟨b, (j : Int)⟩ ∧ i < j ∧ j ≤ b.length ∧ v = (b.drop i).take (j - i) ∧ iter (F_scan_scanner_name_l0 ⟨b, (i : Int)⟩) FUEL (i : Int) = some (j : Int) := by
 obtain ⟨j, h1, h2, h3⟩ := name_iter b i hi hb
 rw [name_eq b i j h1 h2 h3] at h
 cases hw : ((b.drop i).take (j - i) == ([] : LB)) with
 | true => rw [hw, cT] at h; cases h
 | false =>
  rw [hw, cF] at h
  cases hs : F_char_Split ((b.drop i).take (j - i)) with
  | none => rw [hs] at h; cases h
  | some x =>
   rw [hs, bS] at h
   cases hx : x.2.2 with
   | false => rw [hx, Bool.not_false, cT] at h; cases h
   | true =>
    rw [hx, Bool.not_true, cF] at h
    cases h
    refine ⟨j, rfl, ?_, h3, rfl, h1⟩
    by_cases hij : i = j
    ·subst hij
     rw [Nat.sub_self, List.take_zero] at hw
     cases hw
    ·omega
theorem name_head {b : LB} {i : Nat} (hi : i ≤ b.length) (hb : b.length ≤ 1073741824) {v : LB} {s : TS} (h : F_scan_scanner_name ⟨b, (i : Int)⟩ = some ((v, 0), s)) {c : UInt8} (hc : b[i]? = some c) (h128 : c.toNat < 128) : stopN i i (c.toNat : Int) = false := by
 obtain ⟨j, e1, e2, e3, e4, e5⟩ := name_ok hi hb h
 have hlt : i < b.length := by omega
 have hg : b.getD i 0 = c := by simp [List.getD, hc]
 obtain ⟨d1, d2, d3, _⟩ := dec_bytes b i hlt
 rw [hg] at d3
 have d4 := d3 h128
 obtain ⟨m, hm⟩ : ∃ m, FUEL = m + 1 := ⟨FUEL - 1, by unfold FUEL; omega⟩
 rw [hm, iter_succ, name_step b i i hlt hb, d4] at e5
 cases hs : stopN i i (c.toNat : Int) with
 | false => rfl
 | true =>
  rw [hs, cT] at e5
  have := Option.some.inj e5
  omega
theorem ixB_of {l : LB} {c : UInt8} {m : Nat} (h1 : l[m]? = some c) (h2 : ∀ k, k < m → l[k]? ≠ some c) : Lib.indexByte l c = (m : Int) := by
 by_cases hn : Lib.indexByte l c < 0
 ·have hge := Lib.indexByte_ge l c
  exact absurd h1 (Lib.indexByte_none (by omega) m)
 ·obtain ⟨o, e1, e2⟩ := ixB_nat l c hn
  obtain ⟨g1, g2⟩ := Lib.indexByte_some e1
  rw [e1]
  rcases Nat.lt_trichotomy o m with h | h | h
  ·exact absurd g1 (h2 o h)
  ·rw [h]
  ·exact absurd h1 (g2 m h)
theorem Agr.index {U V : LB} {n : Nat} (A : Agr U V n) {a m : Nat} {w : LB} (h : Lib.index (U.drop a) w = (m : Int)) (hm : a + m + w.length ≤ n) : Lib.index (V.drop a) w = (m : Int) := by
 have h1 := A.v
 have oc : ∀ k, k ≤ m → Lib.occAt (V.drop a) w k = Lib.occAt (U.drop a) w k := by
  intro k hk
  unfold Lib.occAt
  rw [List.drop_drop, List.drop_drop]
  exact (A.here (j := a + k) (w := w) (by omega)).symm
 rcases Lib.index_spec (U.drop a) w with ⟨g, _⟩ | ⟨i, g1, g2, g3, g4⟩
 ·omega
 ·have : i = m := by omega
  subst this
  refine Lib.index_first (by rw [List.length_drop]; omega) (by rw [oc i (Nat.le_refl _)]; exact g3) fun k hk => ?_
  rw [oc k (by omega)]
  exact g4 k hk
def quo (b : LB) (i : Nat) : (LB × Int) × TS :=
 if (hereP b i [39] = true ∨ hereP b i [34] = true) ∧ 0 ≤ Lib.indexByte (b.drop (i + 1)) (b.getD i 0) then (((b.drop (i + 1)).take (Lib.indexByte (b.drop (i + 1)) (b.getD i 0)).toNat, 0), ⟨b, ((i + ((Lib.indexByte (b.drop (i + 1)) (b.getD i 0)).toNat + 2) : Nat) : Int)⟩) else (([], 23), ⟨b, (i : Int)⟩)
theorem quoted_eq (b : LB) (i : Nat) (hi : i ≤ b.length) (hb : b.length ≤ 1073741824) : F_scan_scanner_quoted ⟨b, (i : Int)⟩ = some (quo b i) := by
 have main : i < b.length → (hereP b i [39] = true ∨ hereP b i [34] = true) → ((slc b (IntKind.wrap .i64 ((i : Int) + (1 : Int))) (b.length : Int)).bind fun x7 =>
   (idx b (i : Int)).bind fun x8 =>
   (L_bIndexByte x7 (x8.toNat : Int)).bind fun x9 =>
   cond (decide (x9 < (0 : Int)))
   (some ((([] : LB), (23 : Int)), (⟨b, (i : Int)⟩ : TS)))
   ((slc x7 (0 : Int) x9).bind fun x11 =>
   some ((x11, (0 : Int)), (⟨b, (IntKind.wrap .i64 ((i : Int) + (IntKind.wrap .i64 (x9 + (2 : Int)))))⟩ : TS)))) = some (quo b i) := by
  intro hlt hq
  have hg : b.getD i 0 = b[i] := by simp [List.getD, hlt]
  unfold quo
  rw [w64 (x := (i : Int) + 1) (by omega) (by omega), show (i : Int) + 1 = ((i + 1 : Nat) : Int) by omega, slc_drop hlt, bS, idx_some hlt, bS, hg]
  unfold L_bIndexByte
  rw [nat_u8, bS]
  by_cases hn : Lib.indexByte (b.drop (i + 1)) b[i] < 0
  ·rw [dT hn, cT, if_neg (fun h => by omega)]
  ·obtain ⟨n, e1, e2⟩ := ixB_nat _ _ hn
   rw [dF hn, cF, if_pos ⟨hq, by omega⟩, e1, slc_take0 (Nat.le_of_lt e2), bS, Int.toNat_natCast]
   rw [List.length_drop] at e2
   rw [w64 (x := (n : Int) + 2) (by omega) (by omega), w64 (by omega) (by omega)]
   rfl
 unfold F_scan_scanner_quoted
 dsimp only
 rw [here_eq b i _ hi, here_eq b i _ hi, bS]
 simp only [letJ]
 cases h1 : hereP b i [39] with
 | true =>
  have := hereP_len h1 hi
  rw [Bool.not_true, cF, cF]
  exact main (by simp at this; omega) (.inl h1)
 | false =>
  rw [Bool.not_false, cT, bS]
  cases h2 : hereP b i [34] with
  | true =>
   have := hereP_len h2 hi
   rw [Bool.not_true, cF]
   exact main (by simp at this; omega) (.inr h2)
  | false =>
   rw [Bool.not_false, cT]
   unfold quo
   rw [if_neg (fun h => by rw [h1, h2] at h; simp at h)]
theorem equals_eq (b : LB) (i : Nat) (hi : i ≤ b.length) (hb : b.length ≤ 1073741824) : F_scan_scanner_equals ⟨b, (i : Int)⟩ = some (if hereP b (sk wsP b i) [61] = true then (0, ⟨b, ((sk wsP b (sk wsP b i + 1) : Nat) : Int)⟩) else (23, ⟨b, ((sk wsP b (sk wsP b i) : Nat) : Int)⟩)) := by
 obtain ⟨s1, s2⟩ := sk_le wsP b i hi
 unfold F_scan_scanner_equals
 rw [spaces_eq b _ i hi hb, bS]
 dsimp only
 rw [sign_eq b _ _ s2 hb, bS]
 cases h : hereP b (sk wsP b i) [61] with
 | false =>
  rw [if_neg (by simp), if_neg (by simp)]
  dsimp only
  rw [spaces_eq b _ _ s2 hb, bS]
 | true =>
  have hl := hereP_len h s2
  rw [if_pos rfl, if_pos rfl]
  dsimp only
  rw [spaces_eq b _ _ hl hb, bS]
  rfl
theorem stop_at (i r : Int) : stopN i i r = ((r != 58) && (!partP r || !startP r)) := by unfold stopN; rw [beq_self_eq_true, Bool.true_and]
theorem tag_l1_no (k At : Int) (Nm : LB) (ps : List TP) (Tx : LB) (rf : Int) (x27 x31 : (LB × Int) × TS) (hl : ps.length ≤ 1073741824) (hn : ∀ p ∈ ps, p.Name ≠ x27.1.1) :
  iter (F_scan_scanner_tag_l1 k At Nm ps Tx rf x27 x31) FUEL (0 : Int) = some (.inl ()) := by
 obtain ⟨o, e, h2⟩ := iter_spec (b := F_scan_scanner_tag_l1 k At Nm ps Tx rf x27 x31) (fun i x => x = (i : Int)) (fun o => o = .inl ()) ps.length (x0 := (0 : Int)) rfl (by
  rintro i _ rec hi rfl
  left
  refine ⟨((i + 1 : Nat) : Int), ?_, rfl⟩
  unfold F_scan_scanner_tag_l1
  rw [dT (by omega), cT, idx_some hi, bS, show (ps[i].Name == x27.1.1) = false by simpa using hn _ (List.getElem_mem hi), cF, w64 (by omega) (by omega)]; rfl) (by
  rintro _ rec rfl
  refine ⟨_, ?_, rfl⟩
  unfold F_scan_scanner_tag_l1
  rw [dF (by omega), cF]) (n := FUEL) (by unfold FUEL; omega)
 rw [e, h2]
def HdP (k : Nat) (c : UInt8) : Prop := c = 63 ∨ (k ≤ 0 ∧ c = 118) ∨ (k ≤ 1 ∧ c = 101) ∨ (k ≤ 2 ∧ c = 115)
abbrev tok0 (i : Int) : Tk := ⟨(0 : Int), i, ([] : LB), ([] : List TP), ([] : LB), (0 : Int)⟩
abbrev tokK (k i : Int) : Tk := ⟨k, i, ([] : LB), ([] : List TP), ([] : LB), (0 : Int)⟩
def tokRest (b : LB) (i : Nat) : Option (Int × TS × Tk) :=
 cond (hereP b i [60, 33, 45, 45])
  ((F_scan_scanner_upTo ⟨b, (i : Int)⟩ (tokK 7 i) (4 : Int) ([45, 45] : LB)).bind fun x14 => cond (x14.1 != (0 : Int)) (some x14) ((F_scan_scanner_sign x14.2.1 ([62] : LB)).bind fun x17 => some (x17.1, x17.2, x14.2.2)))
 (cond (hereP b i [60, 33, 91, 67, 68, 65, 84, 65, 91]) (F_scan_scanner_upTo ⟨b, (i : Int)⟩ (tokK 6 i) (9 : Int) ([93, 93, 62] : LB))
 (cond (hereP b i [60, 33, 68, 79, 67, 84, 89, 80, 69]) (some (25, ⟨b, (i : Int)⟩, tok0 i))
 (cond (hereP b i [60, 33]) (some (23, ⟨b, (i : Int)⟩, tok0 i))
 (cond (hereP b i [60, 63]) (F_scan_scanner_instr ⟨b, (i : Int)⟩ (tok0 i))
 (cond (hereP b i [60, 47]) (F_scan_scanner_closing ⟨b, (i : Int)⟩ (tok0 i))
 (cond (hereP b i [60]) (F_scan_scanner_tag ⟨b, (i : Int)⟩ (tok0 i)) (F_scan_scanner_text ⟨b, (i : Int)⟩ (tok0 i))))))))
def declP (b : LB) (i : Nat) : Bool := decide (i = 0) && (hereP b 0 [60, 63, 120, 109, 108] && decide (5 < sk wsP b 5))
theorem bind_eta (o : Option (Int × TS × TK)) : (o.bind fun x => some (x.1, x.2.1, x.2.2)) = o := by cases o <;> rfl
theorem token_eq (b : LB) (i : Nat) (hi : i ≤ b.length) (hb : b.length ≤ 1073741824) : F_scan_scanner_token ⟨b, (i : Int)⟩ (tok0 i) = cond (declP b i) (F_scan_scanner_decl ⟨b, (0 : Int)⟩ (tok0 0)) (tokRest b i) := by
 have rest : ((F_scan_scanner_here (⟨b, (i : Int)⟩ : TS) ([60, 33, 45, 45] : LB)).bind fun x12 =>
    cond x12
    ((F_scan_scanner_upTo ⟨b, (i : Int)⟩ (⟨(7 : Int), (i : Int), ([] : LB), ([] : List TP), ([] : LB), (0 : Int)⟩ : TK) (4 : Int) ([45, 45] : LB)).bind fun x14 =>
    cond (x14.1 != (0 : Int))
     (some (x14.1, x14.2.1, x14.2.2))
     ((F_scan_scanner_sign x14.2.1 ([62] : LB)).bind fun x17 =>
     some (x17.1, x17.2, x14.2.2)))
    ((F_scan_scanner_here (⟨b, (i : Int)⟩ : TS) ([60, 33, 91, 67, 68, 65, 84, 65, 91] : LB)).bind fun x18 =>
    cond x18
     ((F_scan_scanner_upTo ⟨b, (i : Int)⟩ (⟨(6 : Int), (i : Int), ([] : LB), ([] : List TP), ([] : LB), (0 : Int)⟩ : TK) (9 : Int) ([93, 93, 62] : LB)).bind fun x20 =>
     some (x20.1, x20.2.1, x20.2.2))
     ((F_scan_scanner_here (⟨b, (i : Int)⟩ : TS) ([60, 33, 68, 79, 67, 84, 89, 80, 69] : LB)).bind fun x22 =>
     cond x22
     (some ((25 : Int), (⟨b, (i : Int)⟩ : TS), (⟨(0 : Int), (i : Int), ([] : LB), ([] : List TP), ([] : LB), (0 : Int)⟩ : TK)))
     ((F_scan_scanner_here (⟨b, (i : Int)⟩ : TS) ([60, 33] : LB)).bind fun x24 =>
     cond x24
      (some ((23 : Int), (⟨b, (i : Int)⟩ : TS), (⟨(0 : Int), (i : Int), ([] : LB), ([] : List TP), ([] : LB), (0 : Int)⟩ : TK)))
      ((F_scan_scanner_here (⟨b, (i : Int)⟩ : TS) ([60, 63] : LB)).bind fun x26 =>
      cond x26
      ((F_scan_scanner_instr (⟨b, (i : Int)⟩ : TS) ⟨(0 : Int), (i : Int), ([] : LB), ([] : List TP), ([] : LB), (0 : Int)⟩).bind fun x28 =>
      some (x28.1, x28.2.1, x28.2.2))
      ((F_scan_scanner_here (⟨b, (i : Int)⟩ : TS) ([60, 47] : LB)).bind fun x30 =>
      cond x30
       ((F_scan_scanner_closing (⟨b, (i : Int)⟩ : TS) ⟨(0 : Int), (i : Int), ([] : LB), ([] : List TP), ([] : LB), (0 : Int)⟩).bind fun x32 =>
       some (x32.1, x32.2.1, x32.2.2))
       ((F_scan_scanner_here (⟨b, (i : Int)⟩ : TS) ([60] : LB)).bind fun x34 =>
       cond x34
       ((F_scan_scanner_tag (⟨b, (i : Int)⟩ : TS) ⟨(0 : Int), (i : Int), ([] : LB), ([] : List TP), ([] : LB), (0 : Int)⟩).bind fun x36 =>
       some (x36.1, x36.2.1, x36.2.2))
       ((F_scan_scanner_text (⟨b, (i : Int)⟩ : TS) ⟨(0 : Int), (i : Int), ([] : LB), ([] : List TP), ([] : LB), (0 : Int)⟩).bind fun x38 =>
       some (x38.1, x38.2.1, x38.2.2))))))))) = tokRest b i := by
  simp only [here_eq b i _ hi, bS, bind_eta]
  rfl
 unfold F_scan_scanner_token
 simp only [letJ]
 unfold declP
 by_cases h0 : i = 0
 ·subst h0
  rw [show (((0 : Nat) : Int) == (0 : Int)) = true from rfl, cT, here_eq b 0 _ hi, bS, dT (rfl : (0 : Nat) = 0), Bool.true_and]
  cases c0 : hereP b 0 [60, 63, 120, 109, 108] with
  | false => rw [cF, cF, Bool.false_and, cF]; exact rest
  | true =>
   have hl := hereP_len c0 hi
   have h5 : 5 ≤ b.length := by simpa using hl
   rw [cT, show (5 : Int) = ((5 : Nat) : Int) from rfl, spaces_eq b _ 5 h5 hb, bS, Bool.true_and]
   by_cases h5' : 5 < sk wsP b 5
   ·rw [dT (show (((5 : Nat) : Int) < ((sk wsP b 5 : Nat) : Int)) by omega), dT h5', cT, cT, bind_eta]; rfl
   ·rw [dF (show ¬ (((5 : Nat) : Int) < ((sk wsP b 5 : Nat) : Int)) by omega), dF h5', cF, cF]; exact rest
 ·rw [show ((i : Int) == (0 : Int)) = false by rw [beq_eq_false_iff_ne]; omega, cF, cF, dF h0, Bool.false_and, cF]
  exact rest
theorem decN_more {n m b0 b1 b2 b3 c1 c2 c3 : Nat} (h : badR (decodeN n b0 b1 b2 b3) = false) (hnm : n ≤ m) (h1 : 1 < n → c1 = b1) (h2 : 2 < n → c2 = b2) (h3 : 3 < n → c3 = b3) : decodeN m b0 c1 c2 c3 = decodeN n b0 b1 b2 b3 := by
 have hb : ¬ ((decodeN n b0 b1 b2 b3).1 = 65533 ∧ (decodeN n b0 b1 b2 b3).2 = 1) := by
  unfold badR at h; simpa using h
 unfold decodeN at hb ⊢
 by_cases a0 : b0 < 128
 ·rw [if_pos a0, if_pos a0]
 rw [if_neg a0] at hb
 rw [if_neg a0, if_neg a0]
 by_cases a1 : b0 / 32 = 6 ∧ (1 < n ∧ b1 / 64 = 2)
 ·have e1 := h1 a1.2.1
  rw [if_pos a1, if_pos ⟨a1.1, by omega, by rw [e1]; exact a1.2.2⟩, e1]
 rw [if_neg a1] at hb
 rw [if_neg a1]
 by_cases a2 : b0 / 16 = 14 ∧ (1 < n ∧ b1 / 64 = 2) ∧ (2 < n ∧ b2 / 64 = 2)
 ·have e1 := h1 a2.2.1.1
  have e2 := h2 a2.2.2.1
  rw [if_pos a2, if_neg (by omega), if_pos ⟨a2.1, ⟨by omega, by rw [e1]; exact a2.2.1.2⟩, by omega, by rw [e2]; exact a2.2.2.2⟩, e1, e2]
 rw [if_neg a2] at hb
 rw [if_neg a2]
 by_cases a3 : b0 / 8 = 30 ∧ (1 < n ∧ b1 / 64 = 2) ∧ (2 < n ∧ b2 / 64 = 2) ∧ (3 < n ∧ b3 / 64 = 2)
 ·have e1 := h1 a3.2.1.1
  have e2 := h2 a3.2.2.1.1
  have e3 := h3 a3.2.2.2.1
  rw [if_pos a3, if_neg (by omega), if_neg (by omega), if_pos ⟨a3.1, ⟨by omega, by rw [e1]; exact a3.2.1.2⟩, ⟨by omega, by rw [e2]; exact a3.2.2.1.2⟩, by omega, by rw [e3]; exact a3.2.2.2.2⟩, e1, e2, e3]
 rw [if_neg a3] at hb
 exact absurd ⟨rfl, rfl⟩ hb
theorem getD_appL {x y : LB} {k : Nat} (h : k < x.length) : (x ++ y).getD k 0 = x.getD k 0 := by
 simp [List.getD, List.getElem?_append_left h]
theorem dec_app {x y : LB} (hx : x ≠ []) (h : badR (decodeL x) = false) : decodeL (x ++ y) = decodeL x := by
 have hp : 0 < x.length := List.length_pos_iff.2 hx
 rw [Lib.decodeL_N x] at h ⊢
 rw [Lib.decodeL_N (x ++ y), getD_appL hp]
 exact decN_more h (by rw [List.length_append]; omega) (fun g => by rw [getD_appL g]) (fun g => by rw [getD_appL g]) (fun g => by rw [getD_appL g])
theorem decN_stop {n m b0 b1 b2 b3 c1 c2 c3 : Nat} (hn : 1 ≤ n) (hnm : n ≤ m) (h1 : 1 < n → c1 = b1) (h2 : 2 < n → c2 = b2) (h3 : 3 < n → c3 = b3) (s1 : n = 1 → c1 < 128) (s2 : n = 2 → c2 < 128) (s3 : n = 3 → c3 < 128) : decodeN m b0 c1 c2 c3 = decodeN n b0 b1 b2 b3 := by
 have q1 : (1 < m ∧ c1 / 64 = 2) ↔ (1 < n ∧ b1 / 64 = 2) := by
  by_cases g : 1 < n
  ·have := h1 g; subst this; constructor <;> rintro ⟨_, q⟩ <;> exact ⟨by omega, q⟩
  ·have := s1 (by omega); constructor <;> rintro ⟨_, q⟩ <;> omega
 have q2 : (1 < n ∧ b1 / 64 = 2) → ((2 < m ∧ c2 / 64 = 2) ↔ (2 < n ∧ b2 / 64 = 2)) := by
  rintro ⟨g1, _⟩
  by_cases g : 2 < n
  ·have := h2 g; subst this; constructor <;> rintro ⟨_, q⟩ <;> exact ⟨by omega, q⟩
  ·have := s2 (by omega); constructor <;> rintro ⟨_, q⟩ <;> omega
 have q3 : (2 < n ∧ b2 / 64 = 2) → ((3 < m ∧ c3 / 64 = 2) ↔ (3 < n ∧ b3 / 64 = 2)) := by
  rintro ⟨g1, _⟩
  by_cases g : 3 < n
  ·have := h3 g; subst this; constructor <;> rintro ⟨_, q⟩ <;> exact ⟨by omega, q⟩
  ·have := s3 (by omega); constructor <;> rintro ⟨_, q⟩ <;> omega
 unfold decodeN
 by_cases a0 : b0 < 128
 ·rw [if_pos a0, if_pos a0]
 rw [if_neg a0, if_neg a0]
 by_cases a1 : b0 / 32 = 6 ∧ (1 < n ∧ b1 / 64 = 2)
 ·rw [if_pos a1, if_pos ⟨a1.1, q1.2 a1.2⟩, h1 a1.2.1]
 rw [if_neg a1, if_neg (fun h => a1 ⟨h.1, q1.1 h.2⟩)]
 by_cases a2 : b0 / 16 = 14 ∧ (1 < n ∧ b1 / 64 = 2) ∧ (2 < n ∧ b2 / 64 = 2)
 ·rw [if_pos a2, if_pos ⟨a2.1, q1.2 a2.2.1, (q2 a2.2.1).2 a2.2.2⟩, h1 a2.2.1.1, h2 a2.2.2.1]
 rw [if_neg a2, if_neg (fun h => a2 ⟨h.1, q1.1 h.2.1, (q2 (q1.1 h.2.1)).1 h.2.2⟩)]
 by_cases a3 : b0 / 8 = 30 ∧ (1 < n ∧ b1 / 64 = 2) ∧ (2 < n ∧ b2 / 64 = 2) ∧ (3 < n ∧ b3 / 64 = 2)
 ·rw [if_pos a3, if_pos ⟨a3.1, q1.2 a3.2.1, (q2 a3.2.1).2 a3.2.2.1, (q3 a3.2.2.1).2 a3.2.2.2⟩, h1 a3.2.1.1, h2 a3.2.2.1.1, h3 a3.2.2.2.1]
 rw [if_neg a3, if_neg (fun h => a3 ⟨h.1, q1.1 h.2.1, (q2 (q1.1 h.2.1)).1 h.2.2.1, (q3 ((q2 (q1.1 h.2.1)).1 h.2.2.1)).1 h.2.2.2⟩)]
theorem getD_appC {x y : LB} {c : UInt8} {k : Nat} (h : x.length = k) : (x ++ c :: y).getD k 0 = c := by
 subst h; simp [List.getD]
theorem dec_stop {x y : LB} {c : UInt8} (hx : x ≠ []) (hc : c.toNat < 128) : decodeL (x ++ c :: y) = decodeL x := by
 have hp : 0 < x.length := List.length_pos_iff.2 hx
 rw [Lib.decodeL_N x, Lib.decodeL_N (x ++ c :: y), getD_appL hp]
 exact decN_stop hp (by rw [List.length_append]; omega) (fun g => by rw [getD_appL g]) (fun g => by rw [getD_appL g]) (fun g => by rw [getD_appL g]) (fun g => by rw [getD_appC g]; exact hc) (fun g => by rw [getD_appC g]; exact hc) (fun g => by rw [getD_appC g]; exact hc)
theorem dec_ascii (c : UInt8) (y : LB) (hc : c.toNat < 128) : decodeL (c :: y) = (c.toNat, 1) := by
 have := (dec_bytes (c :: y) 0 (by simp)).2.2.1
 simpa using this hc
inductive OkT : LB → Prop
 | nil : OkT []
 | cons {l : LB} : l ≠ [] → badR (decodeL l) = false → charP ((decodeL l).1 : Int) = true → OkT (l.drop (decodeL l).2) → OkT l
theorem okT_inv {l : LB} (h : OkT l) (hl : l ≠ []) : badR (decodeL l) = false ∧ charP ((decodeL l).1 : Int) = true ∧ OkT (l.drop (decodeL l).2) := by
 cases h with
 | nil => exact absurd rfl hl
 | cons _ a b c => exact ⟨a, b, c⟩
theorem dec_pos {l : LB} (h : l ≠ []) : 1 ≤ (decodeL l).2 ∧ (decodeL l).2 ≤ l.length := by
 have := dec_bytes l 0 (List.length_pos_iff.2 h)
 simp only [List.drop_zero, Nat.zero_add] at this
 exact ⟨this.1, this.2.1⟩
theorem okT_app {x y : LB} (hx : OkT x) (hy : OkT y) : OkT (x ++ y) := by
 induction hx with
 | nil => exact hy
 | @cons l h1 h2 h3 h4 ih =>
  have e := dec_app (y := y) h1 h2
  refine .cons (by simp [h1]) (by rw [e]; exact h2) (by rw [e]; exact h3) ?_
  rw [e, List.drop_append_of_le_length (dec_pos h1).2]
  exact ih
theorem okT_ascii (c : UInt8) (y : LB) (hc : c.toNat < 128) (hp : charP (c.toNat : Int) = true) (hy : OkT y) : OkT (c :: y) := by
 have e := dec_ascii c y hc
 refine .cons (by simp) (by rw [e]; unfold badR; simp; omega) (by rw [e]; exact hp) (by rw [e]; exact hy)
theorem fault_step (b : LB) (i : Nat) (hi : i < b.length) (hb : b.length ≤ 1073741824) (rec) : F_char_Fault_l0 b rec (i : Int) = if badR (decodeL (b.drop i)) then some (.inr ((i : Int), (20 : Int))) else if charP ((decodeL (b.drop i)).1 : Int) then rec ((i + (decodeL (b.drop i)).2 : Nat) : Int) else some (.inr ((i : Int), (21 : Int))) := by
 unfold F_char_Fault_l0
 rw [dT (show (i : Int) < (b.length : Int) by omega), cT, F_next b i hi hb, bS]
 cases badR (decodeL (b.drop i)) with
 | true => rfl
 | false => cases charP ((decodeL (b.drop i)).1 : Int) <;> rfl
theorem drop_nn {α : Type} {l : List α} {i : Nat} (h : i < l.length) : l.drop i ≠ [] := fun g => by
 have := congrArg List.length g; simp at this; omega
theorem fault_iff (b : LB) (hb : b.length ≤ 1073741824) : (F_char_Fault b = some (0, 0) ∧ OkT b) ∨ (∃ (i : Nat) (e : Int), F_char_Fault b = some ((i : Int), e) ∧ e ≠ 0 ∧ ¬ OkT b ∧ i ≤ b.length) := by
 obtain ⟨o, e, h⟩ := iter_dec (b := F_char_Fault_l0 b) (fun x => b.length - x.toNat) (fun x => ∃ i : Nat, x = (i : Int) ∧ i ≤ b.length ∧ (OkT b ↔ OkT (b.drop i))) (fun o => (o = .inl () ∧ OkT b) ∨ ∃ (i : Nat) (f : Int), o = .inr ((i : Int), f) ∧ f ≠ 0 ∧ ¬ OkT b ∧ i ≤ b.length) (by
  rintro _ ⟨i, rfl, hi, hiff⟩
  by_cases hlt : i < b.length
  ·obtain ⟨d1, d2, _⟩ := dec_bytes b i hlt
   have hne := drop_nn hlt
   simp only [fault_step b i hlt hb]
   cases hbad : badR (decodeL (b.drop i)) with
   | true =>
    right
    exact ⟨_, fun _ => rfl, .inr ⟨i, 20, rfl, by decide, fun h => (by have := (okT_inv (hiff.1 h) hne).1; rw [hbad] at this; cases this), hi⟩⟩
   | false =>
    cases hc : charP ((decodeL (b.drop i)).1 : Int) with
    | false =>
     right
     exact ⟨_, fun _ => rfl, .inr ⟨i, 21, rfl, by decide, fun h => (by have := (okT_inv (hiff.1 h) hne).2.1; rw [hc] at this; cases this), hi⟩⟩
    | true =>
     left
     refine ⟨_, fun _ => rfl, ⟨i + (decodeL (b.drop i)).2, rfl, d2, hiff.trans ?_⟩, by rw [Int.toNat_natCast, Int.toNat_natCast]; omega⟩
     rw [← List.drop_drop]
     exact ⟨fun h => (okT_inv h hne).2.2, fun h => .cons hne hbad hc h⟩
  ·right
   refine ⟨.inl (), fun rec => ?_, .inl ⟨rfl, ?_⟩⟩
   ·unfold F_char_Fault_l0
    rw [dF (by omega), cF]
   ·rw [hiff, List.drop_eq_nil_of_le (by omega)]; exact .nil) FUEL (0 : Int) ⟨0, rfl, Nat.zero_le _, by rw [List.drop_zero]⟩ (by unfold FUEL; omega)
 unfold F_char_Fault
 simp only [letJ]
 rw [e, bS]
 rcases h with ⟨rfl, h⟩ | ⟨i, f, rfl, hf, hn, hi⟩
 ·exact .inl ⟨rfl, h⟩
 ·exact .inr ⟨i, f, rfl, hf, hn, hi⟩
def lnR : Bool → LB → LB
 | _, [] => []
 | pc, c :: l => if c = 13 then 10 :: lnR true l else if c = 10 ∧ pc = true then lnR false l else c :: lnR false l
theorem lnR_step (p : LB) (i : Nat) (hi : i < p.length) : lnR (decide (0 < i ∧ p.getD (i - 1) 0 = 13)) (p.drop i) = lnP p i ++ lnR (decide (0 < i + 1 ∧ p.getD (i + 1 - 1) 0 = 13)) (p.drop (i + 1)) := by
 have hg : p.getD i 0 = p[i] := by simp [List.getD, hi]
 rw [List.drop_eq_getElem_cons hi, Nat.add_sub_cancel]
 simp only [lnR]
 unfold lnP
 rw [hg]
 by_cases h13 : p[i] = 13
 ·rw [if_pos h13, if_pos h13, dT (by exact ⟨by omega, h13⟩)]; rfl
 ·rw [if_neg h13, if_neg h13, dF (show ¬ (0 < i + 1 ∧ p[i] = 13) from fun h => h13 h.2)]
  by_cases h10 : p[i] = 10 ∧ 0 < i ∧ p.getD (i - 1) 0 = 13
  ·rw [if_pos ⟨h10.1, dT h10.2⟩, if_pos h10]; rfl
  ·rw [if_neg (fun h => h10 ⟨h.1, of_decide_eq_true h.2⟩), if_neg h10]; rfl
theorem lines_eq (p : LB) (hp : p.length ≤ 1073741824) : F_char_Lines p = some (lnR false p) := by
 obtain ⟨o, e, h⟩ := iter_dec (b := F_char_Lines_l0 p) (fun x => p.length - x.2.toNat) (fun x => ∃ (l : LB) (i : Nat), x = (l, (i : Int)) ∧ i ≤ p.length ∧ l.length ≤ i ∧ l ++ lnR (decide (0 < i ∧ p.getD (i - 1) 0 = 13)) (p.drop i) = lnR false p) (fun o => o = lnR false p) (by
  rintro _ ⟨l, i, rfl, hi, hl, hE⟩
  by_cases hlt : i < p.length
  ·left
   have := lnP_len p i
   rw [lnR_step p i hlt, ← List.append_assoc] at hE
   exact ⟨_, fun rec => lines_step1 p i l hlt hl hp rec, ⟨_, i + 1, rfl, by omega, by rw [List.length_append]; omega, hE⟩, by dsimp only; omega⟩
  ·right
   rw [List.drop_eq_nil_of_le (by omega)] at hE
   refine ⟨l, fun rec => ?_, by rw [← hE]; simp [lnR]⟩
   unfold F_char_Lines_l0; dsimp only; rw [dF (by omega), cF]) FUEL (([] : LB), (0 : Int)) ⟨[], 0, rfl, Nat.zero_le _, Nat.le_refl _, by simp⟩ (by unfold FUEL; dsimp only; omega)
 unfold F_char_Lines
 simp only [letJ]
 rw [show mkG 1 (0 : Int) (p.length : Int) = some () by unfold mkG; rw [if_pos (by omega)], bS, bS, show (List.replicate (Int.toNat (0 : Int)) (0 : UInt8)) = [] from rfl, e, bS, h]
def strip (p : LB) : LB := if ([239, 187, 191] : LB).isPrefixOf p = true then p.drop 3 else p
def pln (p : LB) : LB := lnR false (strip p)
theorem plain_eq (p : LB) (hp : p.length ≤ 1073741824) : F_scan_Plain p = some (pln p) := by
 unfold F_scan_Plain F_bytes_TrimPrefix
 rw [show u8 (239 : Int) = some 239 from rfl, show u8 (187 : Int) = some 187 from rfl, show u8 (191 : Int) = some 191 from rfl, bS, bS, bS, hasPrefix_eq, bS]
 unfold pln strip
 cases h : ([239, 187, 191] : LB).isPrefixOf p with
 | true =>
  have h' := h
  rw [isPre_take, Bool.and_eq_true, decide_eq_true_eq] at h'
  rw [cT, if_pos rfl, show slc p ((([239, 187, 191] : LB).length : Nat) : Int) (p.length : Int) = some (p.drop 3) from slc_drop (n := 3) (by simpa using h'.1), bS, bS, lines_eq _ (by rw [List.length_drop]; omega), bS]
 | false => rw [cF, if_neg (by simp), bS, lines_eq p hp, bS]
theorem decN_cut {n b0 b1 b2 b3 w c1 c2 c3 : Nat} (h : badR (decodeN n b0 b1 b2 b3) = false) (hw : (decodeN n b0 b1 b2 b3).2 = w) (h1 : 1 < w → c1 = b1) (h2 : 2 < w → c2 = b2) (h3 : 3 < w → c3 = b3) : decodeN w b0 c1 c2 c3 = decodeN n b0 b1 b2 b3 := by
 have hb : ¬ ((decodeN n b0 b1 b2 b3).1 = 65533 ∧ (decodeN n b0 b1 b2 b3).2 = 1) := by
  unfold badR at h; simpa using h
 unfold decodeN at hb hw ⊢
 by_cases a0 : b0 < 128
 ·rw [if_pos a0, if_pos a0]
 rw [if_neg a0] at hb hw
 rw [if_neg a0, if_neg a0]
 by_cases a1 : b0 / 32 = 6 ∧ (1 < n ∧ b1 / 64 = 2)
 ·rw [if_pos a1] at hb hw
  rw [if_pos a1]
  split at hw
  ·have hw : 2 = w := hw
   subst hw
   have e1 := h1 (by omega)
   rw [if_pos ⟨a1.1, by omega, by rw [e1]; exact a1.2.2⟩, e1]
  ·rename_i hx; rw [if_neg hx] at hb; exact absurd ⟨rfl, rfl⟩ hb
 rw [if_neg a1] at hb hw
 rw [if_neg a1]
 by_cases a2 : b0 / 16 = 14 ∧ (1 < n ∧ b1 / 64 = 2) ∧ (2 < n ∧ b2 / 64 = 2)
 ·rw [if_pos a2] at hb hw
  rw [if_pos a2]
  split at hw
  ·have hw : 3 = w := hw
   subst hw
   have e1 := h1 (by omega)
   have e2 := h2 (by omega)
   rw [if_neg (by omega), if_pos ⟨a2.1, ⟨by omega, by rw [e1]; exact a2.2.1.2⟩, by omega, by rw [e2]; exact a2.2.2.2⟩, e1, e2]
  ·rename_i hx; rw [if_neg hx] at hb; exact absurd ⟨rfl, rfl⟩ hb
 rw [if_neg a2] at hb hw
 rw [if_neg a2]
 by_cases a3 : b0 / 8 = 30 ∧ (1 < n ∧ b1 / 64 = 2) ∧ (2 < n ∧ b2 / 64 = 2) ∧ (3 < n ∧ b3 / 64 = 2)
 ·rw [if_pos a3] at hb hw
  rw [if_pos a3]
  split at hw
  ·have hw : 4 = w := hw
   subst hw
   have e1 := h1 (by omega)
   have e2 := h2 (by omega)
   have e3 := h3 (by omega)
   rw [if_neg (by omega), if_neg (by omega), if_pos ⟨a3.1, ⟨by omega, by rw [e1]; exact a3.2.1.2⟩, ⟨by omega, by rw [e2]; exact a3.2.2.1.2⟩, by omega, by rw [e3]; exact a3.2.2.2.2⟩, e1, e2, e3]
  ·rename_i hx; rw [if_neg hx] at hb; exact absurd ⟨rfl, rfl⟩ hb
 rw [if_neg a3] at hb
 exact absurd ⟨rfl, rfl⟩ hb
theorem getD_take {l : LB} {k w : Nat} (h : k < w) : (l.take w).getD k 0 = l.getD k 0 := by
 simp [List.getD, List.getElem?_take, h]
theorem dec_take {l : LB} (hl : l ≠ []) (h : badR (decodeL l) = false) : decodeL (l.take (decodeL l).2) = decodeL l := by
 have hp := dec_pos hl
 generalize hw : (decodeL l).2 = w at hp ⊢
 rw [Lib.decodeL_N l] at h hw ⊢
 rw [Lib.decodeL_N (l.take w), getD_take (by omega), show (l.take w).length = w by rw [List.length_take]; omega]
 exact decN_cut h hw (fun g => by rw [getD_take g]) (fun g => by rw [getD_take g]) (fun g => by rw [getD_take g])
def textR (b : LB) (i f : Nat) : Option (Int × TS × Tk) :=
 (F_refer_ReadText ((b.drop i).take (f - i))).bind fun x => (L_bCount ((b.drop i).take (f - i)) ([38] : LB)).bind fun y => some (x.2.2, (⟨b, (f : Int)⟩ : TS), (⟨(5 : Int), (i : Int), [], [], x.1, y⟩ : Tk))
structure TxtAt (b : LB) (i f : Nat) : Prop where
 lt : i < f
 le : f ≤ b.length
 no : ∀ x, i ≤ x → x < f → b[x]? ≠ some 60
 ed : f = b.length ∨ b[f]? = some 60
inductive Tr (b : LB) : List Tk → Nat → Prop
 | nil : Tr b [] 0
 | snoc {L : List Tk} {j k : Nat} {t : Tk} : Tr b L j → j < b.length → F_scan_scanner_token ⟨b, (j : Int)⟩ (tok0 j) = some (0, ⟨b, (k : Int)⟩, t) → TokOk b j t k → k ≤ b.length → Tr b (L ++ [t]) k
theorem all_step {b : LB} {L : List Tk} {j k : Nat} {t : Tk} (hL : L.length ≤ 65536) (hj : j < b.length) (h : F_scan_scanner_token ⟨b, (j : Int)⟩ (tok0 j) = some (0, ⟨b, (k : Int)⟩, t)) (rec) : F_scan_All_l0 rec (b, (j : Int), L) = rec (b, (k : Int), L ++ [t]) := by
 have hne : ((j : Int) == (b.length : Int)) = false := by rw [beq_eq_false_iff_ne]; omega
 have h' : F_scan_scanner_token ⟨b, (j : Int)⟩ ⟨(0 : Int), (j : Int), ([] : LB), ([] : List TP), ([] : LB), (0 : Int)⟩ = some (0, ⟨b, (k : Int)⟩, t) := h
 unfold F_scan_All_l0
 dsimp only
 rw [hne, cF, h', bS]
 dsimp only
 rw [show ((0 : Int) != 0) = false from rfl, cF, app_some (by simp; omega) (by simp; omega), bS, bS]
theorem all_end (b : LB) (L : List Tk) (rec) : F_scan_All_l0 rec (b, (b.length : Int), L) = some (L, (0 : Int), (0 : Int)) := by
 unfold F_scan_All_l0
 dsimp only
 rw [show ((b.length : Int) == (b.length : Int)) = true by simp, cT]
theorem all_eq (p : LB) (hp : p.length ≤ 65536) : F_scan_All p = (F_char_Fault (pln p)).bind fun x4 => cond (x4.2 != (0 : Int)) (some ([], x4.1, x4.2)) (iter F_scan_All_l0 FUEL (pln p, (0 : Int), ([] : List TK))) := by
 have hbind : ∀ o : Option (List TK × Int × Int), (o.bind fun x => some x) = o := fun o => by cases o <;> rfl
 unfold F_scan_All
 rw [dF (by omega), cF, plain_eq p (by omega), bS]
 dsimp only
 rw [hbind]
theorem okT_one {l : LB} (h1 : l ≠ []) (h2 : badR (decodeL l) = false) (h3 : charP ((decodeL l).1 : Int) = true) : OkT (l.take (decodeL l).2) := by
 have hp := dec_pos h1
 have e := dec_take h1 h2
 refine .cons (fun h => by have := congrArg List.length h; rw [List.length_take, List.length_nil] at this; omega) (by rw [e]; exact h2) (by rw [e]; exact h3) ?_
 rw [e, List.drop_eq_nil_of_le (by rw [List.length_take]; omega)]
 exact .nil

theorem lnR_id : ∀ (l : LB), (13 : UInt8) ∉ l → lnR false l = l
 | [], _ => rfl
 | c :: l, h => by
  simp only [List.mem_cons, not_or] at h
  simp only [lnR]
  rw [if_neg (fun e => h.1 e.symm), if_neg (by simp), lnR_id l h.2]
abbrev bom : LB := [239, 187, 191]
def mrk (x : LB) : LB := if bom.isPrefixOf x = true then bom ++ x else x
theorem okT_split {c : UInt8} {y : LB} (hc : c.toNat < 128) {l : LB} (h : OkT l) : ∀ x, l = x ++ c :: y → OkT x ∧ OkT (c :: y) := by
 induction h with
 | nil => intro x h; simp at h
 | @cons l h1 h2 h3 h4 ih =>
  intro x h
  subst h
  by_cases hx : x = []
  ·subst hx; exact ⟨.nil, .cons h1 h2 h3 h4⟩
  ·have hd := dec_stop (x := x) (y := y) hx hc
   have hp := dec_pos hx
   rw [hd] at h2 h3 ih
   obtain ⟨g1, g2⟩ := ih _ (List.drop_append_of_le_length hp.2)
   exact ⟨.cons hx h2 h3 g1, g2⟩
theorem okT_tail {c : UInt8} {y : LB} (hc : c.toNat < 128) (h : OkT (c :: y)) : OkT y := by
 have h4 := (okT_inv h (by simp)).2.2
 rw [dec_ascii c y hc] at h4
 exact h4
theorem name_shift {U V : LB} {i i' : Nat} {x y z : LB} {c d : UInt8} (hU : U.length ≤ 1073741824) (hV : V.length ≤ 1073741824) (hi : i ≤ U.length) (hi' : i' ≤ V.length)
  (eU : U.drop i = x ++ c :: y) (eV : V.drop i' = x ++ d :: z) (hc : c.toNat < 128) (hd : d.toNat < 128) (hs : ∀ i k, stopN i k (d.toNat : Int) = true)
  (h : iter (F_scan_scanner_name_l0 ⟨U, (i : Int)⟩) FUEL (i : Int) = some ((i + x.length : Nat) : Int)) :
  iter (F_scan_scanner_name_l0 ⟨V, (i' : Int)⟩) FUEL (i' : Int) = some ((i' + x.length : Nat) : Int) := by
 have lU : U.length = i + (x.length + (y.length + 1)) := by
  have := congrArg List.length eU
  rw [List.length_drop, List.length_append, List.length_cons] at this; omega
 have lV : V.length = i' + (x.length + (z.length + 1)) := by
  have := congrArg List.length eV
  rw [List.length_drop, List.length_append, List.length_cons] at this; omega
 have dU : ∀ r, r ≤ x.length → U.drop (i + r) = x.drop r ++ c :: y := fun r hr => by
  rw [← List.drop_drop, eU, List.drop_append_of_le_length hr]
 have dV : ∀ r, r ≤ x.length → V.drop (i' + r) = x.drop r ++ d :: z := fun r hr => by
  rw [← List.drop_drop, eV, List.drop_append_of_le_length hr]
 have key : ∀ (m r : Nat), r ≤ x.length → iter (F_scan_scanner_name_l0 ⟨U, (i : Int)⟩) m ((i + r : Nat) : Int) = some ((i + x.length : Nat) : Int) → iter (F_scan_scanner_name_l0 ⟨V, (i' : Int)⟩) m ((i' + r : Nat) : Int) = some ((i' + x.length : Nat) : Int) := by
  intro m
  induction m with
  | zero => intro r _ h; cases h
  | succ m ih =>
   intro r hr h
   rw [iter_succ] at h ⊢
   rw [name_step V i' (i' + r) (by omega) hV]
   rw [name_step U i (i + r) (by omega) hU] at h
   by_cases hlt : r < x.length
   ·have hne : x.drop r ≠ [] := drop_nn hlt
    have e1 := dec_stop (x := x.drop r) (y := y) hne hc
    have e2 := dec_stop (x := x.drop r) (y := z) hne hd
    have hp := dec_pos hne
    rw [List.length_drop] at hp
    rw [dU r hr, e1] at h
    rw [dV r hr, e2]
    have es : ∀ R, stopN (i : Int) ((i + r : Nat) : Int) R = stopN (i' : Int) ((i' + r : Nat) : Int) R := fun R => by
     unfold stopN
     have : (((i + r : Nat) : Int) == (i : Int)) = (((i' + r : Nat) : Int) == (i' : Int)) := by
      rw [Bool.eq_iff_iff, beq_iff_eq, beq_iff_eq]; omega
     rw [this]
    rw [es] at h
    cases hst : stopN (i' : Int) ((i' + r : Nat) : Int) ((decodeL (x.drop r)).1 : Int) with
    | true =>
     rw [hst, cT] at h
     have := Option.some.inj h
     omega
    | false =>
     rw [hst, cF] at h
     rw [cF, Nat.add_assoc]
     rw [Nat.add_assoc] at h
     exact ih _ (by omega) h
   ·have hr' : r = x.length := by omega
    subst hr'
    rw [dV _ (Nat.le_refl _), List.drop_of_length_le (Nat.le_refl _), List.nil_append, dec_ascii d z hd, hs, cT]
 have := key FUEL 0 (Nat.zero_le _) (by rw [Nat.add_zero]; exact h)
 rw [Nat.add_zero] at this
 exact this
theorem name_move {U V : LB} {i i' : Nat} {x y z : LB} {c d : UInt8} (hU : U.length ≤ 1073741824) (hV : V.length ≤ 1073741824) (hi : i ≤ U.length) (hi' : i' ≤ V.length)
  (eU : U.drop i = x ++ c :: y) (eV : V.drop i' = x ++ d :: z) (hc : c.toNat < 128) (hd : d.toNat < 128) (hs : ∀ i k, stopN i k (d.toNat : Int) = true) {s : TS}
  (h : F_scan_scanner_name ⟨U, (i : Int)⟩ = some ((x, 0), s)) :
  s = ⟨U, ((i + x.length : Nat) : Int)⟩ ∧ F_scan_scanner_name ⟨V, (i' : Int)⟩ = some ((x, 0), ⟨V, ((i' + x.length : Nat) : Int)⟩) := by
 obtain ⟨j, rfl, hj1, hj2, hx, hI⟩ := name_ok hi hU h
 have hxl : x.length = j - i := by
  have := congrArg List.length hx
  rw [List.length_take, List.length_drop] at this; omega
 have hj : j = i + x.length := by omega
 subst hj
 refine ⟨rfl, ?_⟩
 have hV' := name_shift hU hV hi hi' eU eV hc hd hs hI
 have lV : V.length = i' + (x.length + (z.length + 1)) := by
  have := congrArg List.length eV
  rw [List.length_drop, List.length_append, List.length_cons] at this; omega
 have tU : (U.drop i).take (i + x.length - i) = x := by rw [eU, Nat.add_sub_cancel_left, List.take_left]
 have tV : (V.drop i').take (i' + x.length - i') = x := by rw [eV, Nat.add_sub_cancel_left, List.take_left]
 rw [name_eq U i _ hI (by omega) hj2, tU] at h
 rw [name_eq V i' _ hV' (by omega) (by omega), tV]
 cases hn : x == ([] : LB) with
 | true => rw [hn, cT] at h; cases h
 | false =>
  rw [hn, cF] at h
  rw [cF]
  cases hsp : F_char_Split x with
  | none => rw [hsp] at h; cases h
  | some r =>
   rw [hsp, bS] at h
   rw [bS]
   cases hr : r.2.2 with
   | false => rw [hr, Bool.not_false, cT] at h; cases h
   | true => rw [Bool.not_true, cF]
theorem stop_ws (c : UInt8) (h : wsP c = true ∨ c = 61) : ∀ i k, stopN i k (c.toNat : Int) = true := by
 intro i k
 have : ∀ c : UInt8, (!(wsP c || (c == 61)) || ((c.toNat : Int) != 58 && !partP (c.toNat : Int))) = true := all_u8 (by decide +kernel)
 have h1 := this c
 have h2 : (wsP c || (c == 61)) = true := by rcases h with h | h <;> simp [h]
 rw [h2, Bool.not_true, Bool.false_or, Bool.and_eq_true] at h1
 unfold stopN
 rw [h1.1, h1.2]; rfl
theorem ws_lo (c : UInt8) (h : wsP c = true) : c.toNat < 128 := by
 have : ∀ c : UInt8, (!wsP c || decide (c.toNat < 128)) = true := all_u8 (by decide +kernel)
 have h1 := this c
 rw [h, Bool.not_true, Bool.false_or] at h1
 exact of_decide_eq_true h1
theorem sk_pass {P : UInt8 → Bool} : ∀ (g : LB) {b : LB} {i : Nat} {c : UInt8} {y : LB}, b.drop i = g ++ c :: y → (∀ d ∈ g, P d = true) → P c = false → sk P b i = i + g.length
 | [], b, i, c, y, e, _, hc => by
  unfold sk
  rw [e, List.nil_append, List.takeWhile_cons, hc]; rfl
 | d :: g, b, i, c, y, e, hg, hc => by
  unfold sk
  rw [e]
  have : ((d :: g) ++ c :: y).takeWhile P = d :: g := by
   rw [List.takeWhile_append_of_pos (fun x hx => hg x hx), List.takeWhile_cons, hc]
   simp
  rw [this]
theorem tag_l0_end {U : LB} (hU : U.length ≤ 1073741824) (At : Int) (Nm Tx : LB) (rf : Int) (m j : Nat) (ps : List TP) (y z : LB) (g2 : j ≤ U.length) (c1 : hereP U (sk wsP U j) [47, 62] = true) :
  iter F_scan_scanner_tag_l0 (m + 1) (U, (j : Int), (2 : Int), At, Nm, ps, Tx, rf, y, z) = some (0, ⟨U, ((sk wsP U j + 2 : Nat) : Int)⟩, ⟨4, At, Nm, ps, Tx, rf⟩) := by
 rw [show iter F_scan_scanner_tag_l0 (m + 1) (U, (j : Int), (2 : Int), At, Nm, ps, Tx, rf, y, z) = F_scan_scanner_tag_l0 (iter F_scan_scanner_tag_l0 m) (U, (j : Int), (2 : Int), At, Nm, ps, Tx, rf, y, z) from rfl]
 generalize hI : iter F_scan_scanner_tag_l0 m = I
 unfold F_scan_scanner_tag_l0
 dsimp only
 obtain ⟨s1, s2⟩ := sk_le wsP U j g2
 rw [spaces_eq U (j : Int) j g2 hU, bS, here_eq U _ _ s2, bS, c1, cT, sign_eq U _ _ s2 hU, c1, if_pos rfl, bS]
 rfl
theorem drop_go {b x r : LB} {i : Nat} (h : b.drop i = x ++ r) : b.drop (i + x.length) = r := by
 rw [← List.drop_drop, h, List.drop_left]
theorem drop_go1 {b r : LB} {c : UInt8} {i : Nat} (h : b.drop i = c :: r) : b.drop (i + 1) = r := by
 rw [← List.drop_drop, h]; rfl
theorem drop_get {b r : LB} {c : UInt8} {i : Nat} (h : b.drop i = c :: r) : b[i]? = some c := by
 have : (b.drop i)[0]? = some c := by rw [h]; rfl
 rw [List.getElem?_drop, Nat.add_zero] at this
 exact this
theorem drop_lt {b r : LB} {c : UInt8} {i : Nat} (h : b.drop i = c :: r) : i < b.length := (List.getElem?_eq_some_iff.1 (drop_get h)).1
structure Spc (nm a v g : LB) (d : UInt8) (g' : LB) (p q : LB) : Prop where
 hp : p = 60 :: (nm ++ 32 :: (a ++ 61 :: 39 :: (v ++ [39, 47, 62])))
 hq : q = 60 :: (nm ++ (g ++ (a ++ (g ++ 61 :: (g ++ 39 :: (v ++ 39 :: (g ++ [47, 62])))))))
 hg : g = d :: g'
 hw : ∀ c ∈ g, wsP c = true
 lp : p.length ≤ 65536
 lq : q.length ≤ 65536
def encR (r : Int) : LB := (Utf8.encode r).data.toList
theorem encR_1 (r : Nat) (c1 : r < 128) : encR (r : Int) = [UInt8.ofNat r] := by
 have v : Utf8.valid (r : Int) = true := by simp [Utf8.valid]; omega
 simp [encR, Utf8.encode, v, c1]
theorem encR_2 (r : Nat) (c1 : ¬ r < 128) (c2 : r < 2048) : encR (r : Int) = [UInt8.ofNat (192 + r / 64), UInt8.ofNat (128 + r % 64)] := by
 have v : Utf8.valid (r : Int) = true := by simp [Utf8.valid]; omega
 simp [encR, Utf8.encode, v, c1, c2]
theorem encR_3 (r : Nat) (c2 : ¬ r < 2048) (c3 : r < 65536) (hv : r < 55296 ∨ 57344 ≤ r) : encR (r : Int) = [UInt8.ofNat (224 + r / 4096), UInt8.ofNat (128 + r / 64 % 64), UInt8.ofNat (128 + r % 64)] := by
 have v : Utf8.valid (r : Int) = true := by simp [Utf8.valid]; omega
 have c1 : ¬ r < 128 := by omega
 simp [encR, Utf8.encode, v, c1, c2, c3]
theorem encR_4 (r : Nat) (c3 : ¬ r < 65536) (c4 : r ≤ 1114111) : encR (r : Int) = [UInt8.ofNat (240 + r / 262144), UInt8.ofNat (128 + r / 4096 % 64), UInt8.ofNat (128 + r / 64 % 64), UInt8.ofNat (128 + r % 64)] := by
 have v : Utf8.valid (r : Int) = true := by simp [Utf8.valid]; omega
 have c1 : ¬ r < 128 := by omega
 have c2 : ¬ r < 2048 := by omega
 simp [encR, Utf8.encode, v, c1, c2, c3]
theorem ofN {n : Nat} (h : n < 256) : (UInt8.ofNat n).toNat = n := by
 show n % 256 = n; omega
theorem enc_dec {l : LB} (hl : l ≠ []) (h : badR (decodeL l) = false) : encR ((decodeL l).1 : Int) = l.take (decodeL l).2 := by
 have hb : ¬ ((decodeL l).1 = 65533 ∧ (decodeL l).2 = 1) := fun hh => by unfold badR at h; rw [dT hh] at h; cases h
 rw [← Lib.encode_decode l hl hb]
 have hnum : ∀ (a b : LB), a.map (fun x : UInt8 => (x.toNat : Int)) = b.map (fun x : UInt8 => (x.toNat : Int)) → a = b := by
  intro a
  induction a with
  | nil => intro b hb; cases b with
   | nil => rfl
   | cons _ _ => cases hb
  | cons x a ih => intro b hb; cases b with
   | nil => cases hb
   | cons y b =>
    simp only [List.map_cons, List.cons.injEq] at hb
    have : x = y := by apply UInt8.toNat_inj.1; omega
    rw [this, ih b hb.2]
 apply hnum
 generalize (decodeL l).1 = r
 have hz : (Lib.encodeRune (r : Int)).map (fun x : UInt8 => (x.toNat : Int)) = Lib.encodeRuneZ (r : Int) := by
  unfold Lib.encodeRune
  rw [List.map_map]
  conv => rhs; rw [← List.map_id (Lib.encodeRuneZ (r : Int))]
  refine List.map_congr_left fun x hx => ?_
  have := Lib.encodeRuneZ_byte (r : Int) x hx
  show ((UInt8.ofNat x.toNat).toNat : Int) = x
  rw [ofN (by omega)]; omega
 rw [hz]
 by_cases c1 : r < 128
 ·rw [encR_1 r c1, Lib.encodeRuneZ_one (by omega) (by omega)]; simp [ofN (show r < 256 by omega)]
 by_cases c2 : r < 2048
 ·rw [encR_2 r c1 c2, Lib.encodeRuneZ_two (by omega) (by omega)]
  simp only [List.map_cons, List.map_nil]
  rw [ofN (show 192 + r / 64 < 256 by omega), ofN (show 128 + r % 64 < 256 by omega)]
  simp
 by_cases hb' : (55296 ≤ r ∧ r ≤ 57343) ∨ 1114111 < r
 ·rw [Lib.encodeRuneZ_bad (by omega)]
  have v : Utf8.valid (r : Int) = false := by simp [Utf8.valid]; omega
  simp [encR, Utf8.encode, v, Utf8.runeError]
 by_cases c3 : r < 65536
 ·rw [encR_3 r c2 c3 (by omega), Lib.encodeRuneZ_three (by omega)]
  simp only [List.map_cons, List.map_nil]
  rw [ofN (show 224 + r / 4096 < 256 by omega), ofN (show 128 + r / 64 % 64 < 256 by omega), ofN (show 128 + r % 64 < 256 by omega)]
  simp
 ·rw [encR_4 r c3 (by omega), Lib.encodeRuneZ_four (by omega) (by omega)]
  simp only [List.map_cons, List.map_nil]
  rw [ofN (show 240 + r / 262144 < 256 by omega), ofN (show 128 + r / 4096 % 64 < 256 by omega), ofN (show 128 + r / 64 % 64 < 256 by omega), ofN (show 128 + r % 64 < 256 by omega)]
  simp
theorem expand_at {p w R : LB} {i : Nat} {r : Int} (hp : p.length ≤ 1073741824) (h : p.drop i = 38 :: (w ++ 59 :: R)) (hw : (59 : UInt8) ∉ w) (hm : F_refer_meant w = some (r, 0)) : F_refer_Expand p (i : Int) = some (r, ((i + w.length + 2 : Nat) : Int), 0) := by
 have hlt := drop_lt h
 have hl : p.length = i + (w.length + R.length + 2) := by
  have := congrArg List.length h
  rw [List.length_drop] at this; simp at this; omega
 have hg : p[i] = 38 := by
  have := drop_get h
  rw [List.getElem?_eq_getElem hlt] at this
  exact Option.some.inj this
 unfold F_refer_Expand
 simp only [letJ]
 rw [dF (show ¬ (i : Int) < 0 by omega), dF (show ¬ (p.length : Int) ≤ (i : Int) by omega), show (false || false) = false from rfl, cF, idx_some hlt, bS, hg,
  show (((38 : UInt8).toNat : Int) != 38) = false from rfl, cF, slc_drop (Nat.le_of_lt hlt), bS]
 unfold L_bIndexByte
 rw [bS, show (59 : Int).toNat.toUInt8 = 59 from rfl]
 have hix : Lib.indexByte (p.drop i) 59 = ((w.length + 1 : Nat) : Int) := by
  refine ixB_of (by rw [h]; simp) fun k hk => ?_
  rw [h]
  cases k with
  | zero => simp
  | succ k =>
   rw [List.getElem?_cons_succ, List.getElem?_append_left (by omega)]
   exact fun hc => hw (List.mem_of_getElem? hc)
 rw [hix, dF (by omega), cF, w64 (x := (i : Int) + 1) (by omega) (by omega), w64 (x := (i : Int) + ((w.length + 1 : Nat) : Int)) (by omega) (by omega)]
 have hsl : slc p ((i : Int) + 1) ((i : Int) + ((w.length + 1 : Nat) : Int)) = some w := by
  unfold slc; rw [if_pos (by omega), show ((i : Int) + 1).toNat = i + 1 by omega, show ((i : Int) + ((w.length + 1 : Nat) : Int)).toNat - (i + 1) = w.length by omega, drop_go1 h, List.take_left]
 rw [hsl, bS, hm, bS]
 rw [show (((r, 0) : Int × Int).2 != 0) = false from rfl, cF, w64 (by omega) (by omega)]
 congr 3
theorem read_good {p : LB} {v : Bool} {i : Nat} {l : LB} (hi : i < p.length) (hp : p.length ≤ 1073741824) (hb : badR (decodeL (p.drop i)) = false) (hc : charP ((decodeL (p.drop i)).1 : Int) = true)
  (h60 : (decodeL (p.drop i)).1 ≠ 60) (hx : v = true ∨ ([93, 93, 62] : LB).isPrefixOf (p.drop i) = false) (rec) :
  F_refer_read_l0 p v rec (l, (i : Int)) = cond (((decodeL (p.drop i)).1 : Int) == (38 : Int)) ((F_refer_Expand p (i : Int)).bind fun x101 => cond (x101.2.2 != (0 : Int)) (some (.inr (([] : LB), (i : Int), x101.2.2))) ((app 1 l (encR x101.1)).bind fun _ => rec ((l ++ encR x101.1), x101.2.1)))
   (cond (v && (((((decodeL (p.drop i)).1 : Int) == (9 : Int)) || (((decodeL (p.drop i)).1 : Int) == (10 : Int))) || (((decodeL (p.drop i)).1 : Int) == (13 : Int)))) ((app 1 l (encR 32)).bind fun _ => rec ((l ++ encR 32), ((i + (decodeL (p.drop i)).2 : Nat) : Int))) ((app 1 l (encR ((decodeL (p.drop i)).1 : Int))).bind fun _ => rec ((l ++ encR ((decodeL (p.drop i)).1 : Int)), ((i + (decodeL (p.drop i)).2 : Nat) : Int)))) := by
 unfold F_refer_read_l0
 simp only [letJ]
 rw [dT (by omega), cT, F_next p i hi hp, hb, hc, if_neg (by simp), if_pos rfl, bS]
 dsimp only
 rw [show (((0 : Int)) != 0) = false from rfl, cF, show (((decodeL (p.drop i)).1 : Int) == (60 : Int)) = false by rw [beq_eq_false_iff_ne]; omega, cF]
 rcases hx with rfl | hx
 ·rfl
 ·cases v with
  | true => rfl
  | false =>
   simp only [Bool.not_false, cT, slc_drop (Nat.le_of_lt hi), bS, hasPrefix_eq, hx, cF]
   rfl
theorem read_plain {p : LB} {v : Bool} {i : Nat} {l : LB} (hi : i < p.length) (hp : p.length ≤ 1073741824) (hl : l.length ≤ 4 * i) (hb : badR (decodeL (p.drop i)) = false) (hc : charP ((decodeL (p.drop i)).1 : Int) = true)
  (h60 : (decodeL (p.drop i)).1 ≠ 60) (h38 : (decodeL (p.drop i)).1 ≠ 38) (hv : v = true → (decodeL (p.drop i)).1 ≠ 9 ∧ (decodeL (p.drop i)).1 ≠ 10 ∧ (decodeL (p.drop i)).1 ≠ 13) (hx : v = true ∨ ([93, 93, 62] : LB).isPrefixOf (p.drop i) = false) (rec) :
  F_refer_read_l0 p v rec (l, (i : Int)) = rec ((l ++ encR ((decodeL (p.drop i)).1 : Int)), ((i + (decodeL (p.drop i)).2 : Nat) : Int)) := by
 have e4 : ∀ r, (encR r).length ≤ 4 := enc_len
 have := e4 ((decodeL (p.drop i)).1 : Int)
 rw [read_good hi hp hb hc h60 hx, show (((decodeL (p.drop i)).1 : Int) == (38 : Int)) = false by rw [beq_eq_false_iff_ne]; omega, cF]
 have hw : (v && (((((decodeL (p.drop i)).1 : Int) == (9 : Int)) || (((decodeL (p.drop i)).1 : Int) == (10 : Int))) || (((decodeL (p.drop i)).1 : Int) == (13 : Int)))) = false := by
  cases v with
  | false => rfl
  | true =>
   obtain ⟨q1, q2, q3⟩ := hv rfl
   rw [show (((decodeL (p.drop i)).1 : Int) == (9 : Int)) = false by rw [beq_eq_false_iff_ne]; omega, show (((decodeL (p.drop i)).1 : Int) == (10 : Int)) = false by rw [beq_eq_false_iff_ne]; omega, show (((decodeL (p.drop i)).1 : Int) == (13 : Int)) = false by rw [beq_eq_false_iff_ne]; omega]
   rfl
 rw [hw, cF, app_some (by omega) (by omega), bS]
theorem read_ref {p w R : LB} {v : Bool} {i : Nat} {l : LB} {r : Int} (hp : p.length ≤ 1073741824) (hl : l.length ≤ 4 * i) (h : p.drop i = 38 :: (w ++ 59 :: R)) (hw : (59 : UInt8) ∉ w) (hm : F_refer_meant w = some (r, 0)) (rec) :
  F_refer_read_l0 p v rec (l, (i : Int)) = rec ((l ++ encR r), ((i + w.length + 2 : Nat) : Int)) := by
 have e4 : ∀ r, (encR r).length ≤ 4 := enc_len
 have := e4 r
 have hi := drop_lt h
 have hd : decodeL (p.drop i) = (38, 1) := by rw [h, dec_ascii _ _ (by decide)]; rfl
 rw [read_good hi hp (by rw [hd]; decide) (by rw [hd]; decide) (by rw [hd]; decide) (.inr (by rw [h]; rfl)), hd]
 rw [show ((((38, 1) : Nat × Nat).1 : Int) == (38 : Int)) = true from rfl, cT, expand_at hp h hw hm, bS]
 dsimp only
 rw [show (((0 : Int)) != 0) = false from rfl, cF, app_some (by omega) (by omega), bS]
def Esc (v : Bool) (E : UInt8 → LB) : Prop := ∀ c : UInt8, (c.toNat < 128 → charP (c.toNat : Int) = true) →
 (E c = [c] ∧ c ≠ 60 ∧ c ≠ 38 ∧ (v = true → c ≠ 9 ∧ c ≠ 10 ∧ c ≠ 13) ∧ (v = false → c ≠ 62)) ∨ (c.toNat < 128 ∧ ∃ w, E c = 38 :: (w ++ [59]) ∧ (59 : UInt8) ∉ w ∧ (62 : UInt8) ∉ w ∧ F_refer_meant w = some ((c.toNat : Int), 0))
theorem iter_one {σ ρ : Type} {b : (σ → Option ρ) → σ → Option ρ} {n : Nat} {x y : σ} (h : ∀ rec, b rec x = rec y) : iter b (n + 1) x = iter b n y := by rw [iter_succ, h]
theorem read_esc {E : UInt8 → LB} {v : Bool} (hE : Esc v E) {t : LB} (ht : OkT t) : ∀ (W pre l : LB) (m : Nat), W = pre ++ t.flatMap E → W.length ≤ 1073741824 → (v = false → (62 : UInt8) ∉ W) → l.length ≤ 4 * pre.length → t.length < m →
  iter (F_refer_read_l0 W v) m (l, (pre.length : Int)) = some (.inl (l ++ t)) := by
 induction ht with
 | nil =>
  intro W pre l m hW hl hg hle hm
  obtain ⟨m, rfl⟩ : ∃ k, m = k + 1 := ⟨m - 1, by omega⟩
  rw [List.flatMap_nil, List.append_nil] at hW
  subst hW
  rw [iter_succ]
  unfold F_refer_read_l0
  dsimp only
  rw [dF (by omega), cF, List.append_nil]
 | @cons t h1 h2 h3 h4 ih =>
  intro W pre l m hW hl hg hle hm
  obtain ⟨m, rfl⟩ : ∃ k, m = k + 1 := ⟨m - 1, by omega⟩
  have hx : v = true ∨ ([93, 93, 62] : LB).isPrefixOf (W.drop pre.length) = false := by
   cases v with
   | true => exact .inl rfl
   | false =>
    right
    cases hp : ([93, 93, 62] : LB).isPrefixOf (W.drop pre.length) with
    | false => rfl
    | true =>
     rw [List.isPrefixOf_iff_prefix] at hp
     obtain ⟨z, hz⟩ := hp
     exact absurd (List.mem_of_mem_drop (hz ▸ (by simp : (62 : UInt8) ∈ [93, 93, 62] ++ z))) (hg rfl)
  have hdrop : W.drop pre.length = t.flatMap E := by rw [hW, List.drop_left]
  cases t with
  | nil => exact absurd rfl h1
  | cons c t' =>
  by_cases hc : c.toNat < 128
  ·have hd := dec_ascii c t' hc
   rw [hd] at h3 ih
   have henc : encR (c.toNat : Int) = [c] := by rw [encR_1 _ hc]; simp
   rcases hE c (fun _ => h3) with ⟨e1, e2, e3, e4, e5⟩ | ⟨_, w, e1, e2, e3, e4⟩
   ·rw [List.flatMap_cons, e1, List.singleton_append] at hdrop hW
    have hdW : decodeL (W.drop pre.length) = (c.toNat, 1) := by rw [hdrop, dec_ascii _ _ hc]
    have hn : ∀ n : Nat, c.toNat = n → n < 256 → c = UInt8.ofNat n := fun n hn hlt => by rw [← hn]; simp
    rw [iter_one (read_plain (drop_lt hdrop) hl hle (by rw [hdW]; rw [hd] at h2; exact h2) (by rw [hdW]; exact h3) (by rw [hdW]; exact fun h => e2 (hn 60 h (by decide))) (by rw [hdW]; exact fun h => e3 (hn 38 h (by decide)))
     (fun hv => by rw [hdW]; exact ⟨fun h => (e4 hv).1 (hn 9 h (by decide)), fun h => (e4 hv).2.1 (hn 10 h (by decide)), fun h => (e4 hv).2.2 (hn 13 h (by decide))⟩) hx), hdW]
    dsimp only
    rw [henc, show pre.length + 1 = (pre ++ [c]).length by simp]
    have := ih W (pre ++ [c]) (l ++ [c]) m (by rw [hW]; simp) hl hg (by simp; omega) (by simp at hm ⊢; omega)
    rw [this]
    simp
   ·have hdrop' : W.drop pre.length = 38 :: (w ++ 59 :: t'.flatMap E) := by rw [hdrop, List.flatMap_cons, e1]; simp
    rw [iter_one (read_ref hl hle hdrop' e2 e4)]
    rw [henc, show pre.length + w.length + 2 = (pre ++ E c).length by rw [e1]; simp; omega]
    have := ih W (pre ++ E c) (l ++ [c]) m (by rw [hW, List.flatMap_cons]; simp) hl hg (by rw [e1]; simp; omega) (by simp at hm ⊢; omega)
    rw [this]
    simp
  ·have hp := dec_pos h1
   obtain ⟨_, _, _, d4⟩ := dec_bytes (c :: t') 0 (by simp)
   rw [List.drop_zero] at d4
   generalize hT : c :: t' = T at *
   have hu : ∀ b ∈ T.take (decodeL T).2, E b = [b] := by
    intro b hb
    have hb128 : 128 ≤ b.toNat := by
     obtain ⟨k, hk⟩ := List.mem_iff_getElem?.1 hb
     have hkl : k < (decodeL T).2 := by
      have := (List.getElem?_eq_some_iff.1 hk).1
      rw [List.length_take] at this; omega
     rw [List.getElem?_take_of_lt hkl] at hk
     cases k with
     | zero =>
      rw [← hT] at hk
      have : c = b := by simpa using hk
      rw [← this]; omega
     | succ k =>
      have := d4 (k + 1) (by omega) hkl
      rw [Nat.zero_add] at this
      simp [List.getD, hk] at this
      exact this
    rcases hE b (fun h => by omega) with ⟨e1, _⟩ | ⟨e1, _⟩
    ·exact e1
    ·omega
   have hfu : (T.take (decodeL T).2).flatMap E = T.take (decodeL T).2 := by
    have : ∀ u : LB, (∀ b ∈ u, E b = [b]) → u.flatMap E = u := by
     intro u
     induction u with
     | nil => intro _; rfl
     | cons b u ih => intro h; rw [List.flatMap_cons, h b List.mem_cons_self, ih (fun d hd => h d (List.mem_cons_of_mem _ hd))]; rfl
    exact this _ hu
   have hsp : T.flatMap E = T.take (decodeL T).2 ++ (T.drop (decodeL T).2).flatMap E := by
    conv => lhs; rw [← List.take_append_drop (decodeL T).2 T]
    rw [List.flatMap_append, hfu]
   have hune : T.take (decodeL T).2 ≠ [] := fun h => by
    have := congrArg List.length h
    rw [List.length_take, List.length_nil] at this; omega
   have hdW : decodeL (W.drop pre.length) = decodeL T := by
    rw [hdrop, hsp, dec_app hune (by rw [dec_take h1 h2]; exact h2), dec_take h1 h2]
   have henc := enc_dec h1 h2
   have hr : 128 ≤ (decodeL T).1 := by
    rcases Nat.lt_or_ge (decodeL T).1 128 with hlt | hge
    ·exfalso
     rw [encR_1 _ hlt] at henc
     have h0 : (T.take (decodeL T).2)[0]? = some (UInt8.ofNat (decodeL T).1) := by rw [← henc]; rfl
     rw [List.getElem?_take_of_lt (by omega), ← hT] at h0
     have : c = UInt8.ofNat (decodeL (c :: t')).1 := by simpa using h0
     rw [this, hT, ofN (by omega)] at hc
     omega
    ·exact hge
   have hlt : pre.length < W.length := by
    have := congrArg List.length hdrop
    rw [hsp, List.length_drop, List.length_append, List.length_take] at this
    omega
   rw [iter_one (read_plain hlt hl hle (by rw [hdW]; exact h2) (by rw [hdW]; exact h3) (by rw [hdW]; omega) (by rw [hdW]; omega) (fun _ => by rw [hdW]; omega) hx), hdW, henc]
   have hlen : (T.take (decodeL T).2).length = (decodeL T).2 := by rw [List.length_take]; omega
   rw [show pre.length + (decodeL T).2 = (pre ++ T.take (decodeL T).2).length by rw [List.length_append, hlen]]
   have := ih W (pre ++ T.take (decodeL T).2) (l ++ T.take (decodeL T).2) m (by rw [hW, hsp]; simp) hl hg (by rw [List.length_append, List.length_append, hlen]; omega) (by rw [List.length_drop]; omega)
   rw [this, List.append_assoc, List.take_append_drop]
theorem read_back {E : UInt8 → LB} {v : Bool} (hE : Esc v E) {t : LB} (ht : OkT t) (hl : (t.flatMap E).length ≤ 1073741824) (htl : t.length ≤ 1073741824) (hg : v = false → (62 : UInt8) ∉ t.flatMap E) : F_refer_read (t.flatMap E) v = some (t, 0, 0) := by
 have := read_esc hE ht (t.flatMap E) [] [] FUEL rfl hl hg (by simp) (by unfold FUEL; omega)
 unfold F_refer_read
 simp only [letJ]
 rw [show (([] : LB).length : Int) = 0 from rfl, List.nil_append] at this
 rw [this]
 rfl
def escF (bs : LB) (rs : List LB) (c : UInt8) : LB := (bs.zip rs).foldl (fun t x => if c = x.1 then x.2 else t) [c]
theorem escF_len (bs : LB) (rs : List LB) (hr : ∀ r ∈ rs, r.length ≤ 8) (c : UInt8) : (escF bs rs c).length ≤ 8 := by
 unfold escF
 have : ∀ (l : List (UInt8 × LB)) (t : LB), (∀ x ∈ l, x.2.length ≤ 8) → t.length ≤ 8 → (l.foldl (fun t x => if c = x.1 then x.2 else t) t).length ≤ 8 := by
  intro l
  induction l with
  | nil => intro t _ h; exact h
  | cons x l ih =>
   intro t hl h
   rw [List.foldl_cons]
   refine ih _ (fun y hy => hl y (List.mem_cons_of_mem _ hy)) ?_
   split
   ·exact hl x List.mem_cons_self
   ·exact h
 exact this _ _ (fun x hx => hr _ (List.of_mem_zip hx).2) (by simp)
theorem flatMap_len {E : UInt8 → LB} (hE : ∀ c, (E c).length ≤ 8) : ∀ t : LB, (t.flatMap E).length ≤ 8 * t.length
 | [] => by simp
 | c :: t => by
  have := hE c
  have := flatMap_len hE t
  rw [List.flatMap_cons, List.length_append, List.length_cons]; omega
theorem slc_one {p : LB} {i : Nat} (hi : i < p.length) : slc p (i : Int) ((i + 1 : Nat) : Int) = some [p[i]] := by
 unfold slc
 rw [if_pos (by omega), Int.toNat_natCast, Int.toNat_natCast, show i + 1 - i = 1 by omega, drop_ne hi]
 rfl
theorem cat_some {a b : LB} (h : a.length + b.length ≤ 9223372036854775807) : cat a b = some (a ++ b) := by unfold cat; rw [if_pos h]
theorem written_eq (p bs : LB) (rs : List LB) (hp : p.length ≤ 134217728) (hb : bs.length ≤ 6) (hl : rs.length = 6) (hr : ∀ r ∈ rs, r.length ≤ 8) : F_lecternref02_written p bs rs = some (p.flatMap (escF bs rs)) := by
 have inner : ∀ (i : Nat) (hi : i < p.length), iter (F_lecternref02_written_l1 p bs rs (i : Int)) FUEL ([p[i]], (0 : Int)) = some (escF bs rs p[i]) := by
  intro i hi
  have hz : (bs.zip rs).length = bs.length := by rw [List.length_zip]; omega
  obtain ⟨o, e1, e2⟩ := iter_spec (b := F_lecternref02_written_l1 p bs rs (i : Int)) (fun k x => x = (((bs.zip rs).take k).foldl (fun t x => if p[i] = x.1 then x.2 else t) [p[i]], (k : Int))) (fun o => o = escF bs rs p[i]) bs.length (x0 := ([p[i]], (0 : Int))) (by simp) (by
   rintro k _ rec hk rfl
   left
   refine ⟨_, ?_, rfl⟩
   unfold F_lecternref02_written_l1
   simp only [letJ]
   have hk2 : k < rs.length := by omega
   rw [dT (by omega), cT, idx_some hi, bS, idx_some hk, bS, w64 (by omega) (by omega)]
   have hzk : (bs.zip rs)[k]? = some (bs[k], rs[k]) := by rw [List.getElem?_eq_getElem (by omega)]; simp
   rw [List.take_add_one, hzk, Option.toList_some, List.foldl_append, List.foldl_cons, List.foldl_nil]
   have hN : idxN 6 rs (k : Int) = some rs[k] := by unfold idxN; rw [if_pos (by omega), idx_some hk2]
   by_cases he : p[i] = bs[k]
   ·rw [if_pos he, he, beq_self_eq_true, cT, hN, bS]; rfl
   ·rw [if_neg he, show ((p[i].toNat : Int) == (bs[k].toNat : Int)) = false by rw [beq_eq_false_iff_ne]; intro h; exact he (UInt8.toNat_inj.1 (by omega)), cF]; rfl) (by
   rintro _ rec rfl
   refine ⟨_, ?_, rfl⟩
   unfold F_lecternref02_written_l1
   dsimp only
   rw [dF (by omega), cF, List.take_of_length_le (by omega)]
   rfl) (n := FUEL) (by unfold FUEL; omega)
  rw [e1, e2]
 obtain ⟨o, e1, e2⟩ := iter_spec (b := F_lecternref02_written_l0 p bs rs) (fun i x => x = ((p.take i).flatMap (escF bs rs), (i : Int))) (fun o => o = p.flatMap (escF bs rs)) p.length (x0 := (([] : LB), (0 : Int))) (by simp) (by
  rintro i _ rec hi rfl
  left
  refine ⟨_, ?_, rfl⟩
  unfold F_lecternref02_written_l0
  simp only [letJ]
  have h1 := flatMap_len (escF_len bs rs hr) (p.take i)
  have h2 := escF_len bs rs hr p[i]
  rw [List.length_take] at h1
  rw [dT (by omega), cT, w64 (by omega) (by omega), show (i : Int) + 1 = ((i + 1 : Nat) : Int) by omega, slc_one hi, bS, inner i hi, bS, cat_some (by omega), bS,
   List.take_add_one, List.getElem?_eq_getElem hi, Option.toList_some, List.flatMap_append, List.flatMap_singleton]) (by
  rintro _ rec rfl
  refine ⟨_, ?_, rfl⟩
  unfold F_lecternref02_written_l0
  dsimp only
  rw [dF (by omega), cF, List.take_length]) (n := FUEL) (by unfold FUEL; omega)
 unfold F_lecternref02_written
 simp only [letJ]
 rw [e1, bS, e2]
def txE (c : UInt8) : LB := if c = 38 then [38, 97, 109, 112, 59] else if c = 60 then [38, 108, 116, 59] else if c = 62 then [38, 103, 116, 59] else if c = 13 then [38, 35, 49, 51, 59] else [c]
def quE (c : UInt8) : LB := if c = 38 then [38, 97, 109, 112, 59] else if c = 60 then [38, 108, 116, 59] else if c = 34 then [38, 113, 117, 111, 116, 59] else if c = 9 then [38, 35, 57, 59] else if c = 10 then [38, 35, 49, 48, 59] else if c = 13 then [38, 35, 49, 51, 59] else [c]
def apE (c : UInt8) : LB := if c = 38 ∨ c = 60 ∨ c = 39 ∨ c.toNat < 32 then [38, 35, UInt8.ofNat (48 + c.toNat / 100), UInt8.ofNat (48 + c.toNat / 10 % 10), UInt8.ofNat (48 + c.toNat % 10), 59] else [c]
theorem quote_w (p : LB) (hp : p.length ≤ 134217728) : F_lecternref02_Quote p = some (p.flatMap quE) := by
 unfold F_lecternref02_Quote
 rw [written_eq p _ _ hp (by decide) rfl (by decide), bS]
 have : escF ([38, 60, 34, 9, 10, 13] : LB) ([([38, 97, 109, 112, 59] : LB), ([38, 108, 116, 59] : LB), ([38, 113, 117, 111, 116, 59] : LB), ([38, 35, 57, 59] : LB), ([38, 35, 49, 48, 59] : LB), ([38, 35, 49, 51, 59] : LB)] : List LB) = quE := by
  funext c
  have h : ∀ c : UInt8, decide (escF ([38, 60, 34, 9, 10, 13] : LB) ([([38, 97, 109, 112, 59] : LB), ([38, 108, 116, 59] : LB), ([38, 113, 117, 111, 116, 59] : LB), ([38, 35, 57, 59] : LB), ([38, 35, 49, 48, 59] : LB), ([38, 35, 49, 51, 59] : LB)] : List LB) c = quE c) = true := all_u8 (by decide +kernel)
  exact of_decide_eq_true (h c)
 rw [this]
theorem esc_qu : Esc true quE := by
 intro c hc
 by_cases h1 : c = 38
 ·subst h1; exact .inr ⟨by decide, [97, 109, 112], rfl, by decide, by decide, by kernel_rfl⟩
 by_cases h2 : c = 60
 ·subst h2; exact .inr ⟨by decide, [108, 116], rfl, by decide, by decide, by kernel_rfl⟩
 by_cases h3 : c = 34
 ·subst h3; exact .inr ⟨by decide, [113, 117, 111, 116], rfl, by decide, by decide, by kernel_rfl⟩
 by_cases h4 : c = 9
 ·subst h4; exact .inr ⟨by decide, [35, 57], rfl, by decide, by decide, by kernel_rfl⟩
 by_cases h5 : c = 10
 ·subst h5; exact .inr ⟨by decide, [35, 49, 48], rfl, by decide, by decide, by kernel_rfl⟩
 by_cases h6 : c = 13
 ·subst h6; exact .inr ⟨by decide, [35, 49, 51], rfl, by decide, by decide, by kernel_rfl⟩
 ·exact .inl ⟨by unfold quE; rw [if_neg h1, if_neg h2, if_neg h3, if_neg h4, if_neg h5, if_neg h6], h2, h1, fun _ => ⟨h4, h5, h6⟩, fun h => (by cases h)⟩
theorem esc_ap : Esc true apE := by
 intro c hc
 by_cases h1 : c = 38
 ·subst h1; exact .inr ⟨by decide, [35, 48, 51, 56], rfl, by decide, by decide, by kernel_rfl⟩
 by_cases h2 : c = 60
 ·subst h2; exact .inr ⟨by decide, [35, 48, 54, 48], rfl, by decide, by decide, by kernel_rfl⟩
 by_cases h3 : c = 39
 ·subst h3; exact .inr ⟨by decide, [35, 48, 51, 57], rfl, by decide, by decide, by kernel_rfl⟩
 by_cases h4 : c = 9
 ·subst h4; exact .inr ⟨by decide, [35, 48, 48, 57], rfl, by decide, by decide, by kernel_rfl⟩
 by_cases h5 : c = 10
 ·subst h5; exact .inr ⟨by decide, [35, 48, 49, 48], rfl, by decide, by decide, by kernel_rfl⟩
 by_cases h6 : c = 13
 ·subst h6; exact .inr ⟨by decide, [35, 48, 49, 51], rfl, by decide, by decide, by kernel_rfl⟩
 ·refine .inl ⟨?_, h2, h1, fun _ => ⟨h4, h5, h6⟩, fun h => (by cases h)⟩
  unfold apE
  refine if_neg ?_
  rintro (h | h | h | h)
  ·exact h1 h
  ·exact h2 h
  ·exact h3 h
  ·have hp := hc (by omega)
   have : ∀ c : UInt8, (!(decide (c.toNat < 32) && charP (c.toNat : Int)) || (decide (c = 9 ∨ c = 10 ∨ c = 13))) = true := all_u8 (by decide +kernel)
   have h7 := this c
   rw [dT h, hp] at h7
   simp at h7
   rcases h7 with h7 | h7 | h7
   ·exact h4 h7
   ·exact h5 h7
   ·exact h6 h7

def NameAt (x : LB) : Prop := ∃ (U : LB) (i : Nat) (c : UInt8) (y : LB) (s : TS), U.length ≤ 65536 ∧ U.drop i = x ++ c :: y ∧ c.toNat < 128 ∧ F_scan_scanner_name ⟨U, (i : Int)⟩ = some ((x, 0), s) ∧ OkT x ∧ (13 : UInt8) ∉ x
theorem nameAt_ok {x : LB} (h : NameAt x) : OkT x ∧ (13 : UInt8) ∉ x := by
 obtain ⟨_, _, _, _, _, _, _, _, _, h⟩ := h
 exact h
theorem nameAt_read {x : LB} (h : NameAt x) {V z : LB} {i : Nat} {d : UInt8} (hV : V.length ≤ 1073741824) (e : V.drop i = x ++ d :: z) (hd : d.toNat < 128) (hs : ∀ i k, stopN i k (d.toNat : Int) = true) :
  F_scan_scanner_name ⟨V, (i : Int)⟩ = some ((x, 0), ⟨V, ((i + x.length : Nat) : Int)⟩) := by
 obtain ⟨U, i', c, y, s, hU, eU, hc, hn, _⟩ := h
 have hi : i ≤ V.length := by
  have := congrArg List.length e
  rw [List.length_drop, List.length_append, List.length_cons] at this; omega
 have hi' : i' ≤ U.length := by
  have := congrArg List.length eU
  rw [List.length_drop, List.length_append, List.length_cons] at this; omega
 exact (name_move (by omega) hV hi' hi eU e hc hd hs hn).2
theorem nameAt_head {x : LB} (h : NameAt x) : ∃ c x', x = c :: x' ∧ (c.toNat < 128 → stopN 0 0 (c.toNat : Int) = false) := by
 obtain ⟨U, i', c, y, s, hU, eU, hc, hn, _⟩ := h
 have hi' : i' ≤ U.length := by
  have := congrArg List.length eU
  rw [List.length_drop, List.length_append, List.length_cons] at this; omega
 cases x with
 | nil =>
  obtain ⟨v, e, j, n1, _, _, _, n5⟩ := name_sp U i' hi' (by omega)
  rw [hn] at n1
  have n1 := Option.some.inj n1
  injection n1 with n1 _
  injection n1 with n1 n2
  exact absurd n1.symm (n5 n2.symm).1
 | cons c0 x' =>
  refine ⟨c0, x', rfl, fun h128 => ?_⟩
  have := name_head hi' (by omega) hn (drop_get (eU.trans (List.cons_append ..))) h128
  rw [stop_at] at this ⊢
  exact this
theorem nameAt_ne {x : LB} (h : NameAt x) {c : UInt8} {x' : LB} (e : x = c :: x') {d : UInt8} (hd : d.toNat < 128 ∧ stopN 0 0 (d.toNat : Int) = true) : c ≠ d := by
 obtain ⟨c0, x0, rfl, h1⟩ := nameAt_head h
 injection e with e _
 rintro rfl
 subst e
 rw [h1 hd.1] at hd
 exact absurd hd.2 (by decide)
def PairsOk (ps : List TP) : Prop := ∀ p ∈ ps, NameAt p.Name ∧ OkT p.Value ∧ p.Value.length ≤ 262144
structure QW (q : UInt8) (E : UInt8 → LB) : Prop where
 hq : q = 34 ∨ q = 39
 esc : Esc true E
 no : ∀ c, q ∉ E c
 n13 : ∀ c, (13 : UInt8) ∉ E c
 ok : ∀ c, charP (c.toNat : Int) = true → c.toNat < 128 → OkT (E c)
 hi : ∀ c, 128 ≤ c.toNat → E c = [c]
 le : ∀ c, (E c).length ≤ 8
 ne : ∀ c, 1 ≤ (E c).length
theorem okT_asc : ∀ (w : LB), (∀ c ∈ w, c.toNat < 128 ∧ charP (c.toNat : Int) = true) → OkT w
 | [], _ => .nil
 | c :: w, h => okT_ascii c _ (h c List.mem_cons_self).1 (h c List.mem_cons_self).2 (okT_asc w fun d hd => h d (List.mem_cons_of_mem _ hd))
theorem qw_qu : QW 34 quE := by
 have h : ∀ c : UInt8, (decide ((34 : UInt8) ∉ quE c) && (decide ((13 : UInt8) ∉ quE c) && (decide (128 ≤ c.toNat → quE c = [c]) && (decide ((quE c).length ≤ 8 ∧ 1 ≤ (quE c).length) && ((quE c).all fun d => decide (c.toNat < 128 ∧ charP (c.toNat : Int) = true → d.toNat < 128 ∧ charP (d.toNat : Int) = true)))))) = true := all_u8 (by decide +kernel)
 have g := fun c => h c
 simp only [Bool.and_eq_true, decide_eq_true_eq, List.all_eq_true] at g
 refine ⟨.inl rfl, esc_qu, fun c => (g c).1, fun c => (g c).2.1, fun c hc h1 => ?_, fun c => (g c).2.2.1, fun c => (g c).2.2.2.1.1, fun c => (g c).2.2.2.1.2⟩
 exact okT_asc (quE c) (fun d hd => (g c).2.2.2.2 d hd ⟨h1, hc⟩)
theorem qw_ap : QW 39 apE := by
 have h : ∀ c : UInt8, (decide ((39 : UInt8) ∉ apE c) && (decide ((13 : UInt8) ∉ apE c) && (decide (128 ≤ c.toNat → apE c = [c]) && (decide ((apE c).length ≤ 8 ∧ 1 ≤ (apE c).length) && ((apE c).all fun d => decide (c.toNat < 128 ∧ charP (c.toNat : Int) = true → d.toNat < 128 ∧ charP (d.toNat : Int) = true)))))) = true := all_u8 (by decide +kernel)
 have g := fun c => h c
 simp only [Bool.and_eq_true, decide_eq_true_eq, List.all_eq_true] at g
 refine ⟨.inr rfl, esc_ap, fun c => (g c).1, fun c => (g c).2.1, fun c hc h1 => ?_, fun c => (g c).2.2.1, fun c => (g c).2.2.2.1.1, fun c => (g c).2.2.2.1.2⟩
 exact okT_asc (apE c) (fun d hd => (g c).2.2.2.2 d hd ⟨h1, hc⟩)
theorem not_mem_flat {E : UInt8 → LB} {q : UInt8} (h : ∀ c, q ∉ E c) (t : LB) : q ∉ t.flatMap E := fun hm => by
 obtain ⟨c, _, hc⟩ := List.mem_flatMap.1 hm
 exact h c hc
theorem okT_flat {E : UInt8 → LB} (hok : ∀ c, charP (c.toNat : Int) = true → c.toNat < 128 → OkT (E c)) (hhi : ∀ c, 128 ≤ c.toNat → E c = [c]) {t : LB} (ht : OkT t) : OkT (t.flatMap E) := by
 induction ht with
 | nil => exact .nil
 | @cons t h1 h2 h3 h4 ih =>
  cases t with
  | nil => exact absurd rfl h1
  | cons c t' =>
  by_cases hc : c.toNat < 128
  ·rw [dec_ascii c t' hc] at h3 ih
   rw [List.flatMap_cons]
   exact okT_app (hok c h3 hc) ih
  ·have hp := dec_pos h1
   obtain ⟨_, _, _, d4⟩ := dec_bytes (c :: t') 0 (by simp)
   rw [List.drop_zero] at d4
   have hone := okT_one h1 h2 h3
   generalize hT : c :: t' = T at *
   have hu : ∀ b ∈ T.take (decodeL T).2, E b = [b] := by
    intro b hb
    refine hhi b ?_
    obtain ⟨k, hk⟩ := List.mem_iff_getElem?.1 hb
    have hkl : k < (decodeL T).2 := by
     have := (List.getElem?_eq_some_iff.1 hk).1
     rw [List.length_take] at this; omega
    rw [List.getElem?_take_of_lt hkl] at hk
    cases k with
    | zero =>
     rw [← hT] at hk
     have : c = b := by simpa using hk
     rw [← this]; omega
    | succ k =>
     have := d4 (k + 1) (by omega) hkl
     rw [Nat.zero_add] at this
     simp [List.getD, hk] at this
     exact this
   have hfu : (T.take (decodeL T).2).flatMap E = T.take (decodeL T).2 := by
    have : ∀ u : LB, (∀ b ∈ u, E b = [b]) → u.flatMap E = u := by
     intro u
     induction u with
     | nil => intro _; rfl
     | cons b u ih => intro h; rw [List.flatMap_cons, h b List.mem_cons_self, ih (fun d hd => h d (List.mem_cons_of_mem _ hd))]; rfl
    exact this _ hu
   conv => rw [← List.take_append_drop (decodeL T).2 T]
   rw [List.flatMap_append, hfu]
   exact okT_app hone ih
def shP (q : UInt8) (E : UInt8 → LB) (ps : List TP) : LB := ps.flatMap fun p => 32 :: (p.Name ++ 61 :: q :: (p.Value.flatMap E ++ [q]))
theorem tag_l0_end2 {U : LB} (hU : U.length ≤ 1073741824) (At : Int) (Nm Tx : LB) (rf : Int) (m j : Nat) (ps : List TP) (y z : LB) (g2 : j ≤ U.length) (c0 : hereP U (sk wsP U j) [47, 62] = false) (c1 : hereP U (sk wsP U j) [62] = true) :
  iter F_scan_scanner_tag_l0 (m + 1) (U, (j : Int), (2 : Int), At, Nm, ps, Tx, rf, y, z) = some (0, ⟨U, ((sk wsP U j + 1 : Nat) : Int)⟩, ⟨2, At, Nm, ps, Tx, rf⟩) := by
 rw [show iter F_scan_scanner_tag_l0 (m + 1) (U, (j : Int), (2 : Int), At, Nm, ps, Tx, rf, y, z) = F_scan_scanner_tag_l0 (iter F_scan_scanner_tag_l0 m) (U, (j : Int), (2 : Int), At, Nm, ps, Tx, rf, y, z) from rfl]
 generalize hI : iter F_scan_scanner_tag_l0 m = I
 unfold F_scan_scanner_tag_l0
 dsimp only
 obtain ⟨s1, s2⟩ := sk_le wsP U j g2
 rw [spaces_eq U (j : Int) j g2 hU, bS, here_eq U _ _ s2, bS, c0, cF, here_eq U _ _ s2, bS, c1, cT, sign_eq U _ _ s2 hU, c1, if_pos rfl, bS]
 rfl
theorem tag_l0_more {U : LB} (hU : U.length ≤ 1073741824) (At : Int) (Nm Tx : LB) (rf : Int) (m j : Nat) (ps : List TP) (y z : LB) (g2 : j ≤ U.length) (gp : ps.length ≤ 1073741824) (c1 : hereP U (sk wsP U j) [47, 62] = false) (c2 : hereP U (sk wsP U j) [62] = false) (c3 : j < sk wsP U j)
  {nm rv val : LB} {n : Int} {k1 k2 k3 : Nat} (h1 : F_scan_scanner_name ⟨U, ((sk wsP U j : Nat) : Int)⟩ = some ((nm, 0), ⟨U, (k1 : Int)⟩)) (h2 : F_scan_scanner_equals ⟨U, (k1 : Int)⟩ = some (0, ⟨U, (k2 : Int)⟩))
  (h3 : F_scan_scanner_quoted ⟨U, (k2 : Int)⟩ = some ((rv, 0), ⟨U, (k3 : Int)⟩)) (h4 : F_refer_ReadValue rv = some (val, n, 0)) (hno : ∀ p ∈ ps, p.Name ≠ nm) :
  iter F_scan_scanner_tag_l0 (m + 1) (U, (j : Int), (2 : Int), At, Nm, ps, Tx, rf, y, z) = iter F_scan_scanner_tag_l0 m (U, (k3 : Int), (2 : Int), At, Nm, ps ++ [⟨nm, val⟩], Tx, rf, nm, val) := by
 rw [show iter F_scan_scanner_tag_l0 (m + 1) (U, (j : Int), (2 : Int), At, Nm, ps, Tx, rf, y, z) = F_scan_scanner_tag_l0 (iter F_scan_scanner_tag_l0 m) (U, (j : Int), (2 : Int), At, Nm, ps, Tx, rf, y, z) from rfl]
 generalize hI : iter F_scan_scanner_tag_l0 m = I
 unfold F_scan_scanner_tag_l0
 dsimp only
 obtain ⟨s1, s2⟩ := sk_le wsP U j g2
 have c3' : (((sk wsP U j : Nat) : Int) == (j : Int)) = false := by rw [beq_eq_false_iff_ne]; omega
 rw [spaces_eq U (j : Int) j g2 hU, bS, here_eq U _ _ s2, bS, c1, cF, here_eq U _ _ s2, bS, c2, cF, c3', cF, h1, bS]
 dsimp only
 rw [show ((0 : Int) != 0) = false from rfl, cF, h2, bS]
 dsimp only
 rw [show ((0 : Int) != 0) = false from rfl, cF, h3, bS]
 dsimp only
 rw [show ((0 : Int) != 0) = false from rfl, cF, h4, bS]
 dsimp only
 rw [show ((0 : Int) != 0) = false from rfl, cF]
 simp only [letJ]
 rw [tag_l1_no 2 At Nm ps Tx rf ((nm, 0), ⟨U, (k1 : Int)⟩) ((rv, 0), ⟨U, (k3 : Int)⟩) gp hno, bS]
 dsimp only
 rw [app_some (by simp; omega) (by simp; omega), bS, bS]
theorem quoted_at {U rv R : LB} {i : Nat} {q : UInt8} (hU : U.length ≤ 1073741824) (hq : q = 34 ∨ q = 39) (h : U.drop i = q :: (rv ++ q :: R)) (hn : q ∉ rv) : F_scan_scanner_quoted ⟨U, (i : Int)⟩ = some ((rv, 0), ⟨U, ((i + (rv.length + 2) : Nat) : Int)⟩) := by
 have hlt := drop_lt h
 have hg : U[i]? = some q := drop_get h
 rw [quoted_eq U i (by omega) hU]
 unfold quo
 have hix : Lib.indexByte (rv ++ q :: R) q = (rv.length : Int) := by
  refine ixB_of (by simp) fun k hk => ?_
  rw [List.getElem?_append_left hk]
  exact fun hc => hn (List.mem_of_getElem? hc)
 rw [show U.getD i 0 = q by simp [List.getD, hg], drop_go1 h, hix, if_pos ⟨by rcases hq with rfl | rfl <;> simp [hereP_one, hg], by omega⟩, Int.toNat_natCast, List.take_left]
theorem readValue_of {w t : LB} (h : F_refer_read w true = some (t, 0, 0)) : F_refer_ReadValue w = some (t, 0, 0) := by
 unfold F_refer_ReadValue; rw [h, bS]
theorem stop_of {d : UInt8} (h : (d.toNat : Int) ≠ 58 ∧ partP (d.toNat : Int) = false) : ∀ i k, stopN i k (d.toNat : Int) = true := fun i k => by
 unfold stopN
 rw [h.2, show ((d.toNat : Int) != 58) = true by simpa using h.1]; rfl
theorem here_cons {U r : LB} {j : Nat} {c : UInt8} (h : U.drop j = c :: r) (d : UInt8) (w : LB) (hd : d ≠ c) : hereP U j (d :: w) = false := by
 unfold hereP; rw [h]; simp [List.isPrefixOf, hd]
def First (x w : LB) : Prop := ∀ R, Lib.index (x ++ (w ++ R)) w = (x.length : Int)
theorem flat_ge {E : UInt8 → LB} (h : ∀ c, 1 ≤ (E c).length) : ∀ v : LB, v.length ≤ (v.flatMap E).length
 | [] => by simp
 | c :: v => by
  have := h c
  have := flat_ge h v
  rw [List.flatMap_cons, List.length_append, List.length_cons]; omega
def plB (b : UInt8) : Bool := ([65, 66, 67, 68, 69, 70, 71, 72, 73, 74, 75, 76, 77, 78, 79, 80, 81, 82, 83, 84, 85, 86, 87, 88, 89, 90, 97, 98, 99, 100, 101, 102, 103, 104, 105, 106, 107, 108, 109, 110, 111, 112, 113, 114, 115, 116, 117, 118, 119, 120, 121, 122, 48, 49, 50, 51, 52, 53, 54, 55, 56, 57, 46, 95, 45] : LB).contains b
inductive DOk : Nat → List TP → LB → LB → Prop
 | done {la} : DOk 3 [] la la
 | skip {k : Nat} {ps la la'} : k < 3 → 0 < k → DOk (k + 1) ps la la' → DOk k ps la la'
 | take {k : Nat} {w v ps la la'} : k < 3 → idx DeclW (k : Int) = some w → F_scan_fits w v = some true → v.length ≤ 65536 → DOk (k + 1) ps (if w = [101, 110, 99, 111, 100, 105, 110, 103] then v else la) la' → DOk k (⟨w, v⟩ :: ps) la la'
structure QP (q : UInt8) (E : UInt8 → LB) : Prop where
 w : QW q E
 pl : ∀ b, plB b = true → E b = [b]
abbrev utf8W : LB := [117, 116, 102, 45, 56]
def Good (t : Tk) : Prop :=
 (t.Kind = 1 ∧ t.Name = [] ∧ t.Text = [] ∧ ∃ la, DOk 0 t.Pairs [] la ∧ (la = [] ∨ F_strings_EqualFold la utf8W = some true)) ∨
 ((t.Kind = 2 ∨ t.Kind = 4) ∧ NameAt t.Name ∧ PairsOk t.Pairs ∧ (nmP t.Pairs).Nodup ∧ t.Text = []) ∨
 (t.Kind = 3 ∧ NameAt t.Name ∧ t.Pairs = [] ∧ t.Text = []) ∨
 (t.Kind = 5 ∧ t.Name = [] ∧ t.Pairs = [] ∧ OkT t.Text ∧ t.Text ≠ [] ∧ t.Text.length ≤ 262144) ∨
 (t.Kind = 6 ∧ t.Name = [] ∧ t.Pairs = [] ∧ First t.Text [93, 93, 62] ∧ OkT t.Text ∧ (13 : UInt8) ∉ t.Text ∧ t.Text.length ≤ 65536) ∨
 (t.Kind = 7 ∧ t.Name = [] ∧ t.Pairs = [] ∧ First t.Text [45, 45] ∧ OkT t.Text ∧ (13 : UInt8) ∉ t.Text ∧ t.Text.length ≤ 65536) ∨
 (t.Kind = 8 ∧ NameAt t.Name ∧ t.Pairs = [] ∧ nameP t.Name = true ∧ F_strings_EqualFold t.Name [120, 109, 108] = some false ∧ t.Text.length ≤ 65536 ∧ (t.Text = [] ∨ (First t.Text [63, 62] ∧ OkT t.Text ∧ (13 : UInt8) ∉ t.Text ∧ ∀ c x, t.Text = c :: x → wsP c = false)))
def shw (q : UInt8) (E : UInt8 → LB) (t : Tk) : LB :=
 if t.Kind = 1 then [60, 63, 120, 109, 108] ++ (shP q E t.Pairs ++ [63, 62])
 else if t.Kind = 2 then 60 :: (t.Name ++ (shP q E t.Pairs ++ [62]))
 else if t.Kind = 4 then 60 :: (t.Name ++ (shP q E t.Pairs ++ [47, 62]))
 else if t.Kind = 3 then 60 :: 47 :: (t.Name ++ [62])
 else if t.Kind = 5 then t.Text.flatMap txE
 else if t.Kind = 6 then [60, 33, 91, 67, 68, 65, 84, 65, 91] ++ (t.Text ++ [93, 93, 62])
 else if t.Kind = 7 then [60, 33, 45, 45] ++ (t.Text ++ [45, 45, 62])
 else if t.Text = [] then 60 :: 63 :: (t.Name ++ [63, 62])
 else 60 :: 63 :: (t.Name ++ 32 :: (t.Text ++ [63, 62]))
theorem here_pre {U r w : LB} {i : Nat} (h : U.drop i = w ++ r) : hereP U i w = true := by
 unfold hereP; rw [h, List.isPrefixOf_iff_prefix]; exact ⟨r, rfl⟩
theorem here_no1 {U r : LB} {i : Nat} {c d : UInt8} (h : U.drop i = c :: d :: r) (a e : UInt8) (w : LB) (he : e ≠ d) : hereP U i (a :: e :: w) = false := by
 unfold hereP; rw [h]; simp [List.isPrefixOf, he]
theorem rest_tag {U r : LB} {i : Nat} {d : UInt8} (h : U.drop i = 60 :: d :: r) (h1 : d ≠ 33) (h2 : d ≠ 63) (h3 : d ≠ 47) : declP U i = false ∧ tokRest U i = F_scan_scanner_tag ⟨U, (i : Int)⟩ (tok0 i) := by
 have no := fun e w (he : e ≠ d) => here_no1 h 60 e w he
 constructor
 ·unfold declP
  by_cases h0 : i = 0
  ·subst h0; rw [no 63 _ (Ne.symm h2), Bool.false_and, Bool.and_false]
  ·rw [dF h0, Bool.false_and]
 ·unfold tokRest
  rw [no 33 _ (Ne.symm h1), cF, no 33 _ (Ne.symm h1), cF, no 33 _ (Ne.symm h1), cF, no 33 _ (Ne.symm h1), cF, no 63 _ (Ne.symm h2), cF, no 47 _ (Ne.symm h3), cF, here_pre (w := [60]) (r := d :: r) h, cT]
theorem decl_no {U r : LB} {i : Nat} {d : UInt8} (h : U.drop i = 60 :: d :: r) (hd : d ≠ 63) : declP U i = false := by
 unfold declP
 by_cases h0 : i = 0
 ·subst h0; rw [here_no1 h 60 63 _ (Ne.symm hd), Bool.false_and, Bool.and_false]
 ·rw [dF h0, Bool.false_and]
def qB (b : Bool) : UInt8 := if b then 39 else 34
def eB (b : Bool) : UInt8 → LB := if b then apE else quE
def allW (q : UInt8) (E : UInt8 → LB) (L : List Tk) : LB := L.flatMap (shw q E)
def Like (q : UInt8) (E : UInt8 → LB) (L M : List Tk) : Prop := M.length = L.length ∧ ∀ (k : Nat) (t : Tk), L[k]? = some t → ∃ n, M[k]? = some ⟨t.Kind, ((allW q E (L.take k)).length : Int), t.Name, t.Pairs, t.Text, n⟩
theorem awake_t : F_lecternlaw06_awake = some true := by kernel_rfl
abbrev Nd := T_api_Node
abbrev Op := T_parse_open
abbrev Rdr := T_parse_reader
def nd0 : Nd := ⟨0, ⟨[], []⟩, [], [], []⟩
def kid (b : Op) (n : Nd) : Op := ⟨⟨b.node.Kind, b.node.Name, b.node.Attrs, b.node.Kids ++ [n], b.node.Text⟩, b.raw, b.in_⟩
theorem topU_len {α : Type} {a : α} {l : List α} {n : Nat} (hn : n = l.length + 1) (h : l.length ≤ 1073741824) : topU (a :: l) (IntKind.wrap .i64 ((n : Int) - 1)) = some (a, l) := by
 subst hn
 unfold topU
 rw [w64 (by omega) (by omega), if_pos (by simp)]
theorem top_len {α : Type} {a : α} {l : List α} (h : l.length ≤ 1073741824) : topU (a :: l) (IntKind.wrap .i64 (((a :: l).length : Int) - 1)) = some (a, l) := topU_len (by simp) h
theorem close_eq {a b : Op} {l : List Op} {n : Int} {d : Bool} (hl : l.length ≤ 1000000) (hk : b.node.Kids.length ≤ 1000000000) :
  F_parse_reader_close ⟨a :: b :: l, n, d⟩ = some ⟨kid b a.node :: l, n, d || decide (l.length = 0)⟩ := by
 unfold F_parse_reader_close
 dsimp only
 rw [top_len (by simp; omega), bS, bS]
 dsimp only
 rw [top_len (by omega), bS, app_some (by simp only [List.length_cons, List.length_nil]; omega) (by simp only [List.length_cons, List.length_nil]; omega), bS, bS]
 simp only [letJ]
 cases d with
 | true => rfl
 | false =>
  rw [cF]
  have : (((b :: l).length : Int) == 1) = decide (l.length = 0) := by
   rw [Bool.eq_iff_iff, beq_iff_eq, decide_eq_true_eq, List.length_cons]; omega
  rw [this]; rfl
def kidT (b : Op) (s : LB) : Op := match b.node.Kids.getLast? with
 | some x => ⟨⟨b.node.Kind, b.node.Name, b.node.Attrs, b.node.Kids.dropLast ++ [⟨x.Kind, x.Name, x.Attrs, x.Kids, x.Text ++ s⟩], b.node.Text⟩, b.raw, b.in_⟩
 | none => b
def lastT (b : Op) : Option LB := match b.node.Kids.getLast? with
 | some x => if x.Kind = 3 then some x.Text else none
 | none => none
def bigA (l : List T_api_Attr) : Bool := l.any fun a => decide (64 < l.length) || decide (8192 < a.Value.length)
theorem begin_l0 (r : Rdr) (x : List T_api_Attr × Int) (hx : x.1.length ≤ 1000000000) : iter (F_parse_reader_begin_l0 r x) FUEL (0 : Int) = some (if bigA x.1 then .inr (5, r) else .inl ()) := by
 obtain ⟨l, e⟩ := x
 dsimp only at hx ⊢
 obtain ⟨o, e1, e2⟩ := iter_spec (b := F_parse_reader_begin_l0 r (l, e)) (fun i x => x = (i : Int) ∧ ∀ j (hj : j < l.length), j < i → (decide (64 < l.length) || decide (8192 < l[j].Value.length)) = false) (fun o => o = (if bigA l then .inr (5, r) else .inl ())) l.length (x0 := (0 : Int)) ⟨rfl, fun j _ h => by omega⟩ (by
  rintro i _ rec hi ⟨rfl, hs⟩
  by_cases hb : (decide (64 < l.length) || decide (8192 < l[i].Value.length)) = true
  ·right
   have hbig : bigA l = true := List.any_eq_true.2 ⟨_, List.getElem_mem hi, hb⟩
   rw [hbig]
   refine ⟨.inr (5, r), ?_, rfl⟩
   unfold F_parse_reader_begin_l0
   dsimp only
   rw [dT (by omega), cT, idx_some hi, bS]
   have : (decide ((64 : Int) < (l.length : Int)) || decide ((8192 : Int) < (l[i].Value.length : Int))) = true := by
    rw [← hb]; congr 1 <;> (rw [decide_eq_decide]; omega)
   rw [this, cT]
  ·left
   replace hb := Bool.eq_false_iff.2 hb
   refine ⟨((i + 1 : Nat) : Int), ?_, rfl, fun j hj h => ?_⟩
   ·unfold F_parse_reader_begin_l0
    dsimp only
    rw [dT (by omega), cT, idx_some hi, bS]
    have : (decide ((64 : Int) < (l.length : Int)) || decide ((8192 : Int) < (l[i].Value.length : Int))) = false := by
     rw [← hb]; congr 1 <;> (rw [decide_eq_decide]; omega)
    rw [this, cF, w64 (by omega) (by omega)]
    rfl
   ·rcases Nat.lt_or_ge j i with h1 | h1
    ·exact hs j hj h1
    ·have : j = i := by omega
     subst this; exact hb) (by
  rintro _ rec ⟨rfl, hs⟩
  have hbig : bigA l = false := by
   refine Bool.eq_false_iff.2 fun h => ?_
   obtain ⟨a, ha, hb⟩ := List.any_eq_true.1 h
   obtain ⟨j, hj, rfl⟩ := List.getElem_of_mem ha
   exact absurd hb (by rw [hs j hj hj]; simp)
  rw [hbig]
  refine ⟨.inl (), ?_, rfl⟩
  unfold F_parse_reader_begin_l0
  dsimp only
  rw [dF (by omega), cF]) (n := FUEL) (by unfold FUEL; omega)
 rw [e1, e2]
def beginP (a : Op) (l : List Op) (n : Int) (d : Bool) (t : Tk) : Option (Int × Rdr) :=
 if l.length = 0 ∧ d = true then some (30, ⟨a :: l, n, d⟩)
 else if 32 < l.length then some (31, ⟨a :: l, n, d⟩)
 else (F_scope_Scope_Open a.in_ t.Pairs).bind fun o => if o.2 ≠ 0 then some (o.2, ⟨a :: l, n, d⟩)
  else (F_scope_Scope_Element ⟨o.1.binds⟩ t.Name).bind fun q => if q.2 ≠ 0 then some (q.2, ⟨a :: l, n, d⟩)
   else (F_scope_Scope_Attrs ⟨o.1.binds⟩ t.Pairs).bind fun v => if v.2 ≠ 0 then some (v.2, ⟨a :: l, n, d⟩)
    else if bigA v.1 = true then some (5, ⟨a :: l, n, d⟩) else if v.1.length ≤ 1000000000 then some (0, ⟨⟨⟨2, q.1, v.1, [], []⟩, t.Name, ⟨o.1.binds⟩⟩ :: a :: l, n + 1, d⟩) else F_parse_reader_begin ⟨a :: l, n, d⟩ t
theorem begin_key {a : Op} {l : List Op} {n : Int} {d : Bool} (t : Tk) (hl : l.length ≤ 1000000) (c1 : ¬ (l.length = 0 ∧ d = true)) :
  F_parse_reader_begin ⟨a :: l, n, d⟩ t = (cond (decide ((32 : Int) < (l.length : Int))) (some ((31 : Int), (⟨a :: l, n, d⟩ : Rdr)))
   ((F_scope_Scope_Open a.in_ t.Pairs).bind fun o => cond (o.2 != (0 : Int)) (some (o.2, ⟨a :: l, n, d⟩))
    ((F_scope_Scope_Element ⟨o.1.binds⟩ t.Name).bind fun q => cond (q.2 != (0 : Int)) (some (q.2, ⟨a :: l, n, d⟩))
     ((F_scope_Scope_Attrs ⟨o.1.binds⟩ t.Pairs).bind fun v => cond (v.2 != (0 : Int)) (some (v.2, ⟨a :: l, n, d⟩))
      ((iter (F_parse_reader_begin_l0 ⟨a :: l, n, d⟩ v) FUEL (0 : Int)).bind fun w => match w with
       | .inl _ => (app 144 (a :: l) [(⟨⟨2, q.1, v.1, [], []⟩, t.Name, ⟨o.1.binds⟩⟩ : Op)]).bind fun _ => some ((0 : Int), (⟨⟨⟨2, q.1, v.1, [], []⟩, t.Name, ⟨o.1.binds⟩⟩ :: a :: l, IntKind.wrap .i64 (n + 1), d⟩ : Rdr))
       | .inr x => some x))))) := by
 unfold F_parse_reader_begin
 simp only [letJ]
 have e1 : (IntKind.wrap .i64 (((a :: l).length : Int) - 1)) = (l.length : Int) := by
  rw [List.length_cons, w64 (by omega) (by omega)]; omega
 have e2 : (cond (((a :: l).length : Int) == 1) d false) = false := by
  cases d with
  | false => cases (((a :: l).length : Int) == 1) <;> rfl
  | true =>
   have : (((a :: l).length : Int) == 1) = false := by
    refine Bool.eq_false_iff.2 fun h => c1 ⟨?_, rfl⟩
    simp at h; omega
   rw [this]; rfl
 cases hc : (((a :: l).length : Int) == 1) with
 | true =>
  rw [hc] at e2
  rw [cT] at e2 ⊢
  subst e2
  rw [cF, top_len (by omega), bS, e1]; rfl
 | false => rw [cF, cF, top_len (by omega), bS, e1]; rfl
inductive Row : List Tk → Prop
 | nil : Row []
 | snoc {L : List Tk} {t : Tk} : Row L → Good t → (t.Kind = 1 → L = []) → (t.Kind = 5 → ∀ u, L.getLast? = some u → u.Kind ≠ 5) → Row (L ++ [t])
theorem no_mark {w : LB} {c : UInt8} {r : LB} (h : w = c :: r) (hc : c ≠ 239) : strip w = w := by
 subst h
 unfold strip
 rw [if_neg (by intro h; simp only [bom, List.isPrefixOf, Bool.and_eq_true, beq_iff_eq] at h; exact hc h.1.symm)]
theorem pln_id {w : LB} {c : UInt8} {r : LB} (h : w = c :: r) (hc : c ≠ 239) (h13 : (13 : UInt8) ∉ w) : pln w = w := by
 unfold pln; rw [no_mark h hc, lnR_id _ h13]
def runR : List Tk → Rdr → Option (Rdr ⊕ (Int × Int))
 | [], r => some (.inl r)
 | t :: L, r => (F_parse_reader_take r t).bind fun x => if x.1 ≠ 0 then some (.inr (t.At, x.1)) else runR L x.2
def r0 : Rdr := ⟨[⟨⟨1, ⟨[], []⟩, [], [], []⟩, [], ⟨[]⟩⟩], 0, false⟩
def endP (p : LB) (r : Rdr) : Option (Nd × Int × Int) :=
 cond (decide ((1 : Int) < (r.open_.length : Int))) ((F_scan_Plain p).bind fun x => some (nd0, (x.length : Int), 26))
  (cond (!r.done) ((F_scan_Plain p).bind fun x => some (nd0, (x.length : Int), 30)) ((topU r.open_ (0 : Int)).bind fun x => some (x.1.node, 0, 0)))
theorem run_l0 (M : List Tk) (a e : Int) (hM : M.length ≤ 1073741824) : ∀ (L L0 : List Tk) (r : Rdr) (m : Nat), M = L0 ++ L → L.length < m →
  iter (F_parse_Parse_l0 (M, a, e)) m ((0 : Int), ([] : LB), ([] : LB), ([] : List T_api_Attr), ([] : List T_api_Node), ([] : LB), r.open_, r.nodes, r.done, (L0.length : Int)) =
   (runR L r).bind fun o => match o with
    | .inl r' => some (.inl ((0 : Int), ([] : LB), ([] : LB), ([] : List T_api_Attr), ([] : List T_api_Node), ([] : LB), r'.open_, r'.nodes, r'.done))
    | .inr (x, y) => some (.inr (nd0, x, y))
 | [], L0, r, m + 1, h, hm => by
  subst h
  rw [List.append_nil]
  show F_parse_Parse_l0 _ _ _ = _
  unfold F_parse_Parse_l0
  dsimp only
  rw [dF (by omega), cF]; rfl
 | t :: L, L0, r, m + 1, h, hm => by
  have hlt : L0.length < M.length := by rw [h]; simp
  have hg : M[L0.length] = t := by subst h; simp
  have ih := run_l0 M a e hM L (L0 ++ [t])
  show F_parse_Parse_l0 _ _ _ = _
  unfold F_parse_Parse_l0
  dsimp only
  rw [dT (by omega), cT, idx_some hlt, bS, hg]
  unfold runR
  have er : (⟨r.open_, r.nodes, r.done⟩ : Rdr) = r := rfl
  rw [er]
  cases ht : F_parse_reader_take r t with
  | none => rfl
  | some x =>
   rw [bS, bS]
   by_cases hx : x.1 = 0
   ·rw [show (x.1 != (0 : Int)) = false by simpa using hx, cF, if_neg (by simpa using hx), w64 (by omega) (by omega)]
    have := ih x.2 m (by rw [h]; simp) (by simp at hm; omega)
    rw [List.length_append, List.length_singleton, Int.natCast_add] at this
    exact this
   ·rw [show (x.1 != (0 : Int)) = true by simpa using hx, cT, if_pos hx]; rfl
 | [], _, _, 0, _, hm => by omega
 | _ :: _, _, _, 0, _, hm => by omega
theorem parse_eq {p : LB} {M : List Tk} {a : Int} (h : F_scan_All p = some (M, a, 0)) (hM : M.length ≤ 1073741824) :
  F_parse_Parse p = (runR M r0).bind fun o => match o with
   | .inl r => endP p r
   | .inr (x, y) => some (nd0, x, y) := by
 unfold F_parse_Parse
 rw [h, bS]
 dsimp only
 rw [show ((0 : Int) != 0) = false from rfl, cF, show F_scope_New = some ⟨[]⟩ from rfl, bS]
 have := run_l0 M a 0 hM M [] r0 FUEL rfl (by unfold FUEL; omega)
 simp only [letJ]
 rw [show ((([] : List Tk).length : Nat) : Int) = 0 from rfl] at this
 have e0 : r0.open_ = [(⟨(⟨(1 : Int), (⟨([] : LB), ([] : LB)⟩ : T_api_Name), ([] : List T_api_Attr), ([] : List T_api_Node), ([] : LB)⟩ : T_api_Node), ([] : LB), (⟨[]⟩ : T_scope_Scope)⟩ : T_parse_open)] := rfl
 have e1 : r0.nodes = 0 := rfl
 have e2 : r0.done = false := rfl
 rw [e0, e1, e2] at this
 rw [this]
 cases runR M r0 with
 | none => rfl
 | some o =>
  rw [bS, bS]
  cases o with
  | inl r => rfl
  | inr x => rfl
def fin (x : Int × Rdr) : Int × Rdr := if x.1 = 0 ∧ 2000 < x.2.nodes then (5, x.2) else x
theorem fin_eq (x : Int × Rdr) : (letJ (fun v : Bool => cond v (some ((5 : Int), x.2)) (some (x.1, x.2))) fun J => cond (x.1 == (0 : Int)) (J (decide ((2000 : Int) < x.2.nodes))) (J false)) = some (fin x) := by
 obtain ⟨e, r⟩ := x
 simp only [letJ, fin]
 by_cases he : e = 0
 ·subst he
  rw [beq_self_eq_true, cT]
  by_cases hn : 2000 < r.nodes
  ·rw [dT hn, cT, if_pos ⟨rfl, hn⟩]
  ·rw [dF hn, cF, if_neg (fun h => hn h.2)]
 ·rw [show (e == 0) = false by simpa using he, cF, cF, if_neg (fun h => he h.1)]
section
variable {r : Rdr} {t : Tk}
theorem take_2 (h : t.Kind = 2) : F_parse_reader_take r t = (F_parse_reader_begin r t).bind fun x => some (fin x) := by
 unfold F_parse_reader_take
 rw [h, show ((2 : Int) == 7) = false from rfl, show ((2 : Int) == 8) = false from rfl, show ((2 : Int) == 5) = false from rfl, show ((2 : Int) == 6) = false from rfl, beq_self_eq_true, cF, cF, cF, cF, cT]
 cases F_parse_reader_begin r t with
 | none => rfl
 | some x => exact fin_eq x
theorem take_4 (h : t.Kind = 4) : F_parse_reader_take r t = (F_parse_reader_begin r t).bind fun x => if x.1 = 0 then (F_parse_reader_close x.2).bind fun y => some (fin (0, y)) else some x := by
 unfold F_parse_reader_take
 rw [h, show ((4 : Int) == 7) = false from rfl, show ((4 : Int) == 8) = false from rfl, show ((4 : Int) == 5) = false from rfl, show ((4 : Int) == 6) = false from rfl, show ((4 : Int) == 2) = false from rfl, beq_self_eq_true, cF, cF, cF, cF, cF, cT]
 cases F_parse_reader_begin r t with
 | none => rfl
 | some x =>
  rw [bS, bS]
  by_cases hx : x.1 = 0
  ·rw [if_pos hx, show (x.1 == 0) = true by simpa using hx, cT]
   cases F_parse_reader_close x.2 with
   | none => rfl
   | some y =>
    rw [bS, bS, hx]
    unfold fin
    by_cases hn : 2000 < y.nodes
    ·rw [dT hn, cT, if_pos ⟨rfl, hn⟩]
    ·rw [dF hn, cF, if_neg (fun h => hn h.2)]
  ·rw [if_neg hx, show (x.1 == 0) = false by simpa using hx, cF]
theorem take_3 (h : t.Kind = 3) : F_parse_reader_take r t = if r.open_.length = 1 then some (26, r) else (topU r.open_ (IntKind.wrap .i64 ((r.open_.length : Int) - 1))).bind fun v => if v.1.raw = t.Name then (F_parse_reader_close r).bind fun y => some (fin (0, y)) else some (26, r) := by
 unfold F_parse_reader_take
 rw [h, show ((3 : Int) == 7) = false from rfl, show ((3 : Int) == 8) = false from rfl, show ((3 : Int) == 5) = false from rfl, show ((3 : Int) == 6) = false from rfl, show ((3 : Int) == 2) = false from rfl, show ((3 : Int) == 4) = false from rfl, beq_self_eq_true, cF, cF, cF, cF, cF, cF, cT]
 by_cases h1 : r.open_.length = 1
 ·rw [if_pos h1, h1]; rfl
 ·rw [if_neg h1, show ((r.open_.length : Int) == 1) = false by rw [beq_eq_false_iff_ne]; omega, cF]
  cases topU r.open_ (IntKind.wrap .i64 ((r.open_.length : Int) - 1)) with
  | none => rfl
  | some v =>
   rw [bS, bS]
   by_cases hv : v.1.raw = t.Name
   ·rw [if_pos hv, show (v.1.raw == t.Name) = true by simpa using hv, Bool.not_true, cF]
    cases F_parse_reader_close r with
    | none => rfl
    | some y => exact fin_eq (0, y)
   ·rw [if_neg hv, show (v.1.raw == t.Name) = false by simpa using hv, Bool.not_false, cT]
end
def el (nm : LB) : Op := ⟨⟨2, ⟨[], nm⟩, [], [], []⟩, nm, ⟨[]⟩⟩
theorem attrs_nil : ∀ s, F_scope_Scope_Attrs s [] = some ([], 0) := fun s => by kernel_rfl
def doc0 : Op := ⟨⟨1, ⟨[], []⟩, [], [], []⟩, [], ⟨[]⟩⟩
def elA : Op := el [97]
def opsA (k : Nat) : List Op := List.replicate k elA ++ [doc0]
theorem fin_ok {r : Rdr} (h : r.nodes ≤ 2000) : fin (0, r) = (0, r) := by unfold fin; rw [if_neg (fun h => by have := h.2; dsimp only at this; omega)]
def IsO (nm : LB) (k : Int) (t : Tk) : Prop := t.Kind = k ∧ t.Name = nm ∧ t.Pairs = []
def nst : Nat → Nd
 | 0 => ⟨2, ⟨[], [97]⟩, [], [], []⟩
 | j + 1 => ⟨2, ⟨[], [97]⟩, [], [nst j], []⟩
def addk (x : Nd) : List Op → List Op
 | [] => []
 | a :: l => kid a x :: l
def cs (n k : Nat) : List Op := match n - k with
 | 0 => opsA k
 | j + 1 => addk (nst j) (opsA k)
def kb (i : Nat) : Op := ⟨⟨2, ⟨[], [97]⟩, [], List.replicate i (el [98]).node, []⟩, [97], ⟨[]⟩⟩
def oA : Tk := ⟨2, 0, [97], [], [], 0⟩
def cA : Tk := ⟨3, 0, [97], [], [], 0⟩
def lB : Tk := ⟨4, 0, [98], [], [], 0⟩
def ltr (c : UInt8) : Prop := c.toNat < 128 ∧ (∀ i k, stopN i k (c.toNat : Int) = false) ∧ F_char_Split [c] = some ([], [c], true) ∧ c ≠ 33 ∧ c ≠ 63 ∧ c ≠ 47
def Rel (L M : List Tk) : Prop := ∀ (k : Nat) (t : Tk), L[k]? = some t → ∃ u, M[k]? = some u ∧ IsO t.Name t.Kind u
def SA (w : LB) (n : Nat) : LB := (List.replicate n w).flatten
def wO : LB := [60, 97, 62]
def wC : LB := [60, 47, 97, 62]
def wL : LB := [60, 98, 47, 62]
def txN (s : LB) : Nd := ⟨3, ⟨[], []⟩, [], [], s⟩
def setK (b : Op) (k : List Nd) : Op := ⟨⟨b.node.Kind, b.node.Name, b.node.Attrs, k, b.node.Text⟩, b.raw, b.in_⟩
structure Pie (w : LB) (t : Tk) : Prop where
 ok : OkT w
 n13 : (13 : UInt8) ∉ w
 ne : w ≠ []
 hd : t.Kind ≠ 5 → ∃ r, w = 60 :: r
 rd : ∀ {U R : LB} {i : Nat}, U.length ≤ 65536 → U.drop i = w ++ R → (t.Kind = 5 → R = [] ∨ R[0]? = some 60) → ∃ n, F_scan_scanner_token ⟨U, (i : Int)⟩ (tok0 i) = some (0, ⟨U, ((i + w.length : Nat) : Int)⟩, ⟨t.Kind, (i : Int), t.Name, t.Pairs, t.Text, n⟩)
inductive RowP : List (LB × Tk) → Prop
 | nil : RowP []
 | snoc {L : List (LB × Tk)} {w : LB} {t : Tk} : RowP L → Pie w t → (t.Kind = 5 → ∀ u, L.getLast? = some u → u.2.Kind ≠ 5) → RowP (L ++ [(w, t)])
def allP (L : List (LB × Tk)) : LB := L.flatMap (·.1)
theorem allP_snoc (L : List (LB × Tk)) (w : LB) (t : Tk) : allP (L ++ [(w, t)]) = allP L ++ w := by unfold allP; rw [List.flatMap_append]; simp
theorem allP_ok {L : List (LB × Tk)} (h : RowP L) : OkT (allP L) ∧ (13 : UInt8) ∉ allP L ∧ L.length ≤ (allP L).length := by
 induction h with
 | nil => exact ⟨.nil, by simp [allP], by simp⟩
 | snoc _ g _ ih =>
  rw [allP_snoc]
  have := List.length_pos_iff.2 g.ne
  exact ⟨okT_app ih.1 g.ok, by rw [List.mem_append, not_or]; exact ⟨ih.2.1, g.n13⟩, by rw [List.length_append, List.length_append, List.length_singleton]; omega⟩
def LikeP (L : List (LB × Tk)) (M : List Tk) : Prop := M.length = L.length ∧ ∀ (k : Nat) (x : LB × Tk), L[k]? = some x → ∃ n a, M[k]? = some ⟨x.2.Kind, a, x.2.Name, x.2.Pairs, x.2.Text, n⟩
theorem likeP_snoc {L : List (LB × Tk)} {M : List Tk} {w : LB} {t : Tk} {a n : Int} (h : LikeP L M) : LikeP (L ++ [(w, t)]) (M ++ [⟨t.Kind, a, t.Name, t.Pairs, t.Text, n⟩]) := by
 obtain ⟨m2, m3⟩ := h
 refine ⟨by simp [m2], fun k' x' hk' => ?_⟩
 by_cases hlt' : k' < L.length
 ·rw [List.getElem?_append_left hlt'] at hk'
  obtain ⟨n', a', hn'⟩ := m3 k' x' hk'
  exact ⟨n', a', by rw [List.getElem?_append_left (by omega), hn']⟩
 ·have hk2 : k' = L.length := by
   have := (List.getElem?_eq_some_iff.1 hk').1
   simp at this; omega
  subst hk2
  rw [List.getElem?_append_right (Nat.le_refl _), Nat.sub_self] at hk'
  have : (w, t) = x' := by simpa using hk'
  subst this
  refine ⟨n, a, ?_⟩
  rw [← m2, List.getElem?_append_right (Nat.le_refl _), Nat.sub_self]
  rfl
theorem run_pies {L : List (LB × Tk)} (h : RowP L) :
  ∀ (R : LB) (m : Nat), (∀ x, L.getLast? = some x → x.2.Kind = 5 → R = [] ∨ R[0]? = some 60) → (allP L ++ R).length ≤ 65536 → ∃ M, LikeP L M ∧
   iter F_scan_All_l0 (L.length + m) (allP L ++ R, (0 : Int), ([] : List Tk)) = iter F_scan_All_l0 m (allP L ++ R, ((allP L).length : Int), M) := by
 induction h with
 | nil => intro R m _ _; exact ⟨[], ⟨rfl, fun k t h => by simp at h⟩, by rw [List.length_nil, Nat.zero_add]; rfl⟩
 | @snoc L w t h1 g g3 ih =>
  intro R m hR hl
  have e2 : (allP (L ++ [(w, t)])).length = (allP L).length + w.length := by rw [allP_snoc, List.length_append]
  rw [allP_snoc, List.append_assoc] at hl ⊢
  obtain ⟨M, m1, m2⟩ := ih (w ++ R) (m + 1) (fun x hx hk0 => by
   right
   obtain ⟨r, hr⟩ := g.hd fun hk => g3 hk x hx hk0
   rw [hr]; rfl) hl
  have hU : (allP L ++ (w ++ R)).drop (allP L).length = w ++ R := List.drop_left
  obtain ⟨n, hn⟩ := g.rd hl hU (hR (w, t) (List.getLast?_concat ..))
  have hpos : 0 < w.length := List.length_pos_iff.2 g.ne
  have hlt : (allP L).length < (allP L ++ (w ++ R)).length := by simp only [List.length_append]; omega
  have hML : M.length ≤ 65536 := by rw [m1.1]; exact Nat.le_trans (Nat.le_trans (allP_ok h1).2.2 (Nat.le_of_lt hlt)) hl
  refine ⟨M ++ [⟨t.Kind, ((allP L).length : Int), t.Name, t.Pairs, t.Text, n⟩], likeP_snoc m1, ?_⟩
  rw [List.length_append, List.length_singleton, show L.length + 1 + m = L.length + (m + 1) by omega, m2, iter_one fun rec => all_step hML hlt hn rec, List.length_append]
theorem parseP {L : List (LB × Tk)} (h : RowP L) {w : LB} (hw : allP L = w) (h60 : w[0]? = some 60) (hl : w.length ≤ 65536) :
  ∃ M, LikeP L M ∧ F_scan_Plain w = some w ∧ F_parse_Parse w = (runR M r0).bind fun o => match o with
    | .inl r => endP w r
    | .inr (x, y) => some (nd0, x, y) := by
 subst hw
 obtain ⟨w1, w2, w3⟩ := allP_ok h
 have hp : pln (allP L) = allP L := by
  cases hc : allP L with
  | nil => rw [hc] at h60; simp at h60
  | cons c r =>
   rw [hc] at h60 w2
   have : c = 60 := by simpa using h60
   subst this
   exact pln_id rfl (by decide) w2
 obtain ⟨k, hk⟩ : ∃ k, FUEL = L.length + (k + 1) := ⟨FUEL - L.length - 1, by unfold FUEL; omega⟩
 obtain ⟨M, m1, m2⟩ := run_pies h [] (k + 1) (fun _ _ _ => .inl rfl) (by rw [List.append_nil]; exact hl)
 rw [List.append_nil] at m2
 have hM := m1.1
 refine ⟨M, m1, by rw [plain_eq _ (by omega), hp], parse_eq (a := 0) ?_ (by omega)⟩
 rw [all_eq _ hl, hp]
 have hfault : F_char_Fault (allP L) = some (0, 0) := by
  rcases fault_iff (allP L) (by omega) with ⟨hf, _⟩ | ⟨_, _, _, _, hno, _⟩
  ·exact hf
  ·exact absurd w1 hno
 rw [hfault, bS]
 show cond false _ _ = _
 rw [cF, hk, m2]
 exact all_end _ M _
theorem likeP_split {L1 L2 : List (LB × Tk)} {M : List Tk} (h : LikeP (L1 ++ L2) M) : ∃ A B, M = A ++ B ∧ LikeP L1 A ∧ LikeP L2 B := by
 obtain ⟨hl, h⟩ := h
 rw [List.length_append] at hl
 refine ⟨M.take L1.length, M.drop L1.length, (List.take_append_drop _ _).symm, ⟨by rw [List.length_take]; omega, fun k t hk => ?_⟩, ⟨by rw [List.length_drop]; omega, fun k t hk => ?_⟩⟩
 ·have hlt := (List.getElem?_eq_some_iff.1 hk).1
  obtain ⟨n, a, hu⟩ := h k t (by rw [List.getElem?_append_left hlt]; exact hk)
  exact ⟨n, a, by rw [List.getElem?_take, if_pos hlt]; exact hu⟩
 ·obtain ⟨n, a, hu⟩ := h (L1.length + k) t (by rw [List.getElem?_append_right (by omega), Nat.add_sub_cancel_left]; exact hk)
  exact ⟨n, a, by rw [List.getElem?_drop]; exact hu⟩
theorem likeP_one {x : LB × Tk} {A : List Tk} (h : LikeP [x] A) : ∃ n a, A = [⟨x.2.Kind, a, x.2.Name, x.2.Pairs, x.2.Text, n⟩] := by
 obtain ⟨hl, h⟩ := h
 obtain ⟨n, a, hu⟩ := h 0 x rfl
 cases A with
 | nil => simp at hu
 | cons t A =>
  have h0 : A = [] := List.length_eq_zero_iff.1 (by simpa using hl)
  subst h0
  exact ⟨n, a, by simpa using hu⟩
def eT (X : LB) : Op := setK elA (if X = [] then [] else [txN X])
def texts (L : List (LB × Tk)) : LB := L.flatMap fun x => x.2.Text
def hexv (c : UInt8) : Int := if 48 ≤ c.toNat ∧ c.toNat ≤ 57 then (c.toNat : Int) - 48 else if 97 ≤ c.toNat ∧ c.toNat ≤ 102 then (c.toNat : Int) - 87 else if 65 ≤ c.toNat ∧ c.toNat ≤ 70 then (c.toNat : Int) - 55 else -1
def dgP (base : Int) (c : UInt8) : Bool := decide (0 ≤ hexv c) && decide (hexv c < base)
def gv (base : Int) (g : Int) (l : LB) : Int := l.foldl (fun g c => if 1114112 < g * base + hexv c then 1114112 else g * base + hexv c) g
def decF : Nat → Nat → LB
 | 0, _ => []
 | k + 1, x => if x = 0 then [] else decF k (x / 10) ++ [UInt8.ofNat (48 + x % 10)]
inductive Num : LB → LB → Prop
 | nil : Num [] []
 | cons {l N : LB} : l ≠ [] → badR (decodeL l) = false → charP ((decodeL l).1 : Int) = true → Num (l.drop (decodeL l).2) N → Num l (38 :: 35 :: (decF 8 (decodeL l).1 ++ 59 :: N))
def Bd (p : LB) (k : Nat) : Prop := k ≤ p.length ∧ OkT (p.take k) ∧ OkT (p.drop k)
def ReadAs (s w : LB) : Prop := ∃ r, F_parse_Parse w = some r ∧ r.2.2 = 0 ∧ ∃ y, r.1.Kids = [y] ∧ y.Kids = [txN s]
def tk5 (x : LB) : Tk := ⟨5, 0, [], [], x, 0⟩
def tk6 (x : LB) : Tk := ⟨6, 0, [], [], x, 0⟩
def tp (x : LB) : List (LB × Tk) := if x = [] then [] else [(x.flatMap txE, tk5 x)]
def cdW (x : LB) : LB := [60, 33, 91, 67, 68, 65, 84, 65, 91] ++ (x ++ [93, 93, 62])
theorem first_no {c : UInt8} {w : LB} : ∀ {x : LB}, c ∉ x → First x (c :: w)
 | [], _ => fun R => by
  have : Lib.index ([] ++ (c :: w ++ R)) (c :: w) = 0 := by
   simp only [List.nil_append, List.cons_append, Lib.index]
   rw [if_pos (by simp [List.isPrefixOf])]
  exact this
 | a :: x, h => fun R => by
  have hx : c ∉ x := fun hm => h (List.mem_cons_of_mem _ hm)
  have ha : a ≠ c := fun he => h (by rw [he]; exact List.mem_cons_self)
  have ih := first_no (w := w) hx R
  have e : Lib.index (a :: x ++ (c :: w ++ R)) (c :: w) = Lib.index (a :: (x ++ (c :: w ++ R))) (c :: w) := rfl
  rw [e]
  simp only [Lib.index]
  rw [if_neg (by simp [List.isPrefixOf, Ne.symm ha]), ih]
  have hne : ((x.length : Int) == -1) = false := by rw [beq_eq_false_iff_ne]; omega
  simp only [List.length_cons]
  first
   | (rw [if_neg (by omega)]; omega)
   | (rw [hne]; simp)
   | (simp; omega)
inductive PartT : LB → Prop
 | nil : PartT []
 | cons {l : LB} : l ≠ [] → badR (decodeL l) = false → partP ((decodeL l).1 : Int) = true → PartT (l.drop (decodeL l).2) → PartT l
theorem okN_part (l : LB) : ∀ n j, l.length ≤ j + n → okN l n j = true → PartT (l.drop j)
 | 0, j, h, _ => by rw [List.drop_of_length_le (by omega)]; exact .nil
 | n + 1, j, h, hok => by
  by_cases hj : j < l.length
  ·obtain ⟨d1, d2, _, _⟩ := dec_bytes l j hj
   simp only [okN, if_pos hj, Bool.and_eq_true, Bool.not_eq_true'] at hok
   refine .cons (drop_nn hj) hok.1 hok.2.1 ?_
   rw [List.drop_drop]
   exact okN_part l n _ (by omega) hok.2.2.2
  ·rw [List.drop_of_length_le (by omega)]; exact .nil
theorem name_part {l : LB} (h : nameP l = true) : l ≠ [] ∧ l.length ≤ 100 ∧ PartT l ∧ startP ((decodeL l).1 : Int) = true := by
 unfold nameP at h
 rw [Bool.and_eq_true, Bool.not_eq_true', Bool.or_eq_false_iff] at h
 obtain ⟨⟨h1, h2⟩, h3⟩ := h
 have hne := of_decide_eq_false h1
 have hlen := of_decide_eq_false h2
 have hpos := List.length_pos_iff.2 hne
 refine ⟨hne, by omega, by have := okN_part l l.length 0 (by omega) h3; rwa [List.drop_zero] at this, ?_⟩
 obtain ⟨n, hn⟩ : ∃ n, l.length = n + 1 := ⟨l.length - 1, by omega⟩
 rw [hn] at h3
 simp only [okN, if_pos hpos, Bool.and_eq_true, List.drop_zero] at h3
 simpa using h3.2.2.1
theorem part_char {r : Int} (h : partP r = true) : charP r = true ∧ r ≠ 58 := by
 unfold partP startP at h
 rw [Bool.or_eq_true, decide_eq_true_eq, decide_eq_true_eq] at h
 exact ⟨dT (by omega), by omega⟩
theorem part_okT {l : LB} (h : PartT l) : OkT l := by
 induction h with
 | nil => exact .nil
 | cons h1 h2 h3 _ ih => exact .cons h1 h2 (part_char h3).1 ih
theorem part_bytes {l : LB} (h : PartT l) : ∀ c ∈ l, 128 ≤ c.toNat ∨ partP (c.toNat : Int) = true := by
 induction h with
 | nil => intro c hc; simp at hc
 | @cons l h1 h2 h3 _ ih =>
  intro c hc
  have hp := dec_pos h1
  obtain ⟨_, _, d3, d4⟩ := dec_bytes l 0 (List.length_pos_iff.2 h1)
  rw [List.drop_zero] at d3 d4
  rw [← List.take_append_drop (decodeL l).2 l] at hc
  rcases List.mem_append.1 hc with hc | hc
  ·obtain ⟨k, hk⟩ := List.mem_iff_getElem?.1 hc
   have hkl : k < (decodeL l).2 := by
    have := (List.getElem?_eq_some_iff.1 hk).1
    rw [List.length_take] at this; omega
   rw [List.getElem?_take_of_lt hkl] at hk
   cases k with
   | zero =>
    have e : l.getD 0 0 = c := by simp [List.getD, hk]
    rw [e] at d3
    by_cases hlo : c.toNat < 128
    ·right; have := d3 hlo; rw [this] at h3; exact h3
    ·exact .inl (by omega)
   | succ k =>
    left
    have := d4 (k + 1) (by omega) hkl
    rw [Nat.zero_add] at this
    simp [List.getD, hk] at this
    exact this
  ·exact ih c hc
theorem part_no {l : LB} (h : PartT l) : (58 : UInt8) ∉ l ∧ (13 : UInt8) ∉ l :=
 ⟨fun hm => by rcases part_bytes h 58 hm with h | h <;> revert h <;> decide, fun hm => by rcases part_bytes h 13 hm with h | h <;> revert h <;> decide⟩
theorem cut_in {p l : LB} (hp : (58 : UInt8) ∉ p) : Lib.cut (p ++ 58 :: l) [58] = (p, l, true) := by
 have h := first_no (w := []) hp l
 have e : p ++ ([58] ++ l) = p ++ 58 :: l := rfl
 rw [e] at h
 unfold Lib.cut
 rw [h, if_pos (by omega), Int.toNat_natCast, List.take_left]
 rw [← List.drop_drop, List.drop_left]; rfl
theorem cut_no {l : LB} (hl : (58 : UInt8) ∉ l) : Lib.cut l [58] = (l, [], false) := by
 unfold Lib.cut
 rw [if_neg]
 intro h
 obtain ⟨n, hn⟩ : ∃ n : Nat, Lib.index l [58] = (n : Int) := ⟨(Lib.index l [58]).toNat, by omega⟩
 obtain ⟨o1, o2⟩ := index_occ hn (by simp)
 rw [List.isPrefixOf_iff_prefix] at o1
 obtain ⟨R, hR⟩ := o1
 exact hl (List.mem_of_mem_drop (by rw [← hR]; simp))
theorem split_q {p l : LB} (hp : nameP p = true) (hl : nameP l = true) : F_char_Split (p ++ 58 :: l) = some (p, l, true) := by
 obtain ⟨p1, p2, p3, _⟩ := name_part hp
 obtain ⟨l1, l2, l3, _⟩ := name_part hl
 unfold F_char_Split L_Cut
 rw [if_pos (by rw [List.length_append, List.length_cons]; omega), bS, cut_in (part_no p3).1]
 simp only [letJ, F_nameC, bS, hp, hl]
 rfl
theorem split_l {l : LB} (hl : nameP l = true) : F_char_Split l = some ([], l, true) := by
 obtain ⟨l1, l2, l3, _⟩ := name_part hl
 unfold F_char_Split L_Cut
 rw [if_pos (by omega), bS, cut_no (part_no l3).1]
 simp only [letJ, F_nameC, bS, hl]
 rfl
theorem name_run {U : LB} (hU : U.length ≤ 1073741824) (i : Nat) {x : LB} (hx : PartT x) : ∀ (k m : Nat) (R : LB), U.drop k = x ++ R → i ≤ k → (i < k ∨ x = [] ∨ startP ((decodeL x).1 : Int) = true) → x.length ≤ m →
  ∃ m', m ≤ m' + x.length ∧ iter (F_scan_scanner_name_l0 ⟨U, (i : Int)⟩) m (k : Int) = iter (F_scan_scanner_name_l0 ⟨U, (i : Int)⟩) m' ((k + x.length : Nat) : Int) := by
 induction hx with
 | nil => intro k m R _ _ _ _; exact ⟨m, by simp, rfl⟩
 | @cons x h1 h2 h3 _ ih =>
  intro k m R e hik hs hm
  have hp := dec_pos h1
  obtain ⟨m, rfl⟩ : ∃ j, m = j + 1 := ⟨m - 1, by omega⟩
  have hlt : k < U.length := by
   have := congrArg List.length e
   rw [List.length_drop, List.length_append] at this; omega
  have hd : decodeL (U.drop k) = decodeL x := by rw [e]; exact dec_app h1 h2
  have hst : stopN i k ((decodeL x).1 : Int) = false := by
   unfold stopN
   rw [h3]
   rcases hs with hs | hs | hs
   ·rw [show ((k : Int) == (i : Int)) = false by rw [beq_eq_false_iff_ne]; omega]; simp
   ·exact absurd hs h1
   ·rw [hs]; simp
  obtain ⟨m', a1, a2⟩ := ih (k + (decodeL x).2) m R (by rw [← List.drop_drop, e, List.drop_append_of_le_length hp.2]) (by omega) (.inl (by omega)) (by rw [List.length_drop]; omega)
  rw [List.length_drop] at a1 a2
  refine ⟨m', by omega, ?_⟩
  rw [iter_succ, name_step U i k hlt hU, hd, hst, cF, a2]
  congr 1
  omega
theorem nameAt_end {x : LB} (hne : x ≠ []) (hl : x.length ≤ 1000) (ho : OkT x) (h13 : (13 : UInt8) ∉ x) {a b : LB} (hs : F_char_Split x = some (a, b, true))
  (h : ∃ m' : Nat, iter (F_scan_scanner_name_l0 ⟨x ++ [62], (0 : Int)⟩) FUEL (0 : Int) = iter (F_scan_scanner_name_l0 ⟨x ++ [62], (0 : Int)⟩) (m' + 1) (x.length : Int)) : NameAt x := by
 have hU : (x ++ [62]).length ≤ 65536 := by rw [List.length_append, List.length_singleton]; omega
 have hd : (x ++ [62]).drop x.length = [62] := List.drop_left
 obtain ⟨m', hm⟩ := h
 have hst := name_step (x ++ [62]) 0 x.length (by simp) (by omega) (iter (F_scan_scanner_name_l0 ⟨x ++ [62], ((0 : Nat) : Int)⟩) m')
 have hsp := stop_of (d := 62) (by decide) ((0 : Nat) : Int) (x.length : Int)
 rw [hd, show decodeL [62] = ((62 : UInt8).toNat, 1) from dec_ascii 62 [] (by decide)] at hst
 dsimp only at hst
 rw [hsp, cT] at hst
 have hm : iter (F_scan_scanner_name_l0 ⟨x ++ [62], ((0 : Nat) : Int)⟩) FUEL ((0 : Nat) : Int) = some (x.length : Int) := hm.trans hst
 refine ⟨x ++ [62], 0, 62, [], ⟨x ++ [62], (x.length : Int)⟩, hU, rfl, by decide, ?_, ho, h13⟩
 have := name_eq (x ++ [62]) 0 x.length hm (Nat.zero_le _) (by simp)
 rw [List.drop_zero, Nat.sub_zero, List.take_left] at this
 have hx : (x == ([] : LB)) = false := by simpa using hne
 rw [hx, cF, hs, bS] at this
 exact this
theorem nameAt_l {l : LB} (hl : nameP l = true) : NameAt l := by
 obtain ⟨l1, l2, l3, l4⟩ := name_part hl
 refine nameAt_end l1 (by omega) (part_okT l3) (part_no l3).2 (split_l hl) ?_
 obtain ⟨m', a1, a2⟩ := name_run (U := l ++ [62]) (by simp; omega) 0 l3 0 FUEL [62] rfl (Nat.le_refl _) (.inr (.inr l4)) (by unfold FUEL; omega)
 obtain ⟨m2, rfl⟩ : ∃ m2, m' = m2 + 1 := ⟨m' - 1, by unfold FUEL at a1; omega⟩
 rw [Nat.zero_add] at a2
 exact ⟨m2, a2⟩
theorem nameAt_q {p l : LB} (hp : nameP p = true) (hl : nameP l = true) : NameAt (p ++ 58 :: l) := by
 obtain ⟨p1, p2, p3, p4⟩ := name_part hp
 obtain ⟨l1, l2, l3, l4⟩ := name_part hl
 have hlen : (p ++ 58 :: l).length = p.length + (l.length + 1) := by simp
 refine nameAt_end (by simp) (by omega) (okT_app (part_okT p3) (okT_ascii 58 _ (by decide) (by decide) (part_okT l3))) (by
  simp only [List.mem_append, List.mem_cons, not_or]; exact ⟨(part_no p3).2, by decide, (part_no l3).2⟩) (split_q hp hl) ?_
 have hU : ((p ++ 58 :: l) ++ [62]).length ≤ 1073741824 := by rw [List.length_append, hlen, List.length_singleton]; omega
 have hd0 : ((p ++ 58 :: l) ++ [62]).drop 0 = p ++ (58 :: (l ++ [62])) := by simp
 have hd1 := drop_go hd0
 have hd2 := drop_go1 hd1
 obtain ⟨m1, a1, a2⟩ := name_run hU 0 p3 0 FUEL (58 :: (l ++ [62])) hd0 (Nat.le_refl _) (.inr (.inr p4)) (by unfold FUEL; omega)
 obtain ⟨m1, rfl⟩ : ∃ j, m1 = j + 1 := ⟨m1 - 1, by unfold FUEL at a1; omega⟩
 obtain ⟨m2, b1, b2⟩ := name_run hU 0 l3 (0 + p.length + 1) m1 [62] hd2 (by omega) (.inl (by omega)) (by unfold FUEL at a1; omega)
 obtain ⟨m2, rfl⟩ : ∃ j, m2 = j + 1 := ⟨m2 - 1, by unfold FUEL at a1; omega⟩
 refine ⟨m2, ?_⟩
 rw [show ((0 : Nat) : Int) = (0 : Int) from rfl] at a2 b2
 rw [a2, iter_succ]
 have hst := name_step ((p ++ 58 :: l) ++ [62]) 0 (0 + p.length) (drop_lt hd1) hU (iter (F_scan_scanner_name_l0 ⟨(p ++ 58 :: l) ++ [62], ((0 : Nat) : Int)⟩) m1)
 rw [show ((0 : Nat) : Int) = (0 : Int) from rfl] at hst
 rw [hst, hd1, dec_ascii 58 _ (by decide), show stopN 0 ((0 + p.length : Nat) : Int) (((58 : UInt8).toNat : Nat) : Int) = false by unfold stopN; simp, cF]
 dsimp only
 rw [b2, hlen]
 congr 1
 omega
theorem name_xmlns : nameP [120, 109, 108, 110, 115] = true := by kernel_rfl
theorem name_x : nameP [120] = true := by kernel_rfl
theorem name_b : nameP [98] = true := by kernel_rfl
theorem qu_facts : (∀ c : UInt8, c.toNat < 128 → (quE c = [c] ∨ charP (c.toNat : Int) = true) ∧ (∀ d ∈ quE c, d.toNat < 128)) ∧ (∀ c : UInt8, 128 ≤ c.toNat → quE c = [c]) ∧ ∀ c, quE c ≠ [] := by
 have h : ∀ c : UInt8, (decide (c.toNat < 128 → (quE c = [c] ∨ charP (c.toNat : Int) = true) ∧ (quE c).all fun d => decide (d.toNat < 128)) && (decide (128 ≤ c.toNat → quE c = [c]) && decide (quE c ≠ []))) = true := all_u8 (by decide +kernel)
 refine ⟨fun c hc => ?_, fun c => ?_, fun c => ?_⟩
 ·have := h c
  simp only [Bool.and_eq_true, decide_eq_true_eq, List.all_eq_true] at this
  exact this.1 hc
 ·have := h c
  simp only [Bool.and_eq_true, decide_eq_true_eq] at this
  exact this.2.1
 ·have := h c
  simp only [Bool.and_eq_true, decide_eq_true_eq] at this
  exact this.2.2
theorem okT_lo_tail : ∀ (w r : LB), (∀ d ∈ w, d.toNat < 128) → OkT (w ++ r) → OkT r
 | [], _, _, h => h
 | d :: w, r, hw, h => okT_lo_tail w r (fun x hx => hw x (List.mem_cons_of_mem _ hx)) (okT_tail (hw d List.mem_cons_self) h)
theorem hi_take : ∀ (j : Nat) (t : LB), (∀ i, i < j → 128 ≤ ((t.flatMap quE).getD i 0).toNat) → j ≤ t.length ∧ (t.flatMap quE).take j = t.take j ∧ (t.flatMap quE).drop j = (t.drop j).flatMap quE
 | 0, t, _ => ⟨Nat.zero_le _, by simp, by simp⟩
 | j + 1, [], h => by
  have := h 0 (by omega)
  simp at this
 | j + 1, c :: t, h => by
  obtain ⟨q1, q2, q3⟩ := qu_facts
  have h0 := h 0 (by omega)
  have hc : 128 ≤ c.toNat := by
   by_cases hlo : c.toNat < 128
   ·exfalso
    cases hq : quE c with
    | nil => exact q3 c hq
    | cons d r =>
     rw [List.flatMap_cons, hq] at h0
     have := (q1 c hlo).2 d (by rw [hq]; exact List.mem_cons_self)
     simp [List.getD] at h0
     omega
   ·omega
  have e : (c :: t).flatMap quE = c :: t.flatMap quE := by rw [List.flatMap_cons, q2 c hc]; rfl
  rw [e] at h ⊢
  obtain ⟨i1, i2, i3⟩ := hi_take j t fun i hi => by
   have := h (i + 1) (by omega)
   simpa [List.getD] using this
  exact ⟨by simp; omega, by rw [List.take_succ_cons, List.take_succ_cons, i2], by rw [List.drop_succ_cons, List.drop_succ_cons, i3]⟩
theorem okT_unflat : ∀ (n : Nat) (u : LB), u.length ≤ n → OkT (u.flatMap quE) → OkT u
 | _, [], _, _ => .nil
 | n + 1, c :: t, hn, h => by
  obtain ⟨q1, q2, q3⟩ := qu_facts
  by_cases hc : c.toNat < 128
  ·obtain ⟨a1, a2⟩ := q1 c hc
   rw [List.flatMap_cons] at h
   have ht := okT_unflat n t (by simp at hn; omega) (okT_lo_tail _ _ a2 h)
   refine okT_ascii c t hc ?_ ht
   rcases a1 with a1 | a1
   ·rw [a1] at h
    have := (okT_inv h (by simp)).2.1
    rw [List.singleton_append, dec_ascii c _ hc] at this
    exact this
   ·exact a1
  ·have e : (c :: t).flatMap quE = c :: t.flatMap quE := by rw [List.flatMap_cons, q2 c (by omega)]; rfl
   rw [e] at h
   obtain ⟨w1, w2, w3⟩ := okT_inv h (by simp)
   have hp := dec_pos (l := c :: t.flatMap quE) (by simp)
   obtain ⟨_, _, _, d4⟩ := dec_bytes (c :: t.flatMap quE) 0 (by simp)
   rw [List.drop_zero] at d4
   have htk := dec_take (l := c :: t.flatMap quE) (by simp) w1
   obtain ⟨k, hk⟩ : ∃ k, (decodeL (c :: t.flatMap quE)).2 = k + 1 := ⟨(decodeL (c :: t.flatMap quE)).2 - 1, by omega⟩
   rw [hk] at htk w3 d4
   obtain ⟨i1, i2, i3⟩ := hi_take k t fun i hi => by
    have := d4 (i + 1) (by omega) (by omega)
    rw [Nat.zero_add] at this
    simpa [List.getD] using this
   rw [List.take_succ_cons, i2] at htk
   rw [List.drop_succ_cons, i3] at w3
   have ht := okT_unflat n (t.drop k) (by rw [List.length_drop]; simp at hn; omega) w3
   have hd : decodeL (c :: t) = decodeL (c :: t.flatMap quE) := by
    have := dec_app (x := c :: t.take k) (y := t.drop k) (by simp) (by rw [htk]; exact w1)
    rw [List.cons_append, List.take_append_drop] at this
    rw [this, htk]
   exact .cons (by simp) (by rw [hd]; exact w1) (by rw [hd]; exact w2) (by rw [hd, hk, List.drop_succ_cons]; exact ht)
abbrev Ent := (UInt8 × (UInt8 → LB)) × TP
def shM (ps : List Ent) : LB := ps.flatMap fun e => 32 :: (e.2.Name ++ 61 :: e.1.1 :: (e.2.Value.flatMap e.1.2 ++ [e.1.1]))
theorem shM_cons (e : Ent) (ps : List Ent) : shM (e :: ps) = 32 :: (e.2.Name ++ 61 :: e.1.1 :: (e.2.Value.flatMap e.1.2 ++ e.1.1 :: shM ps)) := by
 unfold shM; rw [List.flatMap_cons]; simp
structure EntOk (e : Ent) : Prop where
 w : QW e.1.1 e.1.2
 n : NameAt e.2.Name
 v : OkT e.2.Value
def prs (ps : List Ent) : List TP := ps.map (·.2)
theorem pairs_readM {U : LB} (hU : U.length ≤ 65536) (At : Int) (Nm : LB) (lone : Bool) (R : LB) :
  ∀ (ps2 : List Ent) (ps1 : List TP) (j m : Nat) (y z : LB), U.drop j = shM ps2 ++ (if lone then [47, 62] else [62]) ++ R → (∀ e ∈ ps2, EntOk e) → (nmP (ps1 ++ prs ps2)).Nodup → ps1.length ≤ j → ps2.length < m →
   iter F_scan_scanner_tag_l0 m (U, (j : Int), (2 : Int), At, Nm, ps1, [], (0 : Int), y, z) = some (0, ⟨U, ((j + (shM ps2).length + (if lone then 2 else 1) : Nat) : Int)⟩, ⟨if lone then 4 else 2, At, Nm, ps1 ++ prs ps2, [], 0⟩)
 | [], ps1, j, m, y, z, h, _, _, _, hm => by
  obtain ⟨m, rfl⟩ : ∃ k, m = k + 1 := ⟨m - 1, by simp at hm; omega⟩
  have hUb : U.length ≤ 1073741824 := by omega
  rw [show shM [] = [] from rfl, List.nil_append] at h
  rw [show prs [] = [] from rfl]
  cases lone with
  | true =>
   simp only [if_true] at h ⊢
   have hs : sk wsP U j = j := sk_pass [] (b := U) (i := j) (c := 47) (y := 62 :: R) h (by simp) (by decide)
   have := drop_lt h
   rw [tag_l0_end hUb At Nm [] 0 m j ps1 y z (by omega) (by rw [hs]; unfold hereP; rw [h]; rfl), hs, List.append_nil]
   rfl
  | false =>
   simp only [Bool.false_eq_true, if_false] at h ⊢
   have hs : sk wsP U j = j := sk_pass [] (b := U) (i := j) (c := 62) (y := R) h (by simp) (by decide)
   have := drop_lt h
   rw [tag_l0_end2 hUb At Nm [] 0 m j ps1 y z (by omega) (by rw [hs]; unfold hereP; rw [h]; rfl) (by rw [hs]; unfold hereP; rw [h]; rfl), hs, List.append_nil]
   rfl
 | ⟨⟨q, E⟩, p⟩ :: ps2, ps1, j, m, y, z, h, hp, hnd, hl, hm => by
  obtain ⟨m, rfl⟩ : ∃ k, m = k + 1 := ⟨m - 1, by simp at hm; omega⟩
  have hUb : U.length ≤ 1073741824 := by omega
  obtain ⟨W, hN, hV⟩ := hp _ List.mem_cons_self
  dsimp only at W hN hV
  rw [shM_cons] at h
  dsimp only at h
  rw [show prs (((q, E), p) :: ps2) = p :: prs ps2 from rfl] at hnd ⊢
  obtain ⟨c0, x', hx, hst⟩ := nameAt_head hN
  have d0 : U.drop j = [32] ++ (p.Name ++ 61 :: (q :: (p.Value.flatMap E ++ q :: (shM ps2 ++ (if lone then [47, 62] else [62]) ++ R)))) := by rw [h]; simp
  have d1 := drop_go d0
  have wc0 : wsP c0 = false := by
   cases hw : wsP c0 with
   | false => rfl
   | true =>
    have := hst (ws_lo c0 hw)
    rw [stop_ws c0 (.inl hw)] at this
    cases this
  have hs : sk wsP U j = j + 1 := sk_pass [32] (b := U) (i := j) (c := c0) (y := x' ++ 61 :: (q :: (p.Value.flatMap E ++ q :: (shM ps2 ++ (if lone then [47, 62] else [62]) ++ R)))) (by rw [d0, hx]; rfl) (by decide) wc0
  have d1' : U.drop (j + 1) = p.Name ++ 61 :: (q :: (p.Value.flatMap E ++ q :: (shM ps2 ++ (if lone then [47, 62] else [62]) ++ R))) := d1
  have d2 := drop_go d1'
  have d3 := drop_go1 d2
  have l3 := drop_lt d3
  have hn := nameAt_read hN hUb d1' (by decide) (stop_ws 61 (.inr rfl))
  have wq : wsP q = false := by rcases W.hq with rfl | rfl <;> decide
  have hs2 : sk wsP U (j + 1 + p.Name.length) = j + 1 + p.Name.length := sk_pass [] (b := U) (c := 61) d2 (by simp) (by decide)
  have hs3 : sk wsP U (j + 1 + p.Name.length + 1) = j + 1 + p.Name.length + 1 := sk_pass [] (b := U) (c := q) d3 (by simp) wq
  have heq : F_scan_scanner_equals ⟨U, ((j + 1 + p.Name.length : Nat) : Int)⟩ = some (0, ⟨U, ((j + 1 + p.Name.length + 1 : Nat) : Int)⟩) := by
   rw [equals_eq U _ (by omega) hUb, hs2, if_pos (by rw [hereP_one, drop_get d2]; simp), hs3]
  have hqu := quoted_at hUb W.hq d3 (not_mem_flat W.no p.Value)
  have hvl : (p.Value.flatMap E).length ≤ 65536 := by
   have := congrArg List.length d3
   rw [List.length_drop, List.length_cons, List.length_append] at this; omega
  have hvl2 := flat_ge W.ne p.Value
  have hrd := readValue_of (read_back W.esc hV (by omega) (by omega) (fun h => by cases h))
  have ne0 : ∀ d : UInt8, d.toNat < 128 ∧ stopN 0 0 (d.toNat : Int) = true → d ≠ c0 := fun d hd => (nameAt_ne hN hx hd).symm
  have d1c : U.drop (sk wsP U j) = c0 :: (x' ++ 61 :: (q :: (p.Value.flatMap E ++ q :: (shM ps2 ++ (if lone then [47, 62] else [62]) ++ R)))) := by rw [hs, d1', hx]; rfl
  have hno : ∀ r ∈ ps1, r.Name ≠ p.Name := by
   intro r hr he
   unfold nmP at hnd
   rw [List.map_append, List.nodup_append] at hnd
   exact hnd.2.2 r.Name (List.mem_map.2 ⟨r, hr, rfl⟩) p.Name (List.mem_map.2 ⟨p, List.mem_cons_self, rfl⟩) he
  rw [tag_l0_more hUb At Nm [] 0 m j ps1 y z (by omega) (by omega) (here_cons d1c 47 _ (ne0 47 (by decide))) (here_cons d1c 62 _ (ne0 62 (by decide))) (by omega) (by rw [hs]; exact hn) heq hqu hrd hno]
  have d4 := drop_go (drop_go1 d3)
  have d5 := drop_go1 d4
  have := pairs_readM hU At Nm lone R ps2 (ps1 ++ [p]) (j + 1 + p.Name.length + 1 + ((p.Value.flatMap E).length + 2)) m p.Name p.Value (by rw [← d5]; congr 1; omega) (fun r hr => hp r (List.mem_cons_of_mem _ hr)) (by rw [List.append_assoc]; exact hnd) (by simp; omega) (by simp at hm; omega)
  rw [show ({ Name := p.Name, Value := p.Value } : TP) = p from rfl, this, shM_cons]
  rw [List.append_assoc]
  simp only [List.length_cons, List.length_append]
  congr 5
  omega
theorem okT_pairsM : ∀ (ps : List Ent), (∀ e ∈ ps, EntOk e) → OkT (shM ps) ∧ (13 : UInt8) ∉ shM ps
 | [], _ => ⟨.nil, by simp [shM]⟩
 | ⟨⟨q, E⟩, p⟩ :: ps, h => by
  obtain ⟨W, hN, hV⟩ := h _ List.mem_cons_self
  dsimp only at W hN hV
  obtain ⟨i1, i2⟩ := okT_pairsM ps fun e he => h e (List.mem_cons_of_mem _ he)
  obtain ⟨n1, n2⟩ := nameAt_ok hN
  have hq : q.toNat < 128 ∧ charP (q.toNat : Int) = true ∧ (13 : UInt8) ≠ q := by rcases W.hq with rfl | rfl <;> decide
  rw [shM_cons]
  dsimp only
  refine ⟨okT_ascii 32 _ (by decide) (by decide) (okT_app n1 (okT_ascii 61 _ (by decide) (by decide) (okT_ascii q _ hq.1 hq.2.1 (okT_app (okT_flat W.ok W.hi hV) (okT_ascii q _ hq.1 hq.2.1 i1))))), ?_⟩
  simp only [List.mem_append, List.mem_cons, not_or]
  exact ⟨by decide, n2, by decide, hq.2.2, not_mem_flat W.n13 _, hq.2.2, i2⟩
theorem tag_readM {U : LB} (hU : U.length ≤ 65536) {i : Nat} {nm : LB} {ps : List Ent} (lone : Bool) {R : LB}
  (h : U.drop i = 60 :: (nm ++ (shM ps ++ (if lone then [47, 62] else [62]) ++ R))) (hN : NameAt nm) (hp : ∀ e ∈ ps, EntOk e) (hnd : (nmP (prs ps)).Nodup) :
  F_scan_scanner_tag ⟨U, (i : Int)⟩ (tok0 i) = some (0, ⟨U, ((i + 1 + nm.length + (shM ps).length + (if lone then 2 else 1) : Nat) : Int)⟩, ⟨if lone then 4 else 2, (i : Int), nm, prs ps, [], 0⟩) := by
 have hUb : U.length ≤ 1073741824 := by omega
 have h1 := drop_go1 h
 have hlt := drop_lt h
 obtain ⟨d, z, hz, hd⟩ : ∃ d z, shM ps ++ (if lone then [47, 62] else [62]) ++ R = d :: z ∧ (wsP d = true ∨ d = 47 ∨ d = 62) := by
  cases ps with
  | nil => cases lone <;> exact ⟨_, _, rfl, by simp⟩
  | cons p ps => exact ⟨32, _, by rw [shM_cons]; rfl, .inl (by decide)⟩
 have hd1 : d.toNat < 128 := by
  rcases hd with hd | rfl | rfl
  ·exact ws_lo d hd
  ·decide
  ·decide
 have hd2 : ∀ i k, stopN i k (d.toNat : Int) = true := by
  rcases hd with hd | rfl | rfl
  ·exact stop_ws d (.inl hd)
  ·exact stop_of (by decide)
  ·exact stop_of (by decide)
 have hn := nameAt_read hN hUb (h1.trans (by rw [hz])) hd1 hd2
 have h2 := drop_go h1
 have hlt2 : i + 1 + nm.length < U.length := by rw [hz] at h2; exact drop_lt h2
 unfold F_scan_scanner_tag
 dsimp only
 rw [w64 (x := (i : Int) + 1) (by omega) (by omega), show (i : Int) + 1 = ((i + 1 : Nat) : Int) by omega, hn, bS]
 dsimp only
 have hbind : ∀ o : Option (Int × TS × TK), (o.bind fun x => some x) = o := fun o => by cases o <;> rfl
 have hpl : ps.length ≤ (shM ps).length := by
  have : ∀ l : List Ent, l.length ≤ (shM l).length := by
   intro l
   induction l with
   | nil => simp
   | cons p l ih => rw [shM_cons]; simp only [List.length_append, List.length_cons]; omega
  exact this ps
 have hl3 := congrArg List.length h2
 rw [List.length_drop, List.length_append, List.length_append] at hl3
 rw [show ((0 : Int) != 0) = false from rfl, cF, hbind, pairs_readM hU (i : Int) nm lone R ps [] (i + 1 + nm.length) FUEL [] [] h2 hp hnd (Nat.zero_le _) (by unfold FUEL; omega), List.nil_append]
def tagW (nm : LB) (ps : List Ent) (lone : Bool) : LB := 60 :: (nm ++ (shM ps ++ (if lone then [47, 62] else [62])))
def tagT (nm : LB) (ps : List Ent) (lone : Bool) : Tk := ⟨if lone then 4 else 2, 0, nm, prs ps, [], 0⟩
theorem pie_tag {nm : LB} {ps : List Ent} (lone : Bool) (hN : NameAt nm) (hp : ∀ e ∈ ps, EntOk e) (hnd : (nmP (prs ps)).Nodup) : Pie (tagW nm ps lone) (tagT nm ps lone) := by
 obtain ⟨n1, n2⟩ := nameAt_ok hN
 obtain ⟨p1, p2⟩ := okT_pairsM ps hp
 obtain ⟨c0, x', hx, _⟩ := nameAt_head hN
 refine ⟨?_, ?_, by simp [tagW], fun _ => ⟨_, rfl⟩, fun {U R i} hU h _ => ⟨0, ?_⟩⟩
 ·unfold tagW
  refine okT_ascii 60 _ (by decide) (by decide) (okT_app n1 (okT_app p1 ?_))
  cases lone <;> exact okT_asc _ (by decide)
 ·unfold tagW
  simp only [List.mem_append, List.mem_cons, not_or]
  refine ⟨by decide, n2, p2, ?_⟩
  cases lone <;> decide
 ·have h' : U.drop i = 60 :: (nm ++ (shM ps ++ (if lone then [47, 62] else [62]) ++ R)) := by rw [h]; simp [tagW]
  have h'' : U.drop i = 60 :: c0 :: (x' ++ (shM ps ++ (if lone then [47, 62] else [62]) ++ R)) := by rw [h', hx]; simp
  have hne : ∀ d : UInt8, d.toNat < 128 ∧ stopN 0 0 (d.toNat : Int) = true → c0 ≠ d := fun d hd => nameAt_ne hN hx hd
  obtain ⟨r1, r2⟩ := rest_tag h'' (hne 33 (by decide)) (hne 63 (by decide)) (hne 47 (by decide))
  rw [token_eq U i (Nat.le_of_lt (drop_lt h'')) (by omega), r1, cF, r2, tag_readM hU lone h' hN hp hnd]
  unfold tagT tagW
  simp only [List.length_append, List.length_cons]
  congr 4
  cases lone <;> simp <;> omega
def endW (nm g : LB) : LB := 60 :: 47 :: (nm ++ (g ++ [62]))
def endT (nm : LB) : Tk := ⟨3, 0, nm, [], [], 0⟩
theorem pie_end {nm g : LB} (hN : NameAt nm) (hg : g = [] ∨ g = [32]) : Pie (endW nm g) (endT nm) := by
 obtain ⟨n1, n2⟩ := nameAt_ok hN
 have g1 : OkT g ∧ (13 : UInt8) ∉ g ∧ ∀ d ∈ g, wsP d = true := by
  rcases hg with rfl | rfl
  ·exact ⟨.nil, by decide, by decide⟩
  ·exact ⟨okT_asc _ (by decide), by decide, by decide⟩
 refine ⟨okT_ascii 60 _ (by decide) (by decide) (okT_ascii 47 _ (by decide) (by decide) (okT_app n1 (okT_app g1.1 (okT_asc _ (by decide))))), ?_, by simp [endW], fun _ => ⟨_, rfl⟩, fun {U R i} hU h _ => ⟨0, ?_⟩⟩
 ·unfold endW
  simp only [List.mem_append, List.mem_cons, not_or]
  exact ⟨by decide, by decide, n2, g1.2.1, by decide, by simp⟩
 ·have hUb : U.length ≤ 1073741824 := by omega
  have h' : U.drop i = 60 :: 47 :: (nm ++ (g ++ 62 :: R)) := by rw [h]; simp [endW]
  have no := fun e w (he : e ≠ 47) => here_no1 h' 60 e w he
  have h2 := drop_go1 (drop_go1 h')
  have h3 := drop_go h2
  have h4 := drop_go h3
  have hlt := drop_lt h4
  obtain ⟨d, z, hz, hd⟩ : ∃ d z, g ++ 62 :: R = d :: z ∧ d.toNat < 128 ∧ ∀ i k, stopN i k (d.toNat : Int) = true := by
   rcases hg with rfl | rfl
   ·exact ⟨62, R, rfl, by decide, stop_of (by decide)⟩
   ·exact ⟨32, 62 :: R, rfl, by decide, stop_of (by decide)⟩
  have hn := nameAt_read hN hUb (h2.trans (by rw [hz])) hd.1 hd.2
  have hs : sk wsP U (i + 1 + 1 + nm.length) = i + 1 + 1 + nm.length + g.length := sk_pass g (b := U) (c := 62) h3 g1.2.2 (by decide)
  rw [token_eq U i (Nat.le_of_lt (drop_lt h')) hUb, decl_no h' (by decide), cF]
  unfold tokRest
  rw [no 33 _ (by decide), cF, no 33 _ (by decide), cF, no 33 _ (by decide), cF, no 33 _ (by decide), cF, no 63 _ (by decide), cF, here_pre (w := [60, 47]) (r := nm ++ (g ++ 62 :: R)) h', cT]
  unfold F_scan_scanner_closing
  dsimp only
  rw [w64 (x := (i : Int) + 2) (by omega) (by omega), show (i : Int) + 2 = ((i + 1 + 1 : Nat) : Int) by omega, hn, bS]
  dsimp only
  rw [show ((0 : Int) != 0) = false from rfl, cF, spaces_eq U _ _ (by omega) hUb, bS, hs, sign_eq U _ _ (by omega) hUb, if_pos (by rw [hereP_one, drop_get h4]; simp), bS]
  unfold endT endW
  simp only [List.length_append, List.length_cons, List.length_nil]
  show some _ = some _
  congr 3
  congr 1
  omega
abbrev BS : LB := [120, 109, 108, 110, 115]
abbrev BX : LB := [120, 109, 108]
abbrev SPN : LB := [104, 116, 116, 112, 58, 47, 47, 119, 119, 119, 46, 119, 51, 46, 111, 114, 103, 47, 50, 48, 48, 48, 47, 120, 109, 108, 110, 115, 47]
abbrev SPX : LB := [104, 116, 116, 112, 58, 47, 47, 119, 119, 119, 46, 119, 51, 46, 111, 114, 103, 47, 88, 77, 76, 47, 49, 57, 57, 56, 47, 110, 97, 109, 101, 115, 112, 97, 99, 101]
def wrongU (u : LB) : Int := if u = SPN ∨ u = SPX then 29 else if u = [] then 28 else if 100 < u.length then 6 else 0
theorem wrongU_0 {u : LB} (h : wrongU u = 0) : u ≠ [] ∧ u.length ≤ 100 := by
 unfold wrongU at h
 split at h
 ·cases h
 ·split at h
  ·cases h
  ·split at h
   ·cases h
   ·exact ⟨by assumption, by omega⟩
theorem wrong_p {p u : LB} (h1 : p ≠ BS) (h2 : p ≠ BX) : F_scope_wrong p u = some (if p = [] ∧ u = [] then 0 else wrongU u) := by
 have e1 : (p == BS) = false := by simpa using h1
 have e2 : (p == BX) = false := by simpa using h2
 have f : ([] : LB) ≠ SPN ∧ ([] : LB) ≠ SPX := by decide
 unfold F_scope_wrong
 simp only [letJ]
 rw [e1, cF, e2]
 unfold wrongU
 by_cases a : u = SPN
 ·rw [show (u == SPN) = true by simpa using a, cT, cT, if_neg (fun h => f.1 (h.2.symm.trans a)), if_pos (.inl a)]
 rw [show (u == SPN) = false by simpa using a, cF]
 by_cases b : u = SPX
 ·rw [show (u == SPX) = true by simpa using b, if_neg (fun h => f.2 (h.2.symm.trans b)), if_pos (.inr b)]; rfl
 rw [show (u == SPX) = false by simpa using b, show (!(false == false)) = false from rfl, cF, if_neg (show ¬ (u = SPN ∨ u = SPX) from fun h => h.elim a b)]
 by_cases c : u = []
 ·subst c
  by_cases d : p = []
  ·subst d; rfl
  ·rw [show (p == ([] : LB)) = false by simpa using d, if_neg (fun h => d h.1), if_pos rfl]; rfl
 ·rw [show (u == ([] : LB)) = false by simpa using c, Bool.and_false, cF, if_neg (fun h => c h.2), if_neg c]
  by_cases d : 100 < u.length
  ·rw [if_pos d, dT (by omega)]; rfl
  ·rw [if_neg d, dF (by omega)]; rfl
theorem dcl_q {p l v : LB} (hp : nameP p = true) (hl : nameP l = true) : F_scope_declares ⟨p ++ 58 :: l, v⟩ = some (if p = BS then (l, true) else ([], false)) := by
 unfold F_scope_declares
 dsimp only
 rw [split_q hp hl, bS]
 dsimp only
 by_cases h : p = BS
 ·rw [if_pos h, show (p == BS) = true by simpa using h]; rfl
 ·rw [if_neg h, show (p == BS) = false by simpa using h, Bool.and_false, cF]
  have : (p ++ 58 :: l == BS) = false := by
   rw [beq_eq_false_iff_ne]
   intro he
   have hm : (58 : UInt8) ∈ BS := by rw [← he]; simp
   revert hm; decide
  rw [this, cF]
theorem dcl_x {v : LB} : F_scope_declares ⟨BS, v⟩ = some ([], true) := by
 unfold F_scope_declares
 dsimp only
 rw [split_l name_xmlns, bS]
 rfl
theorem contains_no {h : List LB} {p : LB} (hl : h.length ≤ 1000) (hn : ∀ x ∈ h, x ≠ p) : F_slices_Contains_string_string h p = some false := by
 unfold F_slices_Contains_string_string F_slices_Index_string_string
 obtain ⟨o, e, rfl⟩ := iter_spec (b := F_slices_Index_string_string_l0 h p) (fun i x => x = (i : Int)) (fun o => o = .inl ()) h.length (x0 := (0 : Int)) rfl (by
  rintro i _ rec hi rfl
  left
  refine ⟨((i + 1 : Nat) : Int), ?_, rfl⟩
  unfold F_slices_Index_string_string_l0
  rw [dT (by omega), cT, idx_some hi, bS, show (p == h[i]) = false by rw [beq_eq_false_iff_ne]; exact (hn _ (List.getElem_mem hi)).symm, cF, w64 (by omega) (by omega)]
  rfl) (by
  rintro _ rec rfl
  refine ⟨_, ?_, rfl⟩
  unfold F_slices_Index_string_string_l0
  rw [dF (by omega), cF]) (n := FUEL) (by unfold FUEL; omega)
 simp only [letJ]
 rw [e]; rfl
theorem delete_no {h : List T_scope_bind} {p : LB} (hl : h.length ≤ 1000) (hn : ∀ x ∈ h, x.prefix_ ≠ p) : F_slices_DeleteFunc_scope_bind_scope_bind h (fun z0 => F_scope_Scope_Open_1 z0 p) = some h := by
 unfold F_slices_DeleteFunc_scope_bind_scope_bind F_slices_IndexFunc_scope_bind_scope_bind
 obtain ⟨o, e, rfl⟩ := iter_spec (b := F_slices_IndexFunc_scope_bind_scope_bind_l0 h (fun z0 => F_scope_Scope_Open_1 z0 p)) (fun i x => x = (i : Int)) (fun o => o = .inl ()) h.length (x0 := (0 : Int)) rfl (by
  rintro i _ rec hi rfl
  left
  refine ⟨((i + 1 : Nat) : Int), ?_, rfl⟩
  unfold F_slices_IndexFunc_scope_bind_scope_bind_l0 F_scope_Scope_Open_1
  rw [dT (by omega), cT, idx_some hi, bS]
  dsimp only
  rw [show ((h[i]).prefix_ == p) = false by rw [beq_eq_false_iff_ne]; exact hn _ (List.getElem_mem hi), bS, cF, w64 (by omega) (by omega)]
  rfl) (by
  rintro _ rec rfl
  refine ⟨_, ?_, rfl⟩
  unfold F_slices_IndexFunc_scope_bind_scope_bind_l0
  rw [dF (by omega), cF]) (n := FUEL) (by unfold FUEL; omega)
 simp only [letJ]
 rw [e]; rfl
section
variable {ps : List TP} {i m : Nat} {c b : List T_scope_bind} {had : List LB} {n v p : LB}
theorem open_skip (hi : ps[i]? = some ⟨n, v⟩) (hl : i ≤ 1000) (hd : F_scope_declares ⟨n, v⟩ = some ([], false)) :
  iter (F_scope_Scope_Open_l0 ps) (m + 1) (c, had, b, (i : Int)) = iter (F_scope_Scope_Open_l0 ps) m (c, had, b, ((i + 1 : Nat) : Int)) := by
 obtain ⟨hlt, hg⟩ := List.getElem?_eq_some_iff.1 hi
 refine iter_one fun rec => ?_
 unfold F_scope_Scope_Open_l0
 dsimp only
 simp only [letJ]
 rw [dT (by omega), cT, idx_some hlt, bS, hg, hd, bS]
 dsimp only
 rw [Bool.not_false, cT, w64 (by omega) (by omega)]
 rfl
theorem open_bad {e : Int} (hi : ps[i]? = some ⟨n, v⟩) (hd : F_scope_declares ⟨n, v⟩ = some (p, true)) (hw : F_scope_wrong p v = some e) (he : e ≠ 0) :
  iter (F_scope_Scope_Open_l0 ps) (m + 1) (c, had, b, (i : Int)) = some (.inr (⟨[]⟩, e)) := by
 obtain ⟨hlt, hg⟩ := List.getElem?_eq_some_iff.1 hi
 rw [iter_succ]
 generalize iter (F_scope_Scope_Open_l0 ps) m = rec
 unfold F_scope_Scope_Open_l0
 dsimp only
 simp only [letJ]
 rw [dT (by omega), cT, idx_some hlt, bS, hg, hd, bS]
 dsimp only
 rw [Bool.not_true, cF, hw, bS, show (e != 0) = true by simpa using he, cT]
theorem open_add (hi : ps[i]? = some ⟨n, v⟩) (hl : i ≤ 1000) (hd : F_scope_declares ⟨n, v⟩ = some (p, true)) (hw : F_scope_wrong p v = some 0) (hx : p ≠ BX) (h1 : had.length ≤ 100) (h2 : b.length ≤ 100) (h3 : ∀ x ∈ had, x ≠ p) (h4 : ∀ x ∈ b, x.prefix_ ≠ p) :
  iter (F_scope_Scope_Open_l0 ps) (m + 1) (c, had, b, (i : Int)) = iter (F_scope_Scope_Open_l0 ps) m (c, had ++ [p], (if v = [] then b else b ++ [⟨p, v⟩]), ((i + 1 : Nat) : Int)) := by
 obtain ⟨hlt, hg⟩ := List.getElem?_eq_some_iff.1 hi
 refine iter_one fun rec => ?_
 unfold F_scope_Scope_Open_l0
 dsimp only
 simp only [letJ]
 rw [dT (by omega), cT, idx_some hlt, bS, hg, hd, bS]
 dsimp only
 rw [Bool.not_true, cF, hw, bS, show ((0 : Int) != 0) = false from rfl, cF, contains_no (by omega) h3, bS, cF, app_some (by simp; omega) (by simp; omega), bS, delete_no (by omega) h4, bS,
  show (p == BX) = false by simpa using hx, w64 (by omega) (by omega)]
 by_cases hv : v = []
 ·subst hv
  rw [if_pos rfl]; rfl
 ·rw [show (v == ([] : LB)) = false by simpa using hv, Bool.not_false, Bool.and_self, cT, app_some (by simp; omega) (by simp; omega), bS, bS, if_neg hv]
  rfl
theorem open_end (hi : ps.length = i) : iter (F_scope_Scope_Open_l0 ps) (m + 1) (c, had, b, (i : Int)) = some (.inl (c, b)) := by
 rw [iter_succ]
 generalize iter (F_scope_Scope_Open_l0 ps) m = rec
 unfold F_scope_Scope_Open_l0
 dsimp only
 rw [dF (by omega), cF]
def openR : (List T_scope_bind × List T_scope_bind) ⊕ (T_scope_Scope × Int) → T_scope_Scope × Int
 | .inl x => (⟨x.2⟩, 0)
 | .inr x => x
theorem open_of {s : List T_scope_bind} {o : (List T_scope_bind × List T_scope_bind) ⊕ (T_scope_Scope × Int)} (hs : s.length ≤ 1000) (h : ∃ m, iter (F_scope_Scope_Open_l0 ps) (m + 10) (([] : List T_scope_bind), ([] : List LB), s, (0 : Int)) = some o ∧ FUEL = m + 10) :
  F_scope_Scope_Open ⟨s⟩ ps = some (openR o) := by
 obtain ⟨m, h, hm⟩ := h
 unfold F_scope_Scope_Open
 dsimp only
 rw [app_some (by simp; omega) (by simp; omega), bS, List.nil_append]
 simp only [letJ]
 rw [← hm] at h
 rw [h, bS]
 cases o <;> rfl
end
theorem bound_at {A B : List T_scope_bind} {p u : LB} (hp : p ≠ BX) (hA : A.length ≤ 100) (hn : ∀ x ∈ A, x.prefix_ ≠ p) : F_scope_Scope_Bound ⟨A ++ ⟨p, u⟩ :: B⟩ p = some (u, true) := by
 unfold F_scope_Scope_Bound
 rw [show (p == BX) = false by simpa using hp, cF]
 obtain ⟨o, e, rfl⟩ := iter_spec (b := F_scope_Scope_Bound_l0 ⟨A ++ ⟨p, u⟩ :: B⟩ p) (fun i x => x = (i : Int)) (fun o => o = .inr (u, true)) A.length (x0 := (0 : Int)) rfl (by
  rintro i _ rec hi rfl
  left
  refine ⟨((i + 1 : Nat) : Int), ?_, rfl⟩
  have hi2 : i < (A ++ ⟨p, u⟩ :: B : List T_scope_bind).length := by simp; omega
  have hg : (A ++ ⟨p, u⟩ :: B : List T_scope_bind)[i] = A[i] := List.getElem_append_left hi
  unfold F_scope_Scope_Bound_l0
  dsimp only
  rw [dT (by omega), cT, idx_some hi2, bS, hg, show ((A[i]).prefix_ == p) = false by rw [beq_eq_false_iff_ne]; exact hn _ (List.getElem_mem hi), cF, w64 (by omega) (by omega)]
  rfl) (by
  rintro _ rec rfl
  refine ⟨_, ?_, rfl⟩
  have hi2 : A.length < (A ++ ⟨p, u⟩ :: B : List T_scope_bind).length := by simp
  have hg : (A ++ ⟨p, u⟩ :: B : List T_scope_bind)[A.length] = ⟨p, u⟩ := by simp
  unfold F_scope_Scope_Bound_l0
  dsimp only
  rw [dT (by omega), cT, idx_some hi2, bS, hg, show (p == p) = true by simp, cT]) (n := FUEL) (by unfold FUEL; omega)
 simp only [letJ]
 rw [e]; rfl
theorem elem_q {s : List T_scope_bind} {p l u : LB} (hp : nameP p = true) (hl : nameP l = true) (h1 : p ≠ BS) (hb : F_scope_Scope_Bound ⟨s⟩ p = some (u, true)) : F_scope_Scope_Element ⟨s⟩ (p ++ 58 :: l) = some (⟨u, l⟩, 0) := by
 unfold F_scope_Scope_Element
 rw [split_q hp hl, bS]
 dsimp only
 rw [Bool.not_true, cF, show (p == BS) = false by simpa using h1, cF, hb, bS]
 rfl
theorem elem_l {s : List T_scope_bind} {l u : LB} (hl : nameP l = true) (hb : F_scope_Scope_Bound ⟨s⟩ [] = some (u, true)) : F_scope_Scope_Element ⟨s⟩ l = some (⟨u, l⟩, 0) := by
 unfold F_scope_Scope_Element
 rw [split_l hl, bS]
 dsimp only
 rw [Bool.not_true, cF, show (([] : LB) == BS) = false from rfl, cF, hb, bS]
 rfl
section
variable {ps : List TP} {i m : Nat} {s : List T_scope_bind} {a : List T_api_Attr} {n v p l u : LB}
theorem attrs_skip {q : LB} (hi : ps[i]? = some ⟨n, v⟩) (hl : i ≤ 1000) (hd : F_scope_declares ⟨n, v⟩ = some (q, true)) :
  iter (F_scope_Scope_Attrs_l0 ⟨s⟩ ps) (m + 1) (a, (i : Int)) = iter (F_scope_Scope_Attrs_l0 ⟨s⟩ ps) m (a, ((i + 1 : Nat) : Int)) := by
 obtain ⟨hlt, hg⟩ := List.getElem?_eq_some_iff.1 hi
 refine iter_one fun rec => ?_
 unfold F_scope_Scope_Attrs_l0
 dsimp only
 simp only [letJ]
 rw [dT (by omega), cT, idx_some hlt, bS, hg, hd, bS]
 dsimp only
 rw [cT, w64 (by omega) (by omega)]
 rfl
theorem attrs_add (hi : ps[i]? = some ⟨p ++ 58 :: l, v⟩) (hil : i ≤ 1000) (ha : a.length ≤ 1000) (hp : nameP p = true) (hl : nameP l = true) (h1 : p ≠ BS) (hb : F_scope_Scope_Bound ⟨s⟩ p = some (u, true)) :
  iter (F_scope_Scope_Attrs_l0 ⟨s⟩ ps) (m + 1) (a, (i : Int)) = iter (F_scope_Scope_Attrs_l0 ⟨s⟩ ps) m (a ++ [⟨⟨u, l⟩, v⟩], ((i + 1 : Nat) : Int)) := by
 obtain ⟨hlt, hg⟩ := List.getElem?_eq_some_iff.1 hi
 refine iter_one fun rec => ?_
 unfold F_scope_Scope_Attrs_l0
 dsimp only
 simp only [letJ]
 rw [dT (by omega), cT, idx_some hlt, bS, hg, dcl_q hp hl, if_neg h1, bS]
 dsimp only
 rw [cF, elem_q hp hl h1 hb, bS]
 dsimp only
 rw [show ((0 : Int) != 0) = false from rfl, cF, split_q hp hl, bS]
 dsimp only
 rw [show (p == ([] : LB)) = false by simpa using (name_part hp).1, cF, app_some (by simp; omega) (by simp; omega), bS, bS, w64 (by omega) (by omega)]
 rfl
theorem attrs_end (hi : ps.length = i) : iter (F_scope_Scope_Attrs_l0 ⟨s⟩ ps) (m + 1) (a, (i : Int)) = some (.inl a) := by
 rw [iter_succ]
 generalize iter (F_scope_Scope_Attrs_l0 ⟨s⟩ ps) m = rec
 unfold F_scope_Scope_Attrs_l0
 dsimp only
 rw [dF (by omega), cF]
theorem sort_0 : F_slices_SortStableFunc_api_Attr_api_Attr [] F_scope_Scope_Attrs_1 = some [] := by kernel_rfl
theorem sort_1 (x : T_api_Attr) : F_slices_SortStableFunc_api_Attr_api_Attr [x] F_scope_Scope_Attrs_1 = some [x] := by kernel_rfl
theorem twice_1 (x : T_api_Attr) : iter (F_scope_Scope_Attrs_l1 [x]) FUEL (0 : Int) = some (.inl ()) := by kernel_rfl
theorem twice_0 : iter (F_scope_Scope_Attrs_l1 []) FUEL (0 : Int) = some (.inl ()) := by kernel_rfl
theorem attrs_of1 {x : T_api_Attr} (h : ∃ m, iter (F_scope_Scope_Attrs_l0 ⟨s⟩ ps) (m + 10) (([] : List T_api_Attr), (0 : Int)) = some (.inl [x]) ∧ FUEL = m + 10) : F_scope_Scope_Attrs ⟨s⟩ ps = some ([x], 0) := by
 obtain ⟨m, h, hm⟩ := h
 unfold F_scope_Scope_Attrs
 simp only [letJ]
 rw [← hm] at h
 rw [h, bS]
 dsimp only
 rw [sort_1, bS, bS, show eqL [x] [x] = some () from rfl, bS, twice_1, bS]
theorem attrs_of0 (h : ∃ m, iter (F_scope_Scope_Attrs_l0 ⟨s⟩ ps) (m + 10) (([] : List T_api_Attr), (0 : Int)) = some (.inl []) ∧ FUEL = m + 10) : F_scope_Scope_Attrs ⟨s⟩ ps = some ([], 0) := by
 obtain ⟨m, h, hm⟩ := h
 unfold F_scope_Scope_Attrs
 simp only [letJ]
 rw [← hm] at h
 rw [h, bS]
 dsimp only
 rw [sort_0, bS, bS, show eqL ([] : List T_api_Attr) [] = some () from rfl, bS, twice_0, bS]
end
section
variable {a : Op} {l : List Op} {n : Int} {d : Bool} {t : Tk} {s : List T_scope_bind}
theorem begin_ok {nm : T_api_Name} {v : List T_api_Attr} (c1 : ¬ (l.length = 0 ∧ d = true)) (hl : l.length ≤ 32) (h0 : 0 ≤ n) (h1 : n ≤ 1000000) (hO : F_scope_Scope_Open a.in_ t.Pairs = some (⟨s⟩, 0)) (hE : F_scope_Scope_Element ⟨s⟩ t.Name = some (nm, 0)) (hA : F_scope_Scope_Attrs ⟨s⟩ t.Pairs = some (v, 0)) (hv : bigA v = false) (hvl : v.length ≤ 1000) :
  F_parse_reader_begin ⟨a :: l, n, d⟩ t = some (0, ⟨⟨⟨2, nm, v, [], []⟩, t.Name, ⟨s⟩⟩ :: a :: l, n + 1, d⟩) := by
 rw [begin_key t (by omega) c1, dF (by omega), cF, hO, bS]
 dsimp only
 rw [show ((0 : Int) != 0) = false from rfl, cF, hE, bS]
 dsimp only
 rw [show ((0 : Int) != 0) = false from rfl, cF, hA, bS]
 dsimp only
 rw [show ((0 : Int) != 0) = false from rfl, cF, begin_l0 _ _ (by dsimp only; omega), bS]
 dsimp only
 rw [hv]
 simp only [Bool.false_eq_true, if_false]
 rw [app_some (by simp only [List.length_cons, List.length_nil]; omega) (by simp only [List.length_cons, List.length_nil]; omega), bS, w64 (by omega) (by omega)]
theorem begin_bad {e : Int} (c1 : ¬ (l.length = 0 ∧ d = true)) (hl : l.length ≤ 32) {s' : T_scope_Scope} (hO : F_scope_Scope_Open a.in_ t.Pairs = some (s', e)) (he : e ≠ 0) : F_parse_reader_begin ⟨a :: l, n, d⟩ t = some (e, ⟨a :: l, n, d⟩) := by
 rw [begin_key t (by omega) c1, dF (by omega), cF, hO, bS]
 dsimp only
 rw [show (e != 0) = true by simpa using he, cT]
end
theorem sameAttrs_self (l : List T_api_Attr) (hl : l.length ≤ 1000) : F_lecternref04_SameAttrs l l = some true := by
 unfold F_lecternref04_SameAttrs
 rw [bne_self_eq_false, cF]
 obtain ⟨o, e, rfl⟩ := iter_spec (b := F_lecternref04_SameAttrs_l0 l l) (fun i x => x = (i : Int)) (fun o => o = .inl ()) l.length (x0 := (0 : Int)) rfl (by
  rintro i _ rec hi rfl
  left
  refine ⟨((i + 1 : Nat) : Int), ?_, rfl⟩
  unfold F_lecternref04_SameAttrs_l0
  rw [dT (by omega), cT, idx_some hi, bS, bS]
  simp only [beq_self_eq_true, Bool.and_self, Bool.not_true, cF]
  rw [w64 (by omega) (by omega)]
  rfl) (by
  rintro _ rec rfl
  refine ⟨_, ?_, rfl⟩
  unfold F_lecternref04_SameAttrs_l0
  rw [dF (by omega), cF]) (n := FUEL) (by unfold FUEL; omega)
 simp only [letJ]
 rw [e]; rfl
theorem same_step {x : T_api_Node} {m : Nat} (ha : x.Attrs.length ≤ 1000) (hk : x.Kids.length ≤ 1000) (h : ∀ k ∈ x.Kids, iter F_lecternref05_Same_b m (k, k) = some true) : iter F_lecternref05_Same_b (m + 1) (x, x) = some true := by
 rw [iter_succ]
 generalize iter F_lecternref05_Same_b m = rc at h ⊢
 unfold F_lecternref05_Same_b
 dsimp only
 simp only [letJ, bne_self_eq_false, beq_self_eq_true, Bool.and_self, Bool.not_true, Bool.or_self, cF]
 rw [sameAttrs_self _ ha, bS, Bool.not_true, show (false || false) = false from rfl, cF]
 obtain ⟨o, e, rfl⟩ := iter_spec (b := F_lecternref05_Same_l0 x x rc) (fun i y => y = (i : Int)) (fun o => o = .inl ()) x.Kids.length (x0 := (0 : Int)) rfl (by
  rintro i _ rec hi rfl
  left
  refine ⟨((i + 1 : Nat) : Int), ?_, rfl⟩
  unfold F_lecternref05_Same_l0
  rw [dT (by omega), cT, idx_some hi, bS, bS, h _ (List.getElem_mem hi), bS, Bool.not_true, cF, w64 (by omega) (by omega)]
  rfl) (by
  rintro _ rec rfl
  refine ⟨_, ?_, rfl⟩
  unfold F_lecternref05_Same_l0
  rw [dF (by omega), cF]) (n := FUEL) (by unfold FUEL; omega)
 rw [e]; rfl
theorem run_2 {t : Tk} {L : List Tk} {r r' : Rdr} (hk : t.Kind = 2) (hb : F_parse_reader_begin r t = some (0, r')) (hn : r'.nodes ≤ 2000) : runR (t :: L) r = runR L r' := by
 show (F_parse_reader_take r t).bind _ = _
 rw [take_2 hk, hb, bS, fin_ok hn, bS]
 dsimp only
 rw [if_neg (by simp)]
theorem run_2e {t : Tk} {L : List Tk} {r r' : Rdr} {e : Int} (hk : t.Kind = 2) (hb : F_parse_reader_begin r t = some (e, r')) (he : e ≠ 0) : runR (t :: L) r = some (.inr (t.At, e)) := by
 show (F_parse_reader_take r t).bind _ = _
 rw [take_2 hk, hb, bS, show fin (e, r') = (e, r') by unfold fin; rw [if_neg (fun h => he h.1)], bS]
 dsimp only
 rw [if_pos he]
theorem run_4 {t : Tk} {L : List Tk} {r r' : Rdr} {a b : Op} {l : List Op} {n : Int} {d : Bool} (hk : t.Kind = 4) (hb : F_parse_reader_begin r t = some (0, ⟨a :: b :: l, n, d⟩)) (hn : n ≤ 2000) (hl : l.length ≤ 1000) (hkl : b.node.Kids.length ≤ 1000) :
  runR (t :: L) r = runR L ⟨kid b a.node :: l, n, d || decide (l.length = 0)⟩ := by
 show (F_parse_reader_take r t).bind _ = _
 rw [take_4 hk, hb, bS]
 dsimp only
 rw [if_pos rfl, close_eq (by omega) (by omega), bS, fin_ok hn, bS]
 dsimp only
 rw [if_neg (by simp)]
theorem run_3 {t : Tk} {L : List Tk} {a b : Op} {l : List Op} {n : Int} {d : Bool} (hk : t.Kind = 3) (hr : a.raw = t.Name) (hn : n ≤ 2000) (hl : l.length ≤ 1000) (hkl : b.node.Kids.length ≤ 1000) :
  runR (t :: L) ⟨a :: b :: l, n, d⟩ = runR L ⟨kid b a.node :: l, n, d || decide (l.length = 0)⟩ := by
 show (F_parse_reader_take _ t).bind _ = _
 rw [take_3 hk]
 dsimp only
 rw [if_neg (by simp), top_len (by simp; omega), bS, if_pos hr, close_eq (by omega) (by omega), bS, fin_ok hn, bS]
 dsimp only
 rw [if_neg (by simp)]
def two (n1 n2 : T_api_Name) (a1 : List T_api_Attr) : Nd := ⟨1, ⟨[], []⟩, [], [⟨2, n1, a1, [⟨2, n2, [], [], []⟩], []⟩], []⟩
theorem r0_doc : r0 = ⟨[doc0], 0, false⟩ := rfl
section
variable {nm nm2 : LB} {ps ps2 : List Ent}
theorem like3 {x y z : LB × Tk} {M : List Tk} (h : LikeP [x, y, z] M) : ∃ n1 a1 n2 a2 n3 a3, M = [⟨x.2.Kind, a1, x.2.Name, x.2.Pairs, x.2.Text, n1⟩, ⟨y.2.Kind, a2, y.2.Name, y.2.Pairs, y.2.Text, n2⟩, ⟨z.2.Kind, a3, z.2.Name, z.2.Pairs, z.2.Text, n3⟩] := by
 obtain ⟨A, B, rfl, h1, h2⟩ := likeP_split (L1 := [x]) (L2 := [y, z]) h
 obtain ⟨C, D, rfl, h3, h4⟩ := likeP_split (L1 := [y]) (L2 := [z]) h2
 obtain ⟨n1, a1, rfl⟩ := likeP_one h1
 obtain ⟨n2, a2, rfl⟩ := likeP_one h3
 obtain ⟨n3, a3, rfl⟩ := likeP_one h4
 exact ⟨n1, a1, n2, a2, n3, a3, rfl⟩
theorem like4 {w x y z : LB × Tk} {M : List Tk} (h : LikeP [w, x, y, z] M) : ∃ n0 a0 n1 a1 n2 a2 n3 a3, M = [⟨w.2.Kind, a0, w.2.Name, w.2.Pairs, w.2.Text, n0⟩, ⟨x.2.Kind, a1, x.2.Name, x.2.Pairs, x.2.Text, n1⟩, ⟨y.2.Kind, a2, y.2.Name, y.2.Pairs, y.2.Text, n2⟩, ⟨z.2.Kind, a3, z.2.Name, z.2.Pairs, z.2.Text, n3⟩] := by
 obtain ⟨A, B, rfl, h1, h2⟩ := likeP_split (L1 := [w]) (L2 := [x, y, z]) h
 obtain ⟨n0, a0, rfl⟩ := likeP_one h1
 obtain ⟨n1, a1, n2, a2, n3, a3, rfl⟩ := like3 h2
 exact ⟨n0, a0, n1, a1, n2, a2, n3, a3, rfl⟩
theorem no5 {L : List (LB × Tk)} {w : LB} {t : Tk} (h : RowP L) (p : Pie w t) (hk : t.Kind ≠ 5) : RowP (L ++ [(w, t)]) := .snoc h p fun h => absurd h hk
theorem tagT_5 (nm : LB) (ps : List Ent) (b : Bool) : (tagT nm ps b).Kind ≠ 5 := by cases b <;> simp [tagT]
def d3 (nm nm2 : LB) (ps ps2 : List Ent) : LB := tagW nm ps false ++ (tagW nm2 ps2 true ++ endW nm [])
def d4 (nm nm2 : LB) (ps : List Ent) : LB := tagW nm ps false ++ (tagW nm2 [] false ++ (endW nm2 [32] ++ endW nm []))
theorem all3 : allP [(tagW nm ps false, tagT nm ps false), (tagW nm2 ps2 true, tagT nm2 ps2 true), (endW nm [], endT nm)] = d3 nm nm2 ps ps2 := by
 simp [allP, d3]
theorem all4 : allP [(tagW nm ps false, tagT nm ps false), (tagW nm2 [] false, tagT nm2 [] false), (endW nm2 [32], endT nm2), (endW nm [], endT nm)] = d4 nm nm2 ps := by
 simp [allP, d4]
theorem row3 (h1 : Pie (tagW nm ps false) (tagT nm ps false)) (h2 : Pie (tagW nm2 ps2 true) (tagT nm2 ps2 true)) (h3 : Pie (endW nm []) (endT nm)) : RowP [(tagW nm ps false, tagT nm ps false), (tagW nm2 ps2 true, tagT nm2 ps2 true), (endW nm [], endT nm)] :=
 no5 (no5 (no5 .nil h1 (tagT_5 _ _ _)) h2 (tagT_5 _ _ _)) h3 (by simp [endT])
theorem row4 (h1 : Pie (tagW nm ps false) (tagT nm ps false)) (h2 : Pie (tagW nm2 [] false) (tagT nm2 [] false)) (h3 : Pie (endW nm2 [32]) (endT nm2)) (h4 : Pie (endW nm []) (endT nm)) : RowP [(tagW nm ps false, tagT nm ps false), (tagW nm2 [] false, tagT nm2 [] false), (endW nm2 [32], endT nm2), (endW nm [], endT nm)] :=
 no5 (no5 (no5 (no5 .nil h1 (tagT_5 _ _ _)) h2 (tagT_5 _ _ _)) h3 (by simp [endT])) h4 (by simp [endT])
theorem read3 (h1 : Pie (tagW nm ps false) (tagT nm ps false)) (h2 : Pie (tagW nm2 ps2 true) (tagT nm2 ps2 true)) (h3 : Pie (endW nm []) (endT nm)) (hl : (d3 nm nm2 ps ps2).length ≤ 65536) :
  (∀ s e, F_scope_Scope_Open ⟨[]⟩ (prs ps) = some (s, e) → e ≠ 0 → ∃ r, F_parse_Parse (d3 nm nm2 ps ps2) = some r ∧ r.2.2 ≠ 0) ∧
  (∀ s s2 n1 n2 a, F_scope_Scope_Open ⟨[]⟩ (prs ps) = some (⟨s⟩, 0) → F_scope_Scope_Element ⟨s⟩ nm = some (n1, 0) → F_scope_Scope_Attrs ⟨s⟩ (prs ps) = some ([a], 0) → bigA [a] = false →
   F_scope_Scope_Open ⟨s⟩ (prs ps2) = some (⟨s2⟩, 0) → F_scope_Scope_Element ⟨s2⟩ nm2 = some (n2, 0) → F_scope_Scope_Attrs ⟨s2⟩ (prs ps2) = some ([], 0) → F_parse_Parse (d3 nm nm2 ps ps2) = some (two n1 n2 [a], 0, 0)) := by
 obtain ⟨M, m1, m2, m3⟩ := parseP (row3 h1 h2 h3) all3 rfl hl
 obtain ⟨n1, a1, n2, a2, n3, a3, rfl⟩ := like3 m1
 rw [r0_doc] at m3
 refine ⟨fun s e hO he => ?_, fun s s2 m1' m2' a hO hE hA hb hO2 hE2 hA2 => ?_⟩
 ·have hb := begin_bad (a := doc0) (l := []) (n := 0) (d := false) (t := ⟨(tagT nm ps false).Kind, a1, (tagT nm ps false).Name, (tagT nm ps false).Pairs, (tagT nm ps false).Text, n1⟩) (by simp) (by simp) hO he
  rw [run_2e rfl hb he] at m3
  exact ⟨_, m3, he⟩
 ·have hb1 := begin_ok (a := doc0) (l := []) (n := 0) (d := false) (t := ⟨(tagT nm ps false).Kind, a1, (tagT nm ps false).Name, (tagT nm ps false).Pairs, (tagT nm ps false).Text, n1⟩) (by simp) (by simp) (by omega) (by omega) hO hE hA hb (by simp)
  rw [run_2 rfl hb1 (by dsimp only; omega)] at m3
  have hb2 := begin_ok (a := ⟨⟨2, m1', [a], [], []⟩, nm, ⟨s⟩⟩) (l := [doc0]) (n := 0 + 1) (d := false) (t := ⟨(tagT nm2 ps2 true).Kind, a2, (tagT nm2 ps2 true).Name, (tagT nm2 ps2 true).Pairs, (tagT nm2 ps2 true).Text, n2⟩) (by simp) (by simp) (by omega) (by omega) hO2 hE2 hA2 (by simp [bigA]) (by simp)
  have hs2 := run_4 (L := [⟨(endT nm).Kind, a3, (endT nm).Name, (endT nm).Pairs, (endT nm).Text, n3⟩]) (r' := r0) rfl hb2 (by omega) (by simp) (by simp)
  have m4 := m3.trans (congrArg (fun z => Option.bind z _) hs2)
  rw [run_3 rfl rfl (by omega) (by simp) (by simp [doc0])] at m4
  exact m4
theorem read4 (h1 : Pie (tagW nm ps false) (tagT nm ps false)) (h2 : Pie (tagW nm2 [] false) (tagT nm2 [] false)) (h3 : Pie (endW nm2 [32]) (endT nm2)) (h4 : Pie (endW nm []) (endT nm)) (hl : (d4 nm nm2 ps).length ≤ 65536) :
  (∀ s e, F_scope_Scope_Open ⟨[]⟩ (prs ps) = some (s, e) → e ≠ 0 → ∃ r, F_parse_Parse (d4 nm nm2 ps) = some r ∧ r.2.2 ≠ 0) ∧
  (∀ s n1 n2 a, F_scope_Scope_Open ⟨[]⟩ (prs ps) = some (⟨s⟩, 0) → F_scope_Scope_Element ⟨s⟩ nm = some (n1, 0) → F_scope_Scope_Attrs ⟨s⟩ (prs ps) = some ([a], 0) → bigA [a] = false →
   F_scope_Scope_Open ⟨s⟩ [] = some (⟨s⟩, 0) → F_scope_Scope_Element ⟨s⟩ nm2 = some (n2, 0) → F_parse_Parse (d4 nm nm2 ps) = some (two n1 n2 [a], 0, 0)) := by
 obtain ⟨M, m1, m2, m3⟩ := parseP (row4 h1 h2 h3 h4) all4 rfl hl
 obtain ⟨n1, a1, n2, a2, n3, a3, n4, a4, rfl⟩ := like4 m1
 rw [r0_doc] at m3
 refine ⟨fun s e hO he => ?_, fun s m1' m2' a hO hE hA hb hO2 hE2 => ?_⟩
 ·have hb := begin_bad (a := doc0) (l := []) (n := 0) (d := false) (t := ⟨(tagT nm ps false).Kind, a1, (tagT nm ps false).Name, (tagT nm ps false).Pairs, (tagT nm ps false).Text, n1⟩) (by simp) (by simp) hO he
  rw [run_2e rfl hb he] at m3
  exact ⟨_, m3, he⟩
 ·have hb1 := begin_ok (a := doc0) (l := []) (n := 0) (d := false) (t := ⟨(tagT nm ps false).Kind, a1, (tagT nm ps false).Name, (tagT nm ps false).Pairs, (tagT nm ps false).Text, n1⟩) (by simp) (by simp) (by omega) (by omega) hO hE hA hb (by simp)
  rw [run_2 rfl hb1 (by dsimp only; omega)] at m3
  have hb2 := begin_ok (a := ⟨⟨2, m1', [a], [], []⟩, nm, ⟨s⟩⟩) (l := [doc0]) (n := 0 + 1) (d := false) (t := ⟨(tagT nm2 [] false).Kind, a2, (tagT nm2 [] false).Name, (tagT nm2 [] false).Pairs, (tagT nm2 [] false).Text, n2⟩) (by simp) (by simp) (by omega) (by omega) hO2 hE2 (attrs_nil _) (by simp [bigA]) (by simp)
  have hs2 := run_2 (L := [⟨(endT nm2).Kind, a3, (endT nm2).Name, (endT nm2).Pairs, (endT nm2).Text, n3⟩, ⟨(endT nm).Kind, a4, (endT nm).Name, (endT nm).Pairs, (endT nm).Text, n4⟩]) rfl hb2 (by dsimp only; omega)
  have m4 := m3.trans (congrArg (fun z => Option.bind z _) hs2)
  rw [run_3 rfl rfl (by omega) (by simp) (by simp), run_3 rfl rfl (by omega) (by simp) (by simp [doc0])] at m4
  exact m4
end
abbrev BXX : LB := [120]
abbrev B1 : LB := [49]
theorem fuel10 : ∃ m, FUEL = m + 10 := ⟨FUEL - 10, by unfold FUEL; omega⟩
abbrev eX (p u : LB) : Ent := ((34, quE), ⟨BS ++ 58 :: p, u⟩)
abbrev eD (u : LB) : Ent := ((34, quE), ⟨BS, u⟩)
abbrev eA (p : LB) : Ent := ((39, apE), ⟨p ++ 58 :: BXX, B1⟩)
abbrev atX (u : LB) : T_api_Attr := ⟨⟨u, BXX⟩, B1⟩
structure Pre (p : LB) : Prop where
 n : nameP p = true
 s : p ≠ BS
 x : p ≠ BX
section
variable {p l u : LB}
theorem pre_ne (hp : Pre p) : p ≠ [] := (name_part hp.n).1
theorem wr (hp : Pre p) : F_scope_wrong p u = some (wrongU u) := by rw [wrong_p hp.s hp.x, if_neg (fun h => pre_ne hp h.1)]
theorem dX (hp : Pre p) : F_scope_declares ⟨BS ++ 58 :: p, u⟩ = some (p, true) := by rw [dcl_q name_xmlns hp.n, if_pos rfl]
theorem dA (hp : Pre p) {v : LB} : F_scope_declares ⟨p ++ 58 :: BXX, v⟩ = some ([], false) := by rw [dcl_q hp.n name_x, if_neg hp.s]
theorem bigX : bigA [atX u] = false := by simp [bigA]
theorem openA_bad (hp : Pre p) (h : wrongU u ≠ 0) : F_scope_Scope_Open ⟨[]⟩ (prs [eX p u, eA p]) = some (⟨[]⟩, wrongU u) := by
 obtain ⟨m, hm⟩ := fuel10
 exact open_of (by simp) ⟨m, open_bad (i := 0) rfl (dX hp) (wr hp) h, hm⟩
theorem openA (hp : Pre p) (h : wrongU u = 0) : F_scope_Scope_Open ⟨[]⟩ (prs [eX p u, eA p]) = some (⟨[⟨p, u⟩]⟩, 0) := by
 obtain ⟨m, hm⟩ := fuel10
 refine (open_of (by simp) ⟨m, ?_, hm⟩).trans (congrArg some (show openR (.inl ([], [⟨p, u⟩])) = _ from rfl))
 have s1 := open_add (ps := prs [eX p u, eA p]) (i := 0) (m := m + 9) (c := []) (b := []) (had := []) rfl (by omega) (dX hp) ((wr (u := u) hp).trans (by rw [h])) hp.x (by simp) (by simp) (by simp) (by simp)
 rw [if_neg (wrongU_0 h).1] at s1
 have s2 := open_skip (ps := prs [eX p u, eA p]) (i := 1) (m := m + 8) (c := []) (b := [] ++ [⟨p, u⟩]) (had := [] ++ [p]) rfl (by omega) (dA hp)
 have s3 := open_end (ps := prs [eX p u, eA p]) (i := 2) (m := m + 7) (c := []) (b := [] ++ [⟨p, u⟩]) (had := [] ++ [p]) rfl
 exact s1.trans (s2.trans s3)
theorem bndP (hp : Pre p) {B : List T_scope_bind} : F_scope_Scope_Bound ⟨⟨p, u⟩ :: B⟩ p = some (u, true) := bound_at (A := []) hp.x (by simp) (by simp)
theorem attrsA (hp : Pre p) : F_scope_Scope_Attrs ⟨[⟨p, u⟩]⟩ (prs [eX p u, eA p]) = some ([atX u], 0) := by
 obtain ⟨m, hm⟩ := fuel10
 refine attrs_of1 ⟨m, ?_, hm⟩
 have s1 := attrs_skip (ps := prs [eX p u, eA p]) (s := [⟨p, u⟩]) (i := 0) (m := m + 9) (a := []) rfl (by omega) (dX hp)
 have s2 := attrs_add (ps := prs [eX p u, eA p]) (s := [⟨p, u⟩]) (i := 1) (m := m + 8) (a := []) rfl (by omega) (by simp) hp.n name_x hp.s (bndP hp)
 have s3 := attrs_end (ps := prs [eX p u, eA p]) (s := [⟨p, u⟩]) (i := 2) (m := m + 7) (a := [] ++ [atX u]) rfl
 exact s1.trans (s2.trans s3)
theorem open_none {s : List T_scope_bind} (hs : s.length ≤ 1000) : F_scope_Scope_Open ⟨s⟩ [] = some (⟨s⟩, 0) := by
 obtain ⟨m, hm⟩ := fuel10
 exact open_of hs ⟨m, open_end (ps := []) (i := 0) (m := m + 9) rfl, hm⟩
theorem openB_bad (hp : Pre p) (h : wrongU u ≠ 0) : ∃ e, F_scope_Scope_Open ⟨[]⟩ (prs [eD u, eX p u, eA p]) = some (⟨[]⟩, e) ∧ e ≠ 0 := by
 obtain ⟨m, hm⟩ := fuel10
 have hw := wrong_p (p := []) (u := u) (by decide) (by decide)
 by_cases hu : u = []
 ·subst hu
  rw [if_pos ⟨rfl, rfl⟩] at hw
  have s1 := open_add (ps := prs [eD [], eX p [], eA p]) (i := 0) (m := m + 9) (c := []) (b := []) (had := []) rfl (by omega) dcl_x hw (by decide) (by simp) (by simp) (by simp) (by simp)
  have s2 := open_bad (ps := prs [eD [], eX p [], eA p]) (i := 1) (m := m + 8) (c := []) (b := []) (had := [] ++ [[]]) rfl (dX hp) (wr hp) h
  exact ⟨_, open_of (by simp) ⟨m, s1.trans s2, hm⟩, h⟩
 ·rw [if_neg (fun h => hu h.2)] at hw
  exact ⟨_, open_of (by simp) ⟨m, open_bad (i := 0) rfl dcl_x hw h, hm⟩, h⟩
theorem openB (hp : Pre p) (h : wrongU u = 0) : F_scope_Scope_Open ⟨[]⟩ (prs [eD u, eX p u, eA p]) = some (⟨[⟨[], u⟩, ⟨p, u⟩]⟩, 0) := by
 obtain ⟨m, hm⟩ := fuel10
 have hu := (wrongU_0 h).1
 have hw := wrong_p (p := []) (u := u) (by decide) (by decide)
 rw [if_neg (fun h => hu h.2), h] at hw
 have hne := pre_ne hp
 refine (open_of (by simp) ⟨m, ?_, hm⟩).trans (congrArg some (show openR (.inl ([], [⟨[], u⟩, ⟨p, u⟩])) = _ from rfl))
 have s1 := open_add (ps := prs [eD u, eX p u, eA p]) (i := 0) (m := m + 9) (c := []) (b := []) (had := []) rfl (by omega) dcl_x hw (by decide) (by simp) (by simp) (by simp) (by simp)
 rw [if_neg hu] at s1
 have s2 := open_add (ps := prs [eD u, eX p u, eA p]) (i := 1) (m := m + 8) (c := []) (b := [] ++ [⟨[], u⟩]) (had := [] ++ [[]]) rfl (by omega) (dX hp) ((wr (u := u) hp).trans (by rw [h])) hp.x (by simp) (by simp) (by simp [hne.symm]) (by simp [hne.symm])
 rw [if_neg hu] at s2
 have s3 := open_skip (ps := prs [eD u, eX p u, eA p]) (i := 2) (m := m + 7) (c := []) (b := [] ++ [⟨[], u⟩] ++ [⟨p, u⟩]) (had := [] ++ [[]] ++ [p]) rfl (by omega) (dA hp)
 have s4 := open_end (ps := prs [eD u, eX p u, eA p]) (i := 3) (m := m + 6) (c := []) (b := [] ++ [⟨[], u⟩] ++ [⟨p, u⟩]) (had := [] ++ [[]] ++ [p]) rfl
 exact s1.trans (s2.trans (s3.trans s4))
theorem bndB (hp : Pre p) : F_scope_Scope_Bound ⟨[⟨[], u⟩, ⟨p, u⟩]⟩ p = some (u, true) := bound_at (A := [⟨[], u⟩]) (B := []) hp.x (by simp) (by simp [(pre_ne hp).symm])
theorem attrsB (hp : Pre p) : F_scope_Scope_Attrs ⟨[⟨[], u⟩, ⟨p, u⟩]⟩ (prs [eD u, eX p u, eA p]) = some ([atX u], 0) := by
 obtain ⟨m, hm⟩ := fuel10
 refine attrs_of1 ⟨m, ?_, hm⟩
 have s1 := attrs_skip (ps := prs [eD u, eX p u, eA p]) (s := [⟨[], u⟩, ⟨p, u⟩]) (i := 0) (m := m + 9) (a := []) rfl (by omega) dcl_x
 have s2 := attrs_skip (ps := prs [eD u, eX p u, eA p]) (s := [⟨[], u⟩, ⟨p, u⟩]) (i := 1) (m := m + 8) (a := []) rfl (by omega) (dX hp)
 have s3 := attrs_add (ps := prs [eD u, eX p u, eA p]) (s := [⟨[], u⟩, ⟨p, u⟩]) (i := 2) (m := m + 7) (a := []) rfl (by omega) (by simp) hp.n name_x hp.s (bndB hp)
 have s4 := attrs_end (ps := prs [eD u, eX p u, eA p]) (s := [⟨[], u⟩, ⟨p, u⟩]) (i := 3) (m := m + 6) (a := [] ++ [atX u]) rfl
 exact s1.trans (s2.trans (s3.trans s4))
theorem openC_bad (hp : Pre p) (h : wrongU u ≠ 0) : F_scope_Scope_Open ⟨[]⟩ (prs [eA p, eX p u]) = some (⟨[]⟩, wrongU u) := by
 obtain ⟨m, hm⟩ := fuel10
 have s1 := open_skip (ps := prs [eA p, eX p u]) (i := 0) (m := m + 9) (c := []) (b := []) (had := []) rfl (by omega) (dA hp)
 have s2 := open_bad (ps := prs [eA p, eX p u]) (i := 1) (m := m + 8) (c := []) (b := []) (had := []) rfl (dX hp) (wr hp) h
 exact open_of (by simp) ⟨m, s1.trans s2, hm⟩
theorem openC (hp : Pre p) (h : wrongU u = 0) : F_scope_Scope_Open ⟨[]⟩ (prs [eA p, eX p u]) = some (⟨[⟨p, u⟩]⟩, 0) := by
 obtain ⟨m, hm⟩ := fuel10
 refine (open_of (by simp) ⟨m, ?_, hm⟩).trans (congrArg some (show openR (.inl ([], [⟨p, u⟩])) = _ from rfl))
 have s1 := open_skip (ps := prs [eA p, eX p u]) (i := 0) (m := m + 9) (c := []) (b := []) (had := []) rfl (by omega) (dA hp)
 have s2 := open_add (ps := prs [eA p, eX p u]) (i := 1) (m := m + 8) (c := []) (b := []) (had := []) rfl (by omega) (dX hp) ((wr (u := u) hp).trans (by rw [h])) hp.x (by simp) (by simp) (by simp) (by simp)
 rw [if_neg (wrongU_0 h).1] at s2
 have s3 := open_end (ps := prs [eA p, eX p u]) (i := 2) (m := m + 7) (c := []) (b := [] ++ [⟨p, u⟩]) (had := [] ++ [p]) rfl
 exact s1.trans (s2.trans s3)
theorem attrsC (hp : Pre p) : F_scope_Scope_Attrs ⟨[⟨p, u⟩]⟩ (prs [eA p, eX p u]) = some ([atX u], 0) := by
 obtain ⟨m, hm⟩ := fuel10
 refine attrs_of1 ⟨m, ?_, hm⟩
 have s1 := attrs_add (ps := prs [eA p, eX p u]) (s := [⟨p, u⟩]) (i := 0) (m := m + 9) (a := []) rfl (by omega) (by simp) hp.n name_x hp.s (bndP hp)
 have s2 := attrs_skip (ps := prs [eA p, eX p u]) (s := [⟨p, u⟩]) (i := 1) (m := m + 8) (a := [] ++ [atX u]) rfl (by omega) (dX hp)
 have s3 := attrs_end (ps := prs [eA p, eX p u]) (s := [⟨p, u⟩]) (i := 2) (m := m + 7) (a := [] ++ [atX u]) rfl
 exact s1.trans (s2.trans s3)
theorem openC2 (hp : Pre p) (h : wrongU u = 0) : F_scope_Scope_Open ⟨[⟨p, u⟩]⟩ (prs [eD u]) = some (⟨[⟨p, u⟩, ⟨[], u⟩]⟩, 0) := by
 obtain ⟨m, hm⟩ := fuel10
 have hu := (wrongU_0 h).1
 have hw := wrong_p (p := []) (u := u) (by decide) (by decide)
 rw [if_neg (fun h => hu h.2), h] at hw
 have hne := pre_ne hp
 refine (open_of (by simp) ⟨m, ?_, hm⟩).trans (congrArg some (show openR (.inl ([], [⟨p, u⟩, ⟨[], u⟩])) = _ from rfl))
 have s1 := open_add (ps := prs [eD u]) (i := 0) (m := m + 9) (c := []) (b := [⟨p, u⟩]) (had := []) rfl (by omega) dcl_x hw (by decide) (by simp) (by simp) (by simp) (by simp [hne])
 rw [if_neg hu] at s1
 have s2 := open_end (ps := prs [eD u]) (i := 1) (m := m + 8) (c := []) (b := [⟨p, u⟩] ++ [⟨[], u⟩]) (had := [] ++ [[]]) rfl
 exact s1.trans s2
theorem attrsC2 {s : List T_scope_bind} : F_scope_Scope_Attrs ⟨s⟩ (prs [eD u]) = some ([], 0) := by
 obtain ⟨m, hm⟩ := fuel10
 refine attrs_of0 ⟨m, ?_, hm⟩
 have s1 := attrs_skip (ps := prs [eD u]) (s := s) (i := 0) (m := m + 9) (a := []) rfl (by omega) dcl_x
 have s2 := attrs_end (ps := prs [eD u]) (s := s) (i := 1) (m := m + 8) (a := []) rfl
 exact s1.trans s2
end
theorem parse_bad {D r : LB} (hD : D = 60 :: r) (h13 : (13 : UInt8) ∉ D) (h : 65536 < D.length ∨ ¬ OkT D) : ∃ x, F_parse_Parse D = some x ∧ x.2.2 ≠ 0 := by
 have fail : ∀ e a : Int, e ≠ 0 → F_scan_All D = some ([], a, e) → ∃ x, F_parse_Parse D = some x ∧ x.2.2 ≠ 0 := by
  intro e a he hA
  unfold F_parse_Parse
  rw [hA, bS]
  dsimp only
  rw [show (e != 0) = true by simpa using he, cT]
  exact ⟨_, rfl, he⟩
 by_cases hl : 65536 < D.length
 ·refine fail 6 0 (by decide) ?_
  unfold F_scan_All
  rw [dT (by omega), cT]
 ·have hno := h.resolve_left hl
  have hp : pln D = D := pln_id hD (by decide) h13
  rcases fault_iff D (by omega) with ⟨_, f2⟩ | ⟨i, e, f1, f2, _⟩
  ·exact absurd f2 hno
  ·refine fail e i f2 ?_
   rw [all_eq D (by omega), hp, f1, bS]
   dsimp only
   rw [show (e != 0) = true by simpa using f2, cT]
theorem no_text {X Y u : LB} (h : OkT (X ++ 34 :: (u.flatMap quE ++ 34 :: Y))) : OkT u := by
 have h1 := okT_tail (by decide) (okT_split (by decide) h X rfl).2
 exact okT_unflat _ u (Nat.le_refl _) (okT_split (by decide) h1 _ rfl).1
section
variable {p l u : LB}
theorem xne (hp : Pre p) : BS ++ 58 :: p ≠ p ++ 58 :: BXX := fun h => by
 have h1 := cut_in (p := BS) (l := p) (by decide)
 rw [h, cut_in (part_no (name_part hp.n).2.2.1).1] at h1
 exact hp.s (by injection h1)
theorem two_nd {a b : LB} (h : a ≠ b) : ([a, b] : List LB).Nodup := by simp [h]
theorem dne {p l : LB} : BS ≠ p ++ 58 :: l := fun h => by
 have hm : (58 : UInt8) ∈ BS := by rw [h]; simp
 revert hm; decide
theorem okX (hp : Pre p) (hu : OkT u) : EntOk (eX p u) := ⟨qw_qu, nameAt_q name_xmlns hp.n, hu⟩
theorem okD (hu : OkT u) : EntOk (eD u) := ⟨qw_qu, nameAt_l name_xmlns, hu⟩
theorem okA (hp : Pre p) : EntOk (eA p) := ⟨qw_ap, nameAt_q hp.n name_x, okT_asc [49] (by decide)⟩
theorem all_ents {a b : Ent} (h1 : EntOk a) (h2 : EntOk b) : ∀ e ∈ [a, b], EntOk e := by
 intro e he
 simp only [List.mem_cons, List.not_mem_nil, or_false] at he
 rcases he with rfl | rfl
 ·exact h1
 ·exact h2
abbrev docA (p l u : LB) : LB := d3 (p ++ 58 :: l) (p ++ 58 :: [98]) [eX p u, eA p] []
abbrev docB (p l u : LB) : LB := d4 l (p ++ 58 :: [98]) [eD u, eX p u, eA p]
abbrev docC (p l u : LB) : LB := d3 (p ++ 58 :: l) [98] [eA p, eX p u] [eD u]
abbrev nodeP (l u : LB) : Nd := two ⟨u, l⟩ ⟨u, [98]⟩ [atX u]
theorem pa_a (hp : Pre p) (hl : nameP l = true) : ((65536 < (docA p l u).length ∨ ¬ OkT u ∨ wrongU u ≠ 0) → ∃ x, F_parse_Parse (docA p l u) = some x ∧ x.2.2 ≠ 0) ∧
  ((docA p l u).length ≤ 65536 → OkT u → wrongU u = 0 → F_parse_Parse (docA p l u) = some (nodeP l u, 0, 0)) := by
 obtain ⟨_, p2⟩ := part_no (name_part hp.n).2.2.1
 obtain ⟨_, l2⟩ := part_no (name_part hl).2.2.1
 have v13 := not_mem_flat qw_qu.n13 u
 by_cases hlen : (docA p l u).length ≤ 65536 ∧ OkT u
 ·obtain ⟨hlen, hu⟩ := hlen
  obtain ⟨r1, r2⟩ := read3 (pie_tag false (nameAt_q hp.n hl) (all_ents (okX hp hu) (okA hp)) (two_nd (xne hp))) (pie_tag true (nameAt_q hp.n name_b) (ps := []) (by simp) (by simp [nmP, prs])) (pie_end (nameAt_q hp.n hl) (.inl rfl)) hlen
  refine ⟨fun h => ?_, fun _ _ h => ?_⟩
  ·have hw : wrongU u ≠ 0 := h.elim (fun h => absurd h (by omega)) fun h => h.resolve_left fun h => h hu
   exact r1 _ _ (openA_bad hp hw) hw
  ·exact r2 _ _ _ _ _ (openA hp h) (elem_q hp.n hl hp.s (bndP hp)) (attrsA hp) bigX (open_none (by simp)) (elem_q hp.n name_b hp.s (bndP hp)) (attrs_nil _)
 ·refine ⟨fun _ => parse_bad (r := _) rfl ?_ ?_, fun a b _ => absurd ⟨a, b⟩ hlen⟩
  ·simp [d3, tagW, endW, shM, List.mem_append, p2, l2, v13, apE]
  ·by_cases hlen2 : 65536 < (docA p l u).length
   ·exact .inl hlen2
   ·refine .inr fun hok => hlen ⟨by omega, ?_⟩
    have e : docA p l u = (60 :: (p ++ 58 :: l) ++ 32 :: (BS ++ 58 :: p) ++ [61]) ++ 34 :: (u.flatMap quE ++ 34 :: (shM [eA p] ++ 62 :: (tagW (p ++ 58 :: [98]) [] true ++ endW (p ++ 58 :: l) []))) := by
     simp [docA, d3, tagW, shM]
    rw [e] at hok
    exact no_text hok
theorem pa_c (hp : Pre p) (hl : nameP l = true) : ((65536 < (docC p l u).length ∨ ¬ OkT u ∨ wrongU u ≠ 0) → ∃ x, F_parse_Parse (docC p l u) = some x ∧ x.2.2 ≠ 0) ∧
  ((docC p l u).length ≤ 65536 → OkT u → wrongU u = 0 → F_parse_Parse (docC p l u) = some (nodeP l u, 0, 0)) := by
 obtain ⟨_, p2⟩ := part_no (name_part hp.n).2.2.1
 obtain ⟨_, l2⟩ := part_no (name_part hl).2.2.1
 have v13 := not_mem_flat qw_qu.n13 u
 by_cases hlen : (docC p l u).length ≤ 65536 ∧ OkT u
 ·obtain ⟨hlen, hu⟩ := hlen
  obtain ⟨r1, r2⟩ := read3 (pie_tag false (nameAt_q hp.n hl) (all_ents (okA hp) (okX hp hu)) (two_nd (xne hp).symm)) (pie_tag true (nameAt_l name_b) (ps := [eD u]) (by intro e he; rw [List.mem_singleton.1 he]; exact okD hu) (by simp [nmP, prs])) (pie_end (nameAt_q hp.n hl) (.inl rfl)) hlen
  refine ⟨fun h => ?_, fun _ _ h => ?_⟩
  ·have hw : wrongU u ≠ 0 := h.elim (fun h => absurd h (by omega)) fun h => h.resolve_left fun h => h hu
   exact r1 _ _ (openC_bad hp hw) hw
  ·exact r2 _ _ _ _ _ (openC hp h) (elem_q hp.n hl hp.s (bndP hp)) (attrsC hp) bigX (openC2 hp h) (elem_l name_b (bound_at (A := [⟨p, u⟩]) (B := []) (by decide) (by simp) (by simp [pre_ne hp]))) attrsC2
 ·refine ⟨fun _ => parse_bad (r := _) rfl ?_ ?_, fun a b _ => absurd ⟨a, b⟩ hlen⟩
  ·simp [d3, tagW, endW, shM, List.mem_append, p2, l2, v13, apE]
  ·by_cases hlen2 : 65536 < (docC p l u).length
   ·exact .inl hlen2
   ·refine .inr fun hok => hlen ⟨by omega, ?_⟩
    have e : docC p l u = (60 :: (p ++ 58 :: l) ++ shM [eA p] ++ 32 :: (BS ++ 58 :: p) ++ [61]) ++ 34 :: (u.flatMap quE ++ 34 :: (62 :: (tagW [98] [eD u] true ++ endW (p ++ 58 :: l) []))) := by
     simp [docC, d3, tagW, shM]
    rw [e] at hok
    exact no_text hok
theorem pa_b (hp : Pre p) (hl : nameP l = true) : ((65536 < (docB p l u).length ∨ ¬ OkT u ∨ wrongU u ≠ 0) → ∃ x, F_parse_Parse (docB p l u) = some x ∧ x.2.2 ≠ 0) ∧
  ((docB p l u).length ≤ 65536 → OkT u → wrongU u = 0 → F_parse_Parse (docB p l u) = some (nodeP l u, 0, 0)) := by
 obtain ⟨_, p2⟩ := part_no (name_part hp.n).2.2.1
 obtain ⟨_, l2⟩ := part_no (name_part hl).2.2.1
 have v13 := not_mem_flat qw_qu.n13 u
 by_cases hlen : (docB p l u).length ≤ 65536 ∧ OkT u
 ·obtain ⟨hlen, hu⟩ := hlen
  obtain ⟨r1, r2⟩ := read4 (pie_tag false (nameAt_l hl) (ps := [eD u, eX p u, eA p]) (by
    intro e he
    rcases List.mem_cons.1 he with rfl | he
    ·exact okD hu
    ·exact all_ents (okX hp hu) (okA hp) e he) (by
    have h1 : BS ≠ BS ++ 58 :: p := dne
    have h2 : BS ≠ p ++ 58 :: BXX := dne
    have h3 := xne hp
    show ([BS, BS ++ 58 :: p, p ++ 58 :: BXX] : List LB).Nodup
    simp only [List.nodup_cons, List.mem_cons, List.not_mem_nil, or_false, not_or, not_false_eq_true, List.nodup_nil, and_true]
    exact ⟨⟨h1, h2⟩, h3⟩)) (pie_tag false (nameAt_q hp.n name_b) (ps := []) (by simp) (by simp [nmP, prs])) (pie_end (nameAt_q hp.n name_b) (.inr rfl)) (pie_end (nameAt_l hl) (.inl rfl)) hlen
  refine ⟨fun h => ?_, fun _ _ h => ?_⟩
  ·have hw : wrongU u ≠ 0 := h.elim (fun h => absurd h (by omega)) fun h => h.resolve_left fun h => h hu
   obtain ⟨e, h1, h2⟩ := openB_bad hp hw
   exact r1 _ _ h1 h2
  ·exact r2 _ _ _ _ (openB hp h) (elem_l hl (bound_at (A := []) (B := [⟨p, u⟩]) (by decide) (by simp) (by simp))) (attrsB hp) bigX (open_none (by simp)) (elem_q hp.n name_b hp.s (bndB hp))
 ·refine ⟨fun _ => parse_bad (r := _) rfl ?_ ?_, fun a b _ => absurd ⟨a, b⟩ hlen⟩
  ·simp [d4, tagW, endW, shM, List.mem_append, p2, l2, v13, apE]
  ·by_cases hlen2 : 65536 < (docB p l u).length
   ·exact .inl hlen2
   ·refine .inr fun hok => hlen ⟨by omega, ?_⟩
    have e : docB p l u = (60 :: l ++ 32 :: BS ++ [61]) ++ 34 :: (u.flatMap quE ++ 34 :: (shM [eX p u, eA p] ++ 62 :: (tagW (p ++ 58 :: [98]) [] false ++ (endW (p ++ 58 :: [98]) [32] ++ endW l [])))) := by
     simp [docB, d4, tagW, shM]
    rw [e] at hok
    exact no_text hok
theorem same_node : F_lecternref05_Same (nodeP l u) (nodeP l u) = some true := by
 obtain ⟨m, hm⟩ := fuel10
 unfold F_lecternref05_Same
 rw [hm]
 refine same_step (by simp [two]) (by simp [two]) fun k hk => ?_
 rw [List.mem_singleton.1 hk]
 refine same_step (by simp) (by simp) fun k hk => ?_
 rw [List.mem_singleton.1 hk]
 exact same_step (by simp) (by simp) fun k hk => by simp at hk
end
theorem F_start1 (r : Int) : F_lecternref01_Start r = some (startP r) := by
 unfold F_lecternref01_Start startP
 simp only [letJ, Bool.cond_eq_ite, Bool.and_eq_true, decide_eq_true_eq, beq_iff_eq]
 have hT : ∀ (P : Prop) [Decidable P], P → some true = some (decide P) := fun P _ h => by rw [dT h]
 by_cases h1 : 65 ≤ r ∧ r ≤ 90
 ·rw [if_pos h1, if_pos h1]; exact hT _ (by omega)
 rw [if_neg h1]
 by_cases h2 : r = 95
 ·rw [if_pos h2, if_pos h2]; exact hT _ (by omega)
 rw [if_neg h2]
 by_cases h3 : 97 ≤ r ∧ r ≤ 122
 ·rw [if_pos h3]; exact hT _ (by omega)
 rw [if_neg h3]
 by_cases h4 : 192 ≤ r ∧ r ≤ 767
 ·rw [if_pos h4]; congr 1; rw [Bool.eq_iff_iff]; simp only [Bool.and_eq_true, bne_iff_ne, ne_eq, decide_eq_true_eq]; omega
 rw [if_neg h4]
 by_cases h5 : 880 ≤ r ∧ r ≤ 8191
 ·rw [if_pos h5]; congr 1; rw [Bool.eq_iff_iff]; simp only [bne_iff_ne, ne_eq, decide_eq_true_eq]; omega
 rw [if_neg h5]
 by_cases h6 : r = 8204
 ·rw [if_pos h6, if_pos h6]; exact hT _ (by omega)
 rw [if_neg h6]
 by_cases h7 : r = 8205
 ·rw [if_pos h7]; exact hT _ (by omega)
 rw [if_neg h7]
 by_cases h8 : 8304 ≤ r ∧ r ≤ 8591
 ·rw [if_pos h8, if_pos h8]; exact hT _ (by omega)
 rw [if_neg h8]
 by_cases h9 : 11264 ≤ r ∧ r ≤ 12271
 ·rw [if_pos h9, if_pos h9]; exact hT _ (by omega)
 rw [if_neg h9]
 by_cases h10 : 12289 ≤ r ∧ r ≤ 55295
 ·rw [if_pos h10]; exact hT _ (by omega)
 rw [if_neg h10]
 by_cases h11 : 63744 ≤ r ∧ r ≤ 65533
 ·rw [if_pos h11]; congr 1; rw [Bool.eq_iff_iff]; simp only [Bool.or_eq_true, decide_eq_true_eq]; omega
 rw [if_neg h11]
 congr 1; rw [Bool.eq_iff_iff]; simp only [Bool.and_eq_true, decide_eq_true_eq]; omega
theorem F_part1 (r : Int) : F_lecternref01_Part r = some (partP r) := by
 unfold F_lecternref01_Part partP
 rw [F_start1, bS]
 congr 1
 cases startP r
 ·simp only [Bool.false_or]
  rw [Bool.eq_iff_iff]
  simp only [Bool.or_eq_true, Bool.and_eq_true, beq_iff_eq, decide_eq_true_eq]
  omega
 ·simp
theorem F_name1 (l : LB) : F_lecternref01_Name l = some (nameP l) := by
 unfold F_lecternref01_Name nameP
 by_cases c : l = [] ∨ 100 < l.length
 ·have e1 : (((l.length : Int) == (0 : Int)) || decide ((100 : Int) < (l.length : Int))) = true := by
   simp only [Bool.or_eq_true, beq_iff_eq, decide_eq_true_eq]
   rcases c with rfl | c
   ·left; rfl
   ·right; omega
  have e2 : (decide (l = []) || decide (100 < l.length)) = true := by simpa using c
  rw [e1, e2]; rfl
 ·have hl : l.length ≤ 100 := by omega
  have hne : 0 < l.length := List.length_pos_iff.2 fun h => c (.inl h)
  have e1 : (((l.length : Int) == (0 : Int)) || decide ((100 : Int) < (l.length : Int))) = false := by
   simp only [Bool.or_eq_false_iff, beq_eq_false_iff_ne, decide_eq_false_iff_not]; omega
  have e2 : (decide (l = []) || decide (100 < l.length)) = false := by
   simp only [Bool.or_eq_false_iff, decide_eq_false_iff_not]
   exact ⟨fun h => c (.inl h), by omega⟩
  rw [e1, e2, cF, Bool.not_false, Bool.true_and]
  simp only [letJ]
  obtain ⟨o, h1, h2⟩ := iter_spec (b := F_lecternref01_Name_l0 l) (fun i x => ∃ j : Nat, x = (j : Int) ∧ i ≤ j ∧ j ≤ l.length ∧ okN l l.length 0 = okN l (l.length - i) j) (fun o => match o with | .inl _ => okN l l.length 0 = true | .inr b => b = false ∧ okN l l.length 0 = false) l.length (x0 := (0 : Int)) ⟨0, rfl, Nat.le_refl _, Nat.zero_le _, rfl⟩
   (fun i x rec hi ⟨j, hx, hij, hjl, hI⟩ => by
    subst hx
    have es : l.length - i = (l.length - (i + 1)) + 1 := by omega
    rw [es, okN] at hI
    unfold F_lecternref01_Name_l0
    by_cases hj : j < l.length
    ·obtain ⟨d1, d2, d3, d4⟩ := dec_bytes l j hj
     rw [if_pos hj] at hI
     simp only [letJ]
     rw [dT (show (j : Int) < (l.length : Int) by omega), cT, F_read1 l j hj (by omega), bS]
     cases hb : badR (decodeL (l.drop j))
     ·rw [hb] at hI
      simp only [Bool.false_eq_true, if_false, F_part1, F_start1, bS]
      have hz : (((decodeL (l.drop j)).2 : Int) == (0 : Int)) = false := by simp only [beq_eq_false_iff_ne, ne_eq]; omega
      rw [hz, cF]
      cases hp : partP ((decodeL (l.drop j)).1 : Int)
      ·rw [hp] at hI
       exact .inr ⟨.inr false, rfl, rfl, by simpa using hI⟩
      ·rw [hp] at hI
       simp only [Bool.not_true, cF]
       have ez : ((j : Int) == (0 : Int)) = decide (j = 0) := by
        rw [Bool.eq_iff_iff]; simp only [beq_iff_eq, decide_eq_true_eq]; omega
       rw [ez, w64 (by omega) (by omega)]
       cases hd0 : decide (j = 0)
       ·rw [hd0] at hI
        exact .inl ⟨((j + (decodeL (l.drop j)).2 : Nat) : Int), rfl, _, rfl, by omega, d2, by simpa using hI⟩
       ·rw [hd0] at hI
        cases hs : startP ((decodeL (l.drop j)).1 : Int)
        ·rw [hs] at hI
         exact .inr ⟨.inr false, rfl, rfl, by simpa using hI⟩
        ·rw [hs] at hI
         exact .inl ⟨((j + (decodeL (l.drop j)).2 : Nat) : Int), rfl, _, rfl, by omega, d2, by simpa using hI⟩
     ·rw [hb] at hI
      exact .inr ⟨.inr false, rfl, rfl, by simpa using hI⟩
    ·rw [if_neg hj] at hI
     rw [dF (by omega), cF]
     exact .inr ⟨.inl (), rfl, hI⟩)
   (fun x rec ⟨j, hx, hij, hjl, hI⟩ => ⟨.inl (), by
    subst hx
    unfold F_lecternref01_Name_l0
    rw [dF (by omega), cF], by show okN l l.length 0 = true; rw [hI, Nat.sub_self]; rfl⟩) (n := FUEL) (by unfold FUEL; omega)
  rw [h1, bS]
  cases o with
  | inl u => simp only at h2; rw [h2]
  | inr b => obtain ⟨rfl, h3⟩ := h2; rw [h3]
theorem docA_eq (p q l u : LB) : ((((((((((((((((([60] : LB) ++ p) ++ ([58] : LB)) ++ l) ++ ([32, 120, 109, 108, 110, 115, 58] : LB)) ++ p) ++ ([61, 34] : LB)) ++ (u.flatMap quE)) ++ ([34, 32] : LB)) ++ p) ++ ([58, 120, 61, 39, 49, 39, 62, 60] : LB)) ++ p) ++ ([58, 98, 47, 62, 60, 47] : LB)) ++ p) ++ ([58] : LB)) ++ l) ++ ([62] : LB)) = docA p l u := by
 simp [d3, tagW, endW, shM, apE, BS, BXX]
theorem docB_eq (p q l u : LB) : ((((((((((((((((([60] : LB) ++ l) ++ ([32, 120, 109, 108, 110, 115, 61, 34] : LB)) ++ (u.flatMap quE)) ++ ([34, 32, 120, 109, 108, 110, 115, 58] : LB)) ++ q) ++ ([61, 34] : LB)) ++ (u.flatMap quE)) ++ ([34, 32] : LB)) ++ q) ++ ([58, 120, 61, 39, 49, 39, 62, 60] : LB)) ++ q) ++ ([58, 98, 62, 60, 47] : LB)) ++ q) ++ ([58, 98, 32, 62, 60, 47] : LB)) ++ l) ++ ([62] : LB)) = docB q l u := by
 simp [d4, tagW, endW, shM, apE, BS, BXX]
theorem docC_eq (p q l u : LB) : ((((((((((((((((([60] : LB) ++ p) ++ ([58] : LB)) ++ l) ++ ([32] : LB)) ++ p) ++ ([58, 120, 61, 39, 49, 39, 32, 120, 109, 108, 110, 115, 58] : LB)) ++ p) ++ ([61, 34] : LB)) ++ (u.flatMap quE)) ++ ([34, 62, 60, 98, 32, 120, 109, 108, 110, 115, 61, 34] : LB)) ++ (u.flatMap quE)) ++ ([34, 47, 62, 60, 47] : LB)) ++ p) ++ ([58] : LB)) ++ l) ++ ([62] : LB)) = docC p l u := by
 simp [d3, tagW, endW, shM, apE, BS, BXX]
theorem parsePrefixes (p q l u : LB) (hu : u.length ≤ 1048576) : F_lecternlaw06_ParsePrefixes p q l u = some true := by
 unfold F_lecternlaw06_ParsePrefixes
 rw [awake_t, bS, Bool.not_true, cF]
 simp only [letJ]
 rw [F_name1, F_name1, F_name1, bS]
 by_cases h1 : nameP p = true
 case neg => rw [show nameP p = false by simpa using h1]; rfl
 rw [h1, Bool.not_true, cF, bS]
 by_cases h2 : nameP q = true
 case neg => rw [show nameP q = false by simpa using h2]; rfl
 rw [h2, Bool.not_true, cF, bS]
 by_cases h3 : nameP l = true
 case neg => rw [show nameP l = false by simpa using h3]; rfl
 rw [h3, Bool.not_true, Bool.false_or]
 by_cases hx : (((p == BX) || (q == BX)) || (p == BS)) || (q == BS)
 ·rw [hx, cT]
 rw [show ((((p == BX) || (q == BX)) || (p == BS)) || (q == BS)) = false by simpa using hx, cF]
 simp only [Bool.or_eq_true, beq_iff_eq, not_or] at hx
 obtain ⟨⟨⟨x1, x2⟩, x3⟩, x4⟩ := hx
 have hp : Pre p := ⟨h1, x3, x1⟩
 have hq : Pre q := ⟨h2, x4, x2⟩
 obtain ⟨_, lp, _⟩ := name_part h1
 obtain ⟨_, lq, _⟩ := name_part h2
 obtain ⟨_, ll, _⟩ := name_part h3
 have lv : (u.flatMap quE).length ≤ 8 * u.length := by
  have : ∀ u : LB, (u.flatMap quE).length ≤ 8 * u.length := by
   intro u
   induction u with
   | nil => simp
   | cons c u ih => have := qw_qu.le c; rw [List.flatMap_cons, List.length_append, List.length_cons]; omega
  exact this u
 rw [quote_w u (by omega), bS]
 repeat rw [cat_some (by simp only [List.length_append, List.length_cons, List.length_nil]; omega), bS]
 rw [docA_eq p q l u]
 obtain ⟨a1, a2⟩ := pa_a (l := l) (u := u) hp h3
 obtain ⟨b1, b2⟩ := pa_b (l := l) (u := u) hq h3
 obtain ⟨c1, c2⟩ := pa_c (l := l) (u := u) hp h3
 by_cases hbad : ¬ OkT u ∨ wrongU u ≠ 0
 ·obtain ⟨a, e1, e2⟩ := a1 (.inr hbad)
  obtain ⟨b, f1, f2⟩ := b1 (.inr hbad)
  obtain ⟨c, g1, g2⟩ := c1 (.inr hbad)
  rw [e1, bS]
  repeat rw [cat_some (by simp only [List.length_append, List.length_cons, List.length_nil]; omega), bS]
  rw [docB_eq p q l u, f1, bS]
  repeat rw [cat_some (by simp only [List.length_append, List.length_cons, List.length_nil]; omega), bS]
  rw [docC_eq p q l u, g1]
  simp only [bS]
  rw [show (a.2.2 != 0) = true by simpa using e2, show (b.2.2 != 0) = true by simpa using f2, show (c.2.2 != 0) = true by simpa using g2]
  rfl
 ·have hok : OkT u := Classical.byContradiction fun h => hbad (.inl h)
  have hw : wrongU u = 0 := Classical.byContradiction fun h => hbad (.inr h)
  obtain ⟨_, lu⟩ := wrongU_0 hw
  have la : (docA p l u).length ≤ 65536 := by simp only [docA, d3, tagW, endW, shM, List.flatMap_cons, List.flatMap_nil, List.length_append, List.length_cons, List.length_nil, show apE 49 = [49] from rfl, Bool.false_eq_true, if_false, if_true]; omega
  have lb : (docB q l u).length ≤ 65536 := by simp only [docB, d4, tagW, endW, shM, List.flatMap_cons, List.flatMap_nil, List.length_append, List.length_cons, List.length_nil, show apE 49 = [49] from rfl, Bool.false_eq_true, if_false, if_true]; omega
  have lc : (docC p l u).length ≤ 65536 := by simp only [docC, d3, tagW, endW, shM, List.flatMap_cons, List.flatMap_nil, List.length_append, List.length_cons, List.length_nil, show apE 49 = [49] from rfl, Bool.false_eq_true, if_false, if_true]; omega
  rw [a2 la hok hw, bS]
  repeat rw [cat_some (by simp only [List.length_append, List.length_cons, List.length_nil]; omega), bS]
  rw [docB_eq p q l u, b2 lb hok hw, bS]
  repeat rw [cat_some (by simp only [List.length_append, List.length_cons, List.length_nil]; omega), bS]
  rw [docC_eq p q l u, c2 lc hok hw]
  simp only [bS]
  rw [show ((0 : Int) != 0) = false from rfl, cF, show (((0 : Int) == 0) && ((0 : Int) == 0)) = true from rfl, cT, same_node, bS, cT, bS, cT]
  rw [show idx (nodeP l u).Kids (0 : Int) = some ⟨2, ⟨u, l⟩, [atX u], [⟨2, ⟨u, [98]⟩, [], [], []⟩], []⟩ from rfl, bS]
  simp
end Go.Proofs.YtilhbalhkljanaaGreatDoor
