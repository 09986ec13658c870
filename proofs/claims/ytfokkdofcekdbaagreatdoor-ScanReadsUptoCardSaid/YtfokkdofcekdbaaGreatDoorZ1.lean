/- Joined by program out of Ch Rd Sa Sb Sc Sd Se Sf Xa Xb Xc Xd. No condition. -/
import Derived.Test.YtfokkdofcekdbaaGreatDoorWs
import Derived.Test.YtfokkdofcekdbaaGreatDoorPl1
import Derived.KernelRfl
import Derived.Lib.MapLaws
import Derived.Lib.TrimUEq
import Derived.Lib.ValidLaws
import Derived.Lib.Index
import Derived.Laws.BitsAllLaws
import Derived.Lib.SlTrimSet
import Derived.Laws.Cover4
import Derived.Test.YtfokkdofcekdbaaGreatDoorLa
import Derived.Lib.IndexMore
import Derived.Lib.IndexLaws
set_option linter.unusedSimpArgs false
set_option linter.unusedVariables false
set_option maxRecDepth 20000
namespace Go.Proofs.YtfokkdofcekdbaaGreatDoor
open Go.Lib (decodeL decodeN)
theorem getD_drop (p : LB) (x k : Nat) : (p.drop x).getD k 0 = p.getD (x + k) 0 := by simp [List.getD, List.getElem?_drop]
theorem decN_facts (n b0 b1 b2 b3 : Nat) : (b0 < 128 → decodeN n b0 b1 b2 b3 = (b0, 1)) ∧ (2 ≤ (decodeN n b0 b1 b2 b3).2 → 128 ≤ b1) ∧ (3 ≤ (decodeN n b0 b1 b2 b3).2 → 128 ≤ b2) ∧ (4 ≤ (decodeN n b0 b1 b2 b3).2 → 128 ≤ b3) ∧ (decodeN n b0 b1 b2 b3).2 ≤ 4 := by
 unfold decodeN
 repeat' split
 all_goals refine ⟨fun h => ?_, fun h => ?_, fun h => ?_, fun h => ?_, ?_⟩
 all_goals first | rfl | omega | (simp only at *; omega)
theorem drop_ne {α : Type} {l : List α} {i : Nat} (h : i < l.length) : l.drop i = l[i] :: l.drop (i + 1) := List.drop_eq_getElem_cons h
theorem dec_bytes (p : LB) (x : Nat) (hx : x < p.length) : 1 ≤ (decodeL (p.drop x)).2 ∧ x + (decodeL (p.drop x)).2 ≤ p.length ∧ ((p.getD x 0).toNat < 128 → decodeL (p.drop x) = ((p.getD x 0).toNat, 1)) ∧ ∀ k, 1 ≤ k → k < (decodeL (p.drop x)).2 → 128 ≤ (p.getD (x + k) 0).toNat := by
 have hne : p.drop x ≠ [] := by intro h; have := congrArg List.length h; simp at this; omega
 have h1 := Lib.decodeL_width (p.drop x)
 have h2 := Lib.decodeL_le (p.drop x) hne
 have e := Lib.decodeL_N (p.drop x)
 simp only [getD_drop] at e
 have f := decN_facts (p.drop x).length (p.getD (x + 0) 0).toNat (p.getD (x + 1) 0).toNat (p.getD (x + 2) 0).toNat (p.getD (x + 3) 0).toNat
 rw [← e] at f
 obtain ⟨f0, f1, f2, f3, f4⟩ := f
 rw [List.length_drop] at h2
 refine ⟨h1, by omega, fun h => f0 h, fun k hk1 hk2 => ?_⟩
 match k, hk1, hk2 with
 | 1, _, hk => exact f1 (by omega)
 | 2, _, hk => exact f2 (by omega)
 | 3, _, hk => exact f3 (by omega)
 | k + 4, _, hk => omega
theorem dec_at (p : LB) (x : Nat) : (rnS p x = ((decodeL (p.drop x)).1 : Int)) ∧ wdS p x = (decodeL (p.drop x)).2 := by
 have := Lib.decodeL_drop ⟨p.toArray⟩ x
 simp only at this
 unfold rnS wdS
 rw [← this]
 exact ⟨rfl, rfl⟩
def badR (d : Nat × Nat) : Bool := decide (d.1 = 65533 ∧ d.2 = 1)
def inP (r : Int) : List TC → Bool
 | [] => false
 | s :: l => if r ≤ s.hi then decide (s.lo ≤ r) else inP r l
theorem F_in (r : Int) (l : List TC) (hl : l.length ≤ 9223372036854775807) : Fh_in r l = some (inP r l) := by
 unfold Fh_in
 simp only [letJ]
 obtain ⟨o, h1, h2⟩ := iter_spec (b := Fh_in_l0 r l) (fun i x => x = (i : Int) ∧ inP r l = inP r (l.drop i)) (fun o => match o with | .inl _ => inP r l = false | .inr b => inP r l = b) l.length (x0 := (0 : Int)) ⟨rfl, by simp⟩
  (fun i x rec hi ⟨hx, hI⟩ => by
   subst hx
   rw [drop_ne hi, inP] at hI
   unfold Fh_in_l0
   rw [dT (by omega), cT, idx_some hi, bS, w64 (by omega) (by omega)]
   by_cases c : r ≤ l[i].hi
   ·rw [if_pos c] at hI
    rw [dT c]
    exact .inr ⟨.inr _, rfl, hI⟩
   ·rw [if_neg c] at hI
    rw [dF c]
    exact .inl ⟨_, rfl, rfl, hI⟩)
  (fun x rec ⟨hx, hI⟩ => ⟨.inl (), by
   subst hx
   unfold Fh_in_l0
   rw [dF (by omega), cF], by show inP r l = false; rw [hI, List.drop_length]; rfl⟩) (n := FUEL) (by unfold FUEL; omega)
 rw [h1, bS]
 cases o with
 | inl u => simp only at h2; rw [h2]
 | inr b => simp only at h2; rw [h2]
def srt : List TC → Bool
 | [] => true
 | s :: l => l.all (fun t => decide (s.hi < t.lo)) && srt l
theorem inP_any (r : Int) : ∀ l, srt l = true → inP r l = l.any fun s => decide (s.lo ≤ r ∧ r ≤ s.hi)
 | [], _ => rfl
 | s :: l, h => by
  simp only [srt, Bool.and_eq_true, List.all_eq_true, decide_eq_true_eq] at h
  simp only [inP, List.any_cons]
  by_cases c : r ≤ s.hi
  ·rw [if_pos c]
   have : (l.any fun s => decide (s.lo ≤ r ∧ r ≤ s.hi)) = false := by
    rw [List.any_eq_false]
    intro t ht
    have := h.1 t ht
    simp only [decide_eq_true_eq]; omega
   rw [this, Bool.or_false]
   by_cases c2 : s.lo ≤ r <;> simp [c, c2]
  ·rw [if_neg c, inP_any r l h.2, dF (fun hh => c hh.2), Bool.false_or]
def charP (r : Int) : Bool := decide (r = 9 ∨ r = 10 ∨ r = 13 ∨ (32 ≤ r ∧ r ≤ 55295) ∨ (57344 ≤ r ∧ r ≤ 65533) ∨ (65536 ≤ r ∧ r ≤ 1114111))
def startP (r : Int) : Bool := decide ((65 ≤ r ∧ r ≤ 90) ∨ r = 95 ∨ (97 ≤ r ∧ r ≤ 122) ∨ (192 ≤ r ∧ r ≤ 214) ∨ (216 ≤ r ∧ r ≤ 246) ∨ (248 ≤ r ∧ r ≤ 767) ∨ (880 ≤ r ∧ r ≤ 893) ∨ (895 ≤ r ∧ r ≤ 8191) ∨ (8204 ≤ r ∧ r ≤ 8205) ∨ (8304 ≤ r ∧ r ≤ 8591) ∨ (11264 ≤ r ∧ r ≤ 12271) ∨ (12289 ≤ r ∧ r ≤ 55295) ∨ (63744 ≤ r ∧ r ≤ 64975) ∨ (65008 ≤ r ∧ r ≤ 65533) ∨ (65536 ≤ r ∧ r ≤ 983039))
def partP (r : Int) : Bool := startP r || decide (r = 45 ∨ r = 46 ∨ (48 ≤ r ∧ r ≤ 57) ∨ r = 183 ∨ (768 ≤ r ∧ r ≤ 879) ∨ (8255 ≤ r ∧ r ≤ 8256))
theorem in_eq (r : Int) (k : Bool → Option Bool) (l : List TC) (hl : l.length ≤ 9223372036854775807) : (Fh_in r l).bind k = k (inP r l) := by rw [F_in r l hl]; rfl
theorem F_isChar (r : Int) : Fh_IsChar r = some (charP r) := by
 unfold Fh_IsChar charP
 simp only [letJ]
 by_cases c : r = 9 ∨ r = 10 ∨ r = 13
 ·have e : (((r == (9 : Int)) || (r == (10 : Int))) || (r == (13 : Int))) = true := by simp only [Bool.or_eq_true, beq_iff_eq]; omega
  rw [e, cT, dT (by omega)]
 ·have e : (((r == (9 : Int)) || (r == (10 : Int))) || (r == (13 : Int))) = false := by simp only [Bool.or_eq_false_iff, beq_eq_false_iff_ne]; omega
  rw [e, cF, in_eq _ _ _ (by decide)]
  congr 1
  rw [inP_any _ _ (by decide), Bool.eq_iff_iff]
  simp only [List.any_cons, List.any_nil, Bool.or_eq_true, decide_eq_true_eq, Bool.false_eq_true, or_false]
  omega
theorem F_isStart (r : Int) : Fh_IsStart r = some (startP r) := by
 unfold Fh_IsStart startP
 by_cases c : r < 128
 ·rw [dT c, cT]
  congr 1
  rw [Bool.eq_iff_iff]
  simp only [Bool.or_eq_true, Bool.and_eq_true, beq_iff_eq, decide_eq_true_eq]
  omega
 ·rw [dF c, cF, in_eq _ _ _ (by decide)]
  congr 1
  rw [inP_any _ _ (by decide), Bool.eq_iff_iff]
  simp only [List.any_cons, List.any_nil, Bool.or_eq_true, decide_eq_true_eq, Bool.false_eq_true, or_false]
  omega
theorem F_isPart (r : Int) : Fh_IsPart r = some (partP r) := by
 unfold Fh_IsPart partP
 rw [F_isStart, bS]
 simp only [letJ]
 by_cases c : startP r = true ∨ r = 45 ∨ r = 46 ∨ (48 ≤ r ∧ r ≤ 57) ∨ r = 183
 ·have e : ((((startP r || (r == (45 : Int))) || (r == (46 : Int))) || ((decide ((48 : Int) ≤ r)) && (decide (r ≤ (57 : Int))))) || (r == (183 : Int))) = true := by
   simp only [Bool.or_eq_true, Bool.and_eq_true, beq_iff_eq, decide_eq_true_eq]
   rcases c with c | c
   ·simp [c]
   ·omega
  rw [e, cT]
  congr 1
  rcases c with c | c
  ·simp [c]
  ·rw [dT (by omega), Bool.or_true]
 ·have hs : startP r = false := by simpa using fun h => c (.inl h)
  have e : ((((startP r || (r == (45 : Int))) || (r == (46 : Int))) || ((decide ((48 : Int) ≤ r)) && (decide (r ≤ (57 : Int))))) || (r == (183 : Int))) = false := by
   rw [Bool.eq_false_iff]
   simp only [ne_eq, Bool.or_eq_true, Bool.and_eq_true, beq_iff_eq, decide_eq_true_eq, hs, Bool.false_eq_true, false_or]
   intro h; apply c; right; omega
  rw [e, cF, in_eq _ _ _ (by decide)]
  congr 1
  rw [hs, Bool.false_or]
  rw [inP_any _ _ (by decide), Bool.eq_iff_iff]
  simp only [List.any_cons, List.any_nil, Bool.or_eq_true, decide_eq_true_eq, Bool.false_eq_true, or_false]
  omega
theorem decN_two (n b0 b1 b2 b3 : Nat) : (decodeN n b0 b1 b2 b3).2 = 2 → (decodeN n b0 b1 b2 b3).1 ≤ 2047 := by
 unfold decodeN
 repeat' split
 all_goals first | (intro h; simp only at h; omega) | (intro _; simp only; omega)
theorem badR_iff (l : LB) (x : Nat) (hx : x < l.length) : ((((decodeL (l.drop x)).1 : Int) == (65533 : Int)) && decide (((decodeL (l.drop x)).2 : Int) < (3 : Int))) = badR (decodeL (l.drop x)) := by
 obtain ⟨d1, _⟩ := dec_bytes l x hx
 have e := Lib.decodeL_N (l.drop x)
 have h2 := decN_two (l.drop x).length ((l.drop x).getD 0 0).toNat ((l.drop x).getD 1 0).toNat ((l.drop x).getD 2 0).toNat ((l.drop x).getD 3 0).toNat
 rw [← e] at h2
 unfold badR
 rw [Bool.eq_iff_iff]
 simp only [Bool.and_eq_true, beq_iff_eq, decide_eq_true_eq]
 omega
theorem F_next (p : LB) (x : Nat) (hx : x < p.length) (hl : p.length ≤ 1073741824) : Fh_Next p (x : Int) = some (if badR (decodeL (p.drop x)) then (0, 0, 20) else if charP (decodeL (p.drop x)).1 then (((decodeL (p.drop x)).1 : Int), ((x + (decodeL (p.drop x)).2 : Nat) : Int), 0) else (0, 0, 21)) := by
 obtain ⟨d1, d2, d3, d4⟩ := dec_bytes p x hx
 unfold Fh_Next
 rw [dF (by omega), dF (by omega)]
 simp only [Bool.or_self, cF]
 have hs : slc p (x : Int) (p.length : Int) = some (p.drop x) := by
  unfold slc; rw [if_pos (by omega)]; simp only [Int.toNat_natCast]; rw [List.take_of_length_le (by simp)]
 rw [hs, bS]
 have hne : p.drop x ≠ [] := by intro h; have := congrArg List.length h; simp at this; omega
 have hd : L_DecodeRune (p.drop x) = some (((decodeL (p.drop x)).1 : Int), ((decodeL (p.drop x)).2 : Int)) := by
  unfold L_DecodeRune Lib.decodeGo
  rw [if_neg hne, if_neg (by
   show ¬ ((p.drop x).toArray.size = 0)
   simp; omega)]
  rfl
 rw [hd, bS]
 simp only [badR_iff p x hx, F_isChar, bS]
 cases badR (decodeL (p.drop x))
 ·cases charP ((decodeL (p.drop x)).1 : Int)
  ·rfl
  ·simp only [cF, Bool.not_true, Bool.false_eq_true, if_false, if_true]
   rw [w64 (by omega) (by omega)]; rfl
 ·rfl
def okN (l : LB) : Nat → Nat → Bool
 | 0, _ => true
 | n + 1, j => if j < l.length then !badR (decodeL (l.drop j)) && (partP (decodeL (l.drop j)).1 && ((!decide (j = 0) || startP (decodeL (l.drop j)).1) && okN l n (j + (decodeL (l.drop j)).2))) else true
theorem okN_valid (l : LB) : ∀ n j, l.length ≤ j + n → okN l n j = true → Lib.validD (l.drop j) = true
 | 0, j, h, _ => by rw [List.drop_of_length_le (by omega)]; rfl
 | n + 1, j, h, hok => by
  by_cases hj : j < l.length
  ·obtain ⟨d1, d2, d3, d4⟩ := dec_bytes l j hj
   simp only [okN, if_pos hj, Bool.and_eq_true, Bool.not_eq_true'] at hok
   have hne : l.drop j ≠ [] := by intro h; have := congrArg List.length h; simp at this; omega
   have hb := hok.1
   unfold badR at hb
   rw [Lib.validD_step _ hne, if_neg (of_decide_eq_false hb), List.drop_drop]
   exact okN_valid l n _ (by omega) hok.2.2.2
  ·rw [List.drop_of_length_le (by omega)]; rfl
def nameP (l : LB) : Bool := !(decide (l = []) || decide (100 < l.length)) && okN l l.length 0
theorem F_nameC (l : LB) : Fh_Name l = some (nameP l) := by
 unfold Fh_Name nameP
 simp only [letJ]
 by_cases c : l = [] ∨ 100 < l.length
 ·have e1 : ((l == ([] : LB)) || decide ((100 : Int) < (l.length : Int))) = true := by
   simp only [Bool.or_eq_true, beq_iff_eq, decide_eq_true_eq]
   rcases c with rfl | c
   ·left; rfl
   ·right; omega
  have e2 : (decide (l = []) || decide (100 < l.length)) = true := by simpa using c
  rw [e1, e2]; rfl
 ·have hl : l.length ≤ 100 := by omega
  have hne : 0 < l.length := List.length_pos_iff.2 fun h => c (.inl h)
  have e1 : ((l == ([] : LB)) || decide ((100 : Int) < (l.length : Int))) = false := by
   simp only [Bool.or_eq_false_iff, beq_eq_false_iff_ne, decide_eq_false_iff_not]
   exact ⟨fun h => c (.inl h), by omega⟩
  have e2 : (decide (l = []) || decide (100 < l.length)) = false := by
   simp only [Bool.or_eq_false_iff, decide_eq_false_iff_not]
   exact ⟨fun h => c (.inl h), by omega⟩
  rw [e1, e2, cF, Bool.not_false, Bool.true_and]
  have hv : L_ValidString l = some (Lib.validD l) := by unfold L_ValidString; rw [if_pos (by omega)]
  rw [hv, bS]
  cases hval : Lib.validD l
  ·have : okN l l.length 0 = false := by
    cases hok : okN l l.length 0
    ·rfl
    ·have := okN_valid l l.length 0 (by omega) hok
     rw [List.drop_zero, hval] at this; cases this
   rw [this]; rfl
  simp only [Bool.not_true, cF]
  obtain ⟨o, h1, h2⟩ := iter_spec (b := Fh_Name_l0 l) (fun i x => i ≤ x ∧ x ≤ l.length ∧ okN l l.length 0 = okN l (l.length - i) x ∧ Lib.validD (l.drop x) = true) (fun o => match o with | .inl _ => okN l l.length 0 = true | .inr b => b = false ∧ okN l l.length 0 = false) l.length (x0 := (0 : Nat)) ⟨Nat.le_refl _, Nat.zero_le _, rfl, by simpa using hval⟩
   (fun i j rec hi ⟨hij, hjl, hI, hV⟩ => by
    have es : l.length - i = (l.length - (i + 1)) + 1 := by omega
    rw [es, okN] at hI
    unfold Fh_Name_l0
    by_cases hj : j < l.length
    ·obtain ⟨d1, d2, d3, d4⟩ := dec_bytes l j hj
     obtain ⟨r1, r2⟩ := dec_at l j
     have hne : l.drop j ≠ [] := by intro h; have := congrArg List.length h; simp at this; omega
     rw [Lib.validD_step _ hne] at hV
     have hb : badR (decodeL (l.drop j)) = false := by
      unfold badR
      apply dF
      intro h; rw [if_pos h] at hV; cases hV
     rw [if_neg (of_decide_eq_false hb), List.drop_drop] at hV
     rw [if_pos hj, hb] at hI
     simp only [letJ]
     rw [dT hj, cT]
     simp only [r1, r2, F_isPart, F_isStart, bS]
     have ez : (((j : Nat) : Int) == (0 : Int)) = decide (j = 0) := by
      rw [Bool.eq_iff_iff]; simp only [beq_iff_eq, decide_eq_true_eq]; omega
     rw [ez]
     cases hp : partP ((decodeL (l.drop j)).1 : Int)
     ·rw [hp] at hI
      refine .inr ⟨.inr false, ?_, rfl, by simpa using hI⟩
      cases decide (j = 0) <;> cases startP ((decodeL (l.drop j)).1 : Int) <;> rfl
     ·rw [hp] at hI
      cases hd0 : decide (j = 0)
      ·rw [hd0] at hI
       exact .inl ⟨j + (decodeL (l.drop j)).2, rfl, by omega, d2, by simpa using hI, hV⟩
      ·rw [hd0] at hI
       cases hs : startP ((decodeL (l.drop j)).1 : Int)
       ·rw [hs] at hI
        exact .inr ⟨.inr false, rfl, rfl, by simpa using hI⟩
       ·rw [hs] at hI
        exact .inl ⟨j + (decodeL (l.drop j)).2, rfl, by omega, d2, by simpa using hI, hV⟩
    ·rw [if_neg hj] at hI
     rw [dF hj, cF]
     exact .inr ⟨.inl (), rfl, hI⟩)
   (fun j rec ⟨hij, hjl, hI, hV⟩ => ⟨.inl (), by
    unfold Fh_Name_l0
    rw [dF (by omega), cF], by show okN l l.length 0 = true; rw [hI, Nat.sub_self]; rfl⟩) (n := FUEL) (by unfold FUEL; omega)
  rw [h1, bS]
  cases o with
  | inl u => simp only at h2; rw [h2]
  | inr b => obtain ⟨rfl, h3⟩ := h2; rw [h3]
def sk (P : UInt8 → Bool) (s : LB) (i : Nat) : Nat := i + ((s.drop i).takeWhile P).length
theorem sk_le (P : UInt8 → Bool) (s : LB) (i : Nat) (h : i ≤ s.length) : i ≤ sk P s i ∧ sk P s i ≤ s.length := by
 unfold sk
 have := (List.takeWhile_sublist P (l := s.drop i)).length_le
 rw [List.length_drop] at this
 omega
theorem sk_end (P : UInt8 → Bool) (s : LB) : sk P s s.length = s.length := by simp [sk]
theorem sk_step {P : UInt8 → Bool} {s : LB} {i : Nat} (h : i < s.length) : sk P s i = if P s[i] = true then sk P s (i + 1) else i := by
 unfold sk
 rw [List.drop_eq_getElem_cons h, List.takeWhile_cons]
 split
 ·rw [List.length_cons]; omega
 ·rfl
theorem scan_loop {b : (Int → Option Int) → Int → Option Int} (P : UInt8 → Bool) (s : LB)
  (hb : ∀ (rec : Int → Option Int) (i : Nat) (h : i < s.length), b rec (i : Int) = cond (P s[i]) (rec ((i + 1 : Nat) : Int)) (some (i : Int)))
  (he : ∀ rec : Int → Option Int, b rec (s.length : Int) = some (s.length : Int)) :
  ∀ (n j i : Nat), i + j = s.length → j < n → iter b n (i : Int) = some ((sk P s i : Nat) : Int)
 | 0, j, i, _, h => by omega
 | n + 1, 0, i, e, h => by
  have : i = s.length := by omega
  subst this
  show b (iter b n) _ = _
  rw [he, sk_end]
 | n + 1, j + 1, i, e, h => by
  have hi : i < s.length := by omega
  show b (iter b n) _ = _
  rw [hb _ i hi, sk_step hi]
  cases hP : P s[i] with
  | true => rw [cT, if_pos rfl]; exact scan_loop P s hb he n j (i + 1) (by omega) (by omega)
  | false => rw [cF, if_neg (by simp)]
theorem all_u8 {p : UInt8 → Bool} (h : (List.range 256).all (fun n => p (UInt8.ofNat n)) = true) (c : UInt8) : p c = true := by
 rw [List.all_eq_true] at h
 have := h c.toNat (List.mem_range.2 c.toNat_lt)
 simpa using this
theorem nat_u8 (c : UInt8) : ((c.toNat : Int)).toNat.toUInt8 = c := by simp
theorem iter_succ {σ ρ : Type} (b : (σ → Option ρ) → σ → Option ρ) (n : Nat) (x : σ) : iter b (n + 1) x = b (iter b n) x := rfl
theorem iter_two {σ τ ρ ψ : Type} {b : (σ → Option ρ) → σ → Option ρ} {c : (τ → Option ψ) → τ → Option ψ} (μ : σ → Nat) (I : σ → τ → Prop) (R : ρ → ψ → Prop)
  (step : ∀ x y, I x y → (∃ x' y', (∀ rec, b rec x = rec x') ∧ (∀ rec, c rec y = rec y') ∧ I x' y' ∧ μ x' < μ x) ∨ (∃ o q, (∀ rec, b rec x = some o) ∧ (∀ rec, c rec y = some q) ∧ R o q)) :
  ∀ (n m : Nat) (x : σ) (y : τ), I x y → μ x < n → μ x < m → ∃ o q, iter b n x = some o ∧ iter c m y = some q ∧ R o q
 | 0, _, x, y, _, h, _ => by omega
 | _ + 1, 0, x, y, _, _, h => by omega
 | n + 1, m + 1, x, y, hI, h1, h2 => by
  rcases step x y hI with ⟨x', y', e1, e2, hI', hm⟩ | ⟨o, q, e1, e2, hR⟩
  ·obtain ⟨o, q, g1, g2, hR⟩ := iter_two μ I R step n m x' y' hI' (by omega) (by omega)
   exact ⟨o, q, by show b (iter b n) x = _; rw [e1, g1], by show c (iter c m) y = _; rw [e2, g2], hR⟩
  ·exact ⟨o, q, e1 _, e2 _, hR⟩
def readN (n b0 b1 b2 b3 : Nat) : Int × Int :=
 if b0 < 128 then (b0, 1)
 else if 192 ≤ b0 ∧ b0 < 224 then
  (if n < 2 then (0, 0) else if b1 < 128 ∨ 191 < b1 then (0, 0) else
   if (64 * ((b0 : Int) - 192) + b1 - 128 < 128 ∨ 1114111 < 64 * ((b0 : Int) - 192) + b1 - 128) ∨ (55296 ≤ 64 * ((b0 : Int) - 192) + b1 - 128 ∧ 64 * ((b0 : Int) - 192) + b1 - 128 ≤ 57343) then (0, 0) else (64 * ((b0 : Int) - 192) + b1 - 128, 2))
 else if 224 ≤ b0 ∧ b0 < 240 then
  (if n < 3 then (0, 0) else if b1 < 128 ∨ 191 < b1 then (0, 0) else if b2 < 128 ∨ 191 < b2 then (0, 0) else
   if (64 * (64 * ((b0 : Int) - 224) + b1 - 128) + b2 - 128 < 2048 ∨ 1114111 < 64 * (64 * ((b0 : Int) - 224) + b1 - 128) + b2 - 128) ∨ (55296 ≤ 64 * (64 * ((b0 : Int) - 224) + b1 - 128) + b2 - 128 ∧ 64 * (64 * ((b0 : Int) - 224) + b1 - 128) + b2 - 128 ≤ 57343) then (0, 0) else (64 * (64 * ((b0 : Int) - 224) + b1 - 128) + b2 - 128, 3))
 else if 240 ≤ b0 ∧ b0 < 248 then
  (if n < 4 then (0, 0) else if b1 < 128 ∨ 191 < b1 then (0, 0) else if b2 < 128 ∨ 191 < b2 then (0, 0) else if b3 < 128 ∨ 191 < b3 then (0, 0) else
   if (64 * (64 * (64 * ((b0 : Int) - 240) + b1 - 128) + b2 - 128) + b3 - 128 < 65536 ∨ 1114111 < 64 * (64 * (64 * ((b0 : Int) - 240) + b1 - 128) + b2 - 128) + b3 - 128) ∨ (55296 ≤ 64 * (64 * (64 * ((b0 : Int) - 240) + b1 - 128) + b2 - 128) + b3 - 128 ∧ 64 * (64 * (64 * ((b0 : Int) - 240) + b1 - 128) + b2 - 128) + b3 - 128 ≤ 57343) then (0, 0) else (64 * (64 * (64 * ((b0 : Int) - 240) + b1 - 128) + b2 - 128) + b3 - 128, 4))
 else (0, 0)
theorem readN_eq (n b0 b1 b2 b3 : Nat) (hn : 1 ≤ n) (h0 : b0 < 256) (h1 : b1 < 256) (h2 : b2 < 256) (h3 : b3 < 256) :
  readN n b0 b1 b2 b3 = if badR (decodeN n b0 b1 b2 b3) then (0, 0) else (((decodeN n b0 b1 b2 b3).1 : Int), ((decodeN n b0 b1 b2 b3).2 : Int)) := by
 have key : (decodeN n b0 b1 b2 b3).1 = 65533 ∧ (decodeN n b0 b1 b2 b3).2 = 1 ∧ readN n b0 b1 b2 b3 = (0, 0) ∨ ((decodeN n b0 b1 b2 b3).2 ≠ 1 ∨ (decodeN n b0 b1 b2 b3).1 ≠ 65533) ∧ readN n b0 b1 b2 b3 = (((decodeN n b0 b1 b2 b3).1 : Int), ((decodeN n b0 b1 b2 b3).2 : Int)) := by
  by_cases c0 : b0 < 128
  ·right
   have hD : decodeN n b0 b1 b2 b3 = (b0, 1) := by unfold decodeN; rw [if_pos c0]
   have hR : readN n b0 b1 b2 b3 = ((b0 : Int), 1) := by unfold readN; rw [if_pos c0]
   rw [hD, hR]; exact ⟨.inr (by simp only; omega), rfl⟩
  by_cases c1 : b0 < 192 ∨ 248 ≤ b0
  ·
   left
   have hD : decodeN n b0 b1 b2 b3 = (65533, 1) := by unfold decodeN; rw [if_neg (show ¬ (b0 < 128) by omega), if_neg (show ¬ (b0 / 32 = 6 ∧ (1 < n ∧ b1 / 64 = 2)) by omega), if_neg (show ¬ (b0 / 16 = 14 ∧ (1 < n ∧ b1 / 64 = 2) ∧ (2 < n ∧ b2 / 64 = 2)) by omega), if_neg (show ¬ (b0 / 8 = 30 ∧ (1 < n ∧ b1 / 64 = 2) ∧ (2 < n ∧ b2 / 64 = 2) ∧ (3 < n ∧ b3 / 64 = 2)) by omega)]
   have hR : readN n b0 b1 b2 b3 = (0, 0) := by unfold readN; rw [if_neg (show ¬ (b0 < 128) by omega), if_neg (show ¬ (192 ≤ b0 ∧ b0 < 224) by omega), if_neg (show ¬ (224 ≤ b0 ∧ b0 < 240) by omega), if_neg (show ¬ (240 ≤ b0 ∧ b0 < 248) by omega)]
   rw [hD, hR]; exact ⟨rfl, rfl, rfl⟩
  by_cases c2 : b0 < 224
  ·
   by_cases g : b0 / 32 = 6 ∧ (1 < n ∧ b1 / 64 = 2)
   ·
    by_cases g2 : b0 % 32 * 64 + b1 % 64 ≥ 128
    ·
     right
     have hD : decodeN n b0 b1 b2 b3 = (b0 % 32 * 64 + b1 % 64, 2) := by unfold decodeN; rw [if_neg (show ¬ (b0 < 128) by omega), if_pos g, if_pos g2]
     have hR : readN n b0 b1 b2 b3 = (64 * ((b0 : Int) - 192) + b1 - 128, 2) := by unfold readN; rw [if_neg (show ¬ (b0 < 128) by omega), if_pos (show 192 ≤ b0 ∧ b0 < 224 by omega), if_neg (show ¬ (n < 2) by omega), if_neg (show ¬ (b1 < 128 ∨ 191 < b1) by omega), if_neg (show ¬ ((64 * ((b0 : Int) - 192) + b1 - 128 < 128 ∨ 1114111 < 64 * ((b0 : Int) - 192) + b1 - 128) ∨ (55296 ≤ 64 * ((b0 : Int) - 192) + b1 - 128 ∧ 64 * ((b0 : Int) - 192) + b1 - 128 ≤ 57343)) by omega)]
     rw [hD, hR]; exact ⟨.inl (by simp only; omega), by simp only [Prod.mk.injEq]; omega⟩
    ·
     left
     have hD : decodeN n b0 b1 b2 b3 = (65533, 1) := by unfold decodeN; rw [if_neg (show ¬ (b0 < 128) by omega), if_pos g, if_neg g2]
     have hR : readN n b0 b1 b2 b3 = (0, 0) := by unfold readN; rw [if_neg (show ¬ (b0 < 128) by omega), if_pos (show 192 ≤ b0 ∧ b0 < 224 by omega), if_neg (show ¬ (n < 2) by omega), if_neg (show ¬ (b1 < 128 ∨ 191 < b1) by omega), if_pos (show (64 * ((b0 : Int) - 192) + b1 - 128 < 128 ∨ 1114111 < 64 * ((b0 : Int) - 192) + b1 - 128) ∨ (55296 ≤ 64 * ((b0 : Int) - 192) + b1 - 128 ∧ 64 * ((b0 : Int) - 192) + b1 - 128 ≤ 57343) by omega)]
     rw [hD, hR]; exact ⟨rfl, rfl, rfl⟩
   ·
    by_cases g3 : n < 2
    ·
     left
     have hD : decodeN n b0 b1 b2 b3 = (65533, 1) := by unfold decodeN; rw [if_neg (show ¬ (b0 < 128) by omega), if_neg g, if_neg (show ¬ (b0 / 16 = 14 ∧ (1 < n ∧ b1 / 64 = 2) ∧ (2 < n ∧ b2 / 64 = 2)) by omega), if_neg (show ¬ (b0 / 8 = 30 ∧ (1 < n ∧ b1 / 64 = 2) ∧ (2 < n ∧ b2 / 64 = 2) ∧ (3 < n ∧ b3 / 64 = 2)) by omega)]
     have hR : readN n b0 b1 b2 b3 = (0, 0) := by unfold readN; rw [if_neg (show ¬ (b0 < 128) by omega), if_pos (show 192 ≤ b0 ∧ b0 < 224 by omega), if_pos g3]
     rw [hD, hR]; exact ⟨rfl, rfl, rfl⟩
    have f1 : b1 < 128 ∨ 191 < b1 := by omega
    left
    have hD : decodeN n b0 b1 b2 b3 = (65533, 1) := by unfold decodeN; rw [if_neg (show ¬ (b0 < 128) by omega), if_neg g, if_neg (show ¬ (b0 / 16 = 14 ∧ (1 < n ∧ b1 / 64 = 2) ∧ (2 < n ∧ b2 / 64 = 2)) by omega), if_neg (show ¬ (b0 / 8 = 30 ∧ (1 < n ∧ b1 / 64 = 2) ∧ (2 < n ∧ b2 / 64 = 2) ∧ (3 < n ∧ b3 / 64 = 2)) by omega)]
    have hR : readN n b0 b1 b2 b3 = (0, 0) := by unfold readN; rw [if_neg (show ¬ (b0 < 128) by omega), if_pos (show 192 ≤ b0 ∧ b0 < 224 by omega), if_neg g3, if_pos f1]
    rw [hD, hR]; exact ⟨rfl, rfl, rfl⟩
  by_cases c3 : b0 < 240
  ·
   by_cases g : b0 / 16 = 14 ∧ (1 < n ∧ b1 / 64 = 2) ∧ (2 < n ∧ b2 / 64 = 2)
   ·
    by_cases g2 : b0 % 16 * 4096 + b1 % 64 * 64 + b2 % 64 ≥ 2048 ∧ (b0 % 16 * 4096 + b1 % 64 * 64 + b2 % 64 < 55296 ∨ (57344 ≤ b0 % 16 * 4096 + b1 % 64 * 64 + b2 % 64 ∧ b0 % 16 * 4096 + b1 % 64 * 64 + b2 % 64 ≤ 1114111))
    ·
     right
     have hD : decodeN n b0 b1 b2 b3 = (b0 % 16 * 4096 + b1 % 64 * 64 + b2 % 64, 3) := by unfold decodeN; rw [if_neg (show ¬ (b0 < 128) by omega), if_neg (show ¬ (b0 / 32 = 6 ∧ (1 < n ∧ b1 / 64 = 2)) by omega), if_pos g, if_pos g2]
     have hR : readN n b0 b1 b2 b3 = (64 * (64 * ((b0 : Int) - 224) + b1 - 128) + b2 - 128, 3) := by unfold readN; rw [if_neg (show ¬ (b0 < 128) by omega), if_neg (show ¬ (192 ≤ b0 ∧ b0 < 224) by omega), if_pos (show 224 ≤ b0 ∧ b0 < 240 by omega), if_neg (show ¬ (n < 3) by omega), if_neg (show ¬ (b1 < 128 ∨ 191 < b1) by omega), if_neg (show ¬ (b2 < 128 ∨ 191 < b2) by omega), if_neg (show ¬ ((64 * (64 * ((b0 : Int) - 224) + b1 - 128) + b2 - 128 < 2048 ∨ 1114111 < 64 * (64 * ((b0 : Int) - 224) + b1 - 128) + b2 - 128) ∨ (55296 ≤ 64 * (64 * ((b0 : Int) - 224) + b1 - 128) + b2 - 128 ∧ 64 * (64 * ((b0 : Int) - 224) + b1 - 128) + b2 - 128 ≤ 57343)) by omega)]
     rw [hD, hR]; exact ⟨.inl (by simp only; omega), by simp only [Prod.mk.injEq]; omega⟩
    ·
     left
     have hD : decodeN n b0 b1 b2 b3 = (65533, 1) := by unfold decodeN; rw [if_neg (show ¬ (b0 < 128) by omega), if_neg (show ¬ (b0 / 32 = 6 ∧ (1 < n ∧ b1 / 64 = 2)) by omega), if_pos g, if_neg g2]
     have hR : readN n b0 b1 b2 b3 = (0, 0) := by unfold readN; rw [if_neg (show ¬ (b0 < 128) by omega), if_neg (show ¬ (192 ≤ b0 ∧ b0 < 224) by omega), if_pos (show 224 ≤ b0 ∧ b0 < 240 by omega), if_neg (show ¬ (n < 3) by omega), if_neg (show ¬ (b1 < 128 ∨ 191 < b1) by omega), if_neg (show ¬ (b2 < 128 ∨ 191 < b2) by omega), if_pos (show (64 * (64 * ((b0 : Int) - 224) + b1 - 128) + b2 - 128 < 2048 ∨ 1114111 < 64 * (64 * ((b0 : Int) - 224) + b1 - 128) + b2 - 128) ∨ (55296 ≤ 64 * (64 * ((b0 : Int) - 224) + b1 - 128) + b2 - 128 ∧ 64 * (64 * ((b0 : Int) - 224) + b1 - 128) + b2 - 128 ≤ 57343) by omega)]
     rw [hD, hR]; exact ⟨rfl, rfl, rfl⟩
   ·
    by_cases g3 : n < 3
    ·
     left
     have hD : decodeN n b0 b1 b2 b3 = (65533, 1) := by unfold decodeN; rw [if_neg (show ¬ (b0 < 128) by omega), if_neg (show ¬ (b0 / 32 = 6 ∧ (1 < n ∧ b1 / 64 = 2)) by omega), if_neg g, if_neg (show ¬ (b0 / 8 = 30 ∧ (1 < n ∧ b1 / 64 = 2) ∧ (2 < n ∧ b2 / 64 = 2) ∧ (3 < n ∧ b3 / 64 = 2)) by omega)]
     have hR : readN n b0 b1 b2 b3 = (0, 0) := by unfold readN; rw [if_neg (show ¬ (b0 < 128) by omega), if_neg (show ¬ (192 ≤ b0 ∧ b0 < 224) by omega), if_pos (show 224 ≤ b0 ∧ b0 < 240 by omega), if_pos g3]
     rw [hD, hR]; exact ⟨rfl, rfl, rfl⟩
    by_cases f1 : b1 < 128 ∨ 191 < b1
    ·
     left
     have hD : decodeN n b0 b1 b2 b3 = (65533, 1) := by unfold decodeN; rw [if_neg (show ¬ (b0 < 128) by omega), if_neg (show ¬ (b0 / 32 = 6 ∧ (1 < n ∧ b1 / 64 = 2)) by omega), if_neg g, if_neg (show ¬ (b0 / 8 = 30 ∧ (1 < n ∧ b1 / 64 = 2) ∧ (2 < n ∧ b2 / 64 = 2) ∧ (3 < n ∧ b3 / 64 = 2)) by omega)]
     have hR : readN n b0 b1 b2 b3 = (0, 0) := by unfold readN; rw [if_neg (show ¬ (b0 < 128) by omega), if_neg (show ¬ (192 ≤ b0 ∧ b0 < 224) by omega), if_pos (show 224 ≤ b0 ∧ b0 < 240 by omega), if_neg g3, if_pos f1]
     rw [hD, hR]; exact ⟨rfl, rfl, rfl⟩
    have f2 : b2 < 128 ∨ 191 < b2 := by omega
    left
    have hD : decodeN n b0 b1 b2 b3 = (65533, 1) := by unfold decodeN; rw [if_neg (show ¬ (b0 < 128) by omega), if_neg (show ¬ (b0 / 32 = 6 ∧ (1 < n ∧ b1 / 64 = 2)) by omega), if_neg g, if_neg (show ¬ (b0 / 8 = 30 ∧ (1 < n ∧ b1 / 64 = 2) ∧ (2 < n ∧ b2 / 64 = 2) ∧ (3 < n ∧ b3 / 64 = 2)) by omega)]
    have hR : readN n b0 b1 b2 b3 = (0, 0) := by unfold readN; rw [if_neg (show ¬ (b0 < 128) by omega), if_neg (show ¬ (192 ≤ b0 ∧ b0 < 224) by omega), if_pos (show 224 ≤ b0 ∧ b0 < 240 by omega), if_neg g3, if_neg f1, if_pos f2]
    rw [hD, hR]; exact ⟨rfl, rfl, rfl⟩
  by_cases c4 : b0 < 248
  ·
   by_cases g : b0 / 8 = 30 ∧ (1 < n ∧ b1 / 64 = 2) ∧ (2 < n ∧ b2 / 64 = 2) ∧ (3 < n ∧ b3 / 64 = 2)
   ·
    by_cases g2 : b0 % 8 * 262144 + b1 % 64 * 4096 + b2 % 64 * 64 + b3 % 64 ≥ 65536 ∧ (b0 % 8 * 262144 + b1 % 64 * 4096 + b2 % 64 * 64 + b3 % 64 < 55296 ∨ (57344 ≤ b0 % 8 * 262144 + b1 % 64 * 4096 + b2 % 64 * 64 + b3 % 64 ∧ b0 % 8 * 262144 + b1 % 64 * 4096 + b2 % 64 * 64 + b3 % 64 ≤ 1114111))
    ·
     right
     have hD : decodeN n b0 b1 b2 b3 = (b0 % 8 * 262144 + b1 % 64 * 4096 + b2 % 64 * 64 + b3 % 64, 4) := by unfold decodeN; rw [if_neg (show ¬ (b0 < 128) by omega), if_neg (show ¬ (b0 / 32 = 6 ∧ (1 < n ∧ b1 / 64 = 2)) by omega), if_neg (show ¬ (b0 / 16 = 14 ∧ (1 < n ∧ b1 / 64 = 2) ∧ (2 < n ∧ b2 / 64 = 2)) by omega), if_pos g, if_pos g2]
     have hR : readN n b0 b1 b2 b3 = (64 * (64 * (64 * ((b0 : Int) - 240) + b1 - 128) + b2 - 128) + b3 - 128, 4) := by unfold readN; rw [if_neg (show ¬ (b0 < 128) by omega), if_neg (show ¬ (192 ≤ b0 ∧ b0 < 224) by omega), if_neg (show ¬ (224 ≤ b0 ∧ b0 < 240) by omega), if_pos (show 240 ≤ b0 ∧ b0 < 248 by omega), if_neg (show ¬ (n < 4) by omega), if_neg (show ¬ (b1 < 128 ∨ 191 < b1) by omega), if_neg (show ¬ (b2 < 128 ∨ 191 < b2) by omega), if_neg (show ¬ (b3 < 128 ∨ 191 < b3) by omega), if_neg (show ¬ ((64 * (64 * (64 * ((b0 : Int) - 240) + b1 - 128) + b2 - 128) + b3 - 128 < 65536 ∨ 1114111 < 64 * (64 * (64 * ((b0 : Int) - 240) + b1 - 128) + b2 - 128) + b3 - 128) ∨ (55296 ≤ 64 * (64 * (64 * ((b0 : Int) - 240) + b1 - 128) + b2 - 128) + b3 - 128 ∧ 64 * (64 * (64 * ((b0 : Int) - 240) + b1 - 128) + b2 - 128) + b3 - 128 ≤ 57343)) by omega)]
     rw [hD, hR]; exact ⟨.inl (by simp only; omega), by simp only [Prod.mk.injEq]; omega⟩
    ·
     left
     have hD : decodeN n b0 b1 b2 b3 = (65533, 1) := by unfold decodeN; rw [if_neg (show ¬ (b0 < 128) by omega), if_neg (show ¬ (b0 / 32 = 6 ∧ (1 < n ∧ b1 / 64 = 2)) by omega), if_neg (show ¬ (b0 / 16 = 14 ∧ (1 < n ∧ b1 / 64 = 2) ∧ (2 < n ∧ b2 / 64 = 2)) by omega), if_pos g, if_neg g2]
     have hR : readN n b0 b1 b2 b3 = (0, 0) := by unfold readN; rw [if_neg (show ¬ (b0 < 128) by omega), if_neg (show ¬ (192 ≤ b0 ∧ b0 < 224) by omega), if_neg (show ¬ (224 ≤ b0 ∧ b0 < 240) by omega), if_pos (show 240 ≤ b0 ∧ b0 < 248 by omega), if_neg (show ¬ (n < 4) by omega), if_neg (show ¬ (b1 < 128 ∨ 191 < b1) by omega), if_neg (show ¬ (b2 < 128 ∨ 191 < b2) by omega), if_neg (show ¬ (b3 < 128 ∨ 191 < b3) by omega), if_pos (show (64 * (64 * (64 * ((b0 : Int) - 240) + b1 - 128) + b2 - 128) + b3 - 128 < 65536 ∨ 1114111 < 64 * (64 * (64 * ((b0 : Int) - 240) + b1 - 128) + b2 - 128) + b3 - 128) ∨ (55296 ≤ 64 * (64 * (64 * ((b0 : Int) - 240) + b1 - 128) + b2 - 128) + b3 - 128 ∧ 64 * (64 * (64 * ((b0 : Int) - 240) + b1 - 128) + b2 - 128) + b3 - 128 ≤ 57343) by omega)]
     rw [hD, hR]; exact ⟨rfl, rfl, rfl⟩
   ·
    by_cases g3 : n < 4
    ·
     left
     have hD : decodeN n b0 b1 b2 b3 = (65533, 1) := by unfold decodeN; rw [if_neg (show ¬ (b0 < 128) by omega), if_neg (show ¬ (b0 / 32 = 6 ∧ (1 < n ∧ b1 / 64 = 2)) by omega), if_neg (show ¬ (b0 / 16 = 14 ∧ (1 < n ∧ b1 / 64 = 2) ∧ (2 < n ∧ b2 / 64 = 2)) by omega), if_neg g]
     have hR : readN n b0 b1 b2 b3 = (0, 0) := by unfold readN; rw [if_neg (show ¬ (b0 < 128) by omega), if_neg (show ¬ (192 ≤ b0 ∧ b0 < 224) by omega), if_neg (show ¬ (224 ≤ b0 ∧ b0 < 240) by omega), if_pos (show 240 ≤ b0 ∧ b0 < 248 by omega), if_pos g3]
     rw [hD, hR]; exact ⟨rfl, rfl, rfl⟩
    by_cases f1 : b1 < 128 ∨ 191 < b1
    ·
     left
     have hD : decodeN n b0 b1 b2 b3 = (65533, 1) := by unfold decodeN; rw [if_neg (show ¬ (b0 < 128) by omega), if_neg (show ¬ (b0 / 32 = 6 ∧ (1 < n ∧ b1 / 64 = 2)) by omega), if_neg (show ¬ (b0 / 16 = 14 ∧ (1 < n ∧ b1 / 64 = 2) ∧ (2 < n ∧ b2 / 64 = 2)) by omega), if_neg g]
     have hR : readN n b0 b1 b2 b3 = (0, 0) := by unfold readN; rw [if_neg (show ¬ (b0 < 128) by omega), if_neg (show ¬ (192 ≤ b0 ∧ b0 < 224) by omega), if_neg (show ¬ (224 ≤ b0 ∧ b0 < 240) by omega), if_pos (show 240 ≤ b0 ∧ b0 < 248 by omega), if_neg g3, if_pos f1]
     rw [hD, hR]; exact ⟨rfl, rfl, rfl⟩
    by_cases f2 : b2 < 128 ∨ 191 < b2
    ·
     left
     have hD : decodeN n b0 b1 b2 b3 = (65533, 1) := by unfold decodeN; rw [if_neg (show ¬ (b0 < 128) by omega), if_neg (show ¬ (b0 / 32 = 6 ∧ (1 < n ∧ b1 / 64 = 2)) by omega), if_neg (show ¬ (b0 / 16 = 14 ∧ (1 < n ∧ b1 / 64 = 2) ∧ (2 < n ∧ b2 / 64 = 2)) by omega), if_neg g]
     have hR : readN n b0 b1 b2 b3 = (0, 0) := by unfold readN; rw [if_neg (show ¬ (b0 < 128) by omega), if_neg (show ¬ (192 ≤ b0 ∧ b0 < 224) by omega), if_neg (show ¬ (224 ≤ b0 ∧ b0 < 240) by omega), if_pos (show 240 ≤ b0 ∧ b0 < 248 by omega), if_neg g3, if_neg f1, if_pos f2]
     rw [hD, hR]; exact ⟨rfl, rfl, rfl⟩
    have f3 : b3 < 128 ∨ 191 < b3 := by omega
    left
    have hD : decodeN n b0 b1 b2 b3 = (65533, 1) := by unfold decodeN; rw [if_neg (show ¬ (b0 < 128) by omega), if_neg (show ¬ (b0 / 32 = 6 ∧ (1 < n ∧ b1 / 64 = 2)) by omega), if_neg (show ¬ (b0 / 16 = 14 ∧ (1 < n ∧ b1 / 64 = 2) ∧ (2 < n ∧ b2 / 64 = 2)) by omega), if_neg g]
    have hR : readN n b0 b1 b2 b3 = (0, 0) := by unfold readN; rw [if_neg (show ¬ (b0 < 128) by omega), if_neg (show ¬ (192 ≤ b0 ∧ b0 < 224) by omega), if_neg (show ¬ (224 ≤ b0 ∧ b0 < 240) by omega), if_pos (show 240 ≤ b0 ∧ b0 < 248 by omega), if_neg g3, if_neg f1, if_neg f2, if_pos f3]
    rw [hD, hR]; exact ⟨rfl, rfl, rfl⟩
  exact absurd c4 (by omega)
 unfold badR
 rcases key with ⟨k1, k2, k3⟩ | ⟨k1, k2⟩
 ·rw [dT ⟨k1, k2⟩, k3]; rfl
 ·rw [dF (by omega), k2]; rfl
open Go.Lib (decodeL decodeN)
abbrev bt (l : LB) (k : Nat) : Nat := (l.getD k 0).toNat
theorem bt_lt (l : LB) (k : Nat) : bt l k < 256 := (l.getD k 0).toNat_lt
theorem idx_bt {l : LB} {k : Nat} (h : k < l.length) : idx l (k : Int) = some (l.getD k 0) := by
 rw [idx_some h]; simp [List.getD, h]
theorem loop_step (l : LB) (i k : Nat) (n : Int) (rec : Int × Int → Option (Int ⊕ (Int × Int))) (r : Int) (hk : (k : Int) < n) (hik : i + k < l.length) (hl : l.length ≤ 1073741824) (hr0 : 0 ≤ r) (hr1 : r ≤ 1073741824) :
  Fa_Read_l0 l (i : Int) n rec (r, (k : Int)) = if bt l (i + k) < 128 ∨ 191 < bt l (i + k) then some (.inr ((0 : Int), (0 : Int))) else rec (64 * r + (bt l (i + k) : Int) - 128, ((k + 1 : Nat) : Int)) := by
 have hb := bt_lt l (i + k)
 unfold Fa_Read_l0
 simp only
 rw [dT hk, cT, w64 (x := (i : Int) + (k : Int)) (by omega) (by omega), show ((i : Int) + (k : Int)) = ((i + k : Nat) : Int) by omega, idx_bt hik, bS]
 have e : (((l.getD (i + k) 0).toNat : Nat) : Int) = (bt l (i + k) : Int) := rfl
 rw [e, w64 (x := (bt l (i + k) : Int)) (by omega) (by omega)]
 by_cases c : bt l (i + k) < 128 ∨ 191 < bt l (i + k)
 ·rw [if_pos c]
  have : (decide ((bt l (i + k) : Int) < (128 : Int)) || decide ((191 : Int) < (bt l (i + k) : Int))) = true := by simp only [Bool.or_eq_true, decide_eq_true_eq]; omega
  rw [this, cT]
 ·rw [if_neg c]
  have : (decide ((bt l (i + k) : Int) < (128 : Int)) || decide ((191 : Int) < (bt l (i + k) : Int))) = false := by simp only [Bool.or_eq_false_iff, decide_eq_false_iff_not]; omega
  rw [this, cF, w64 (x := (64 : Int) * r) (by omega) (by omega), w64 (x := (64 : Int) * r + (bt l (i + k) : Int)) (by omega) (by omega), w64 (x := (64 : Int) * r + (bt l (i + k) : Int) - 128) (by omega) (by omega), w64 (x := (k : Int) + 1) (by omega) (by omega)]; rfl
theorem loop_end (l : LB) (i : Int) (n : Int) (rec : Int × Int → Option (Int ⊕ (Int × Int))) (r : Int) : Fa_Read_l0 l i n rec (r, n) = some (.inl r) := by
 unfold Fa_Read_l0
 simp only
 rw [dF (by omega), cF]
theorem loop2 (l : LB) (i : Nat) (r : Int) (hik : i + 2 ≤ l.length) (hl : l.length ≤ 1073741824) (hr0 : 0 ≤ r) (hr1 : r ≤ 1000) :
  iter (Fa_Read_l0 l (i : Int) 2) FUEL (r, 1) = some (if bt l (i + 1) < 128 ∨ 191 < bt l (i + 1) then .inr (0, 0) else .inl (64 * r + (bt l (i + 1) : Int) - 128)) := by
 have key : ∀ N, iter (Fa_Read_l0 l (i : Int) 2) (N + 2) (r, ((1 : Nat) : Int)) = some (if bt l (i + 1) < 128 ∨ 191 < bt l (i + 1) then .inr (0, 0) else .inl (64 * r + (bt l (i + 1) : Int) - 128)) := fun N => by
  show Fa_Read_l0 l (i : Int) 2 (iter _ (N + 1)) (r, ((1 : Nat) : Int)) = _
  rw [loop_step l i 1 2 _ r (by omega) (by omega) hl hr0 (by omega)]
  split
  ·rfl
  ·show Fa_Read_l0 l (i : Int) 2 (iter _ N) (_, 2) = _
   rw [loop_end]
 rw [show FUEL = 18446744073709551614 + 2 from rfl]; exact key _
theorem loop3 (l : LB) (i : Nat) (r : Int) (hik : i + 3 ≤ l.length) (hl : l.length ≤ 1073741824) (hr0 : 0 ≤ r) (hr1 : r ≤ 1000) :
  iter (Fa_Read_l0 l (i : Int) 3) FUEL (r, 1) = some (if bt l (i + 1) < 128 ∨ 191 < bt l (i + 1) then .inr (0, 0) else if bt l (i + 2) < 128 ∨ 191 < bt l (i + 2) then .inr (0, 0) else .inl (64 * (64 * r + (bt l (i + 1) : Int) - 128) + (bt l (i + 2) : Int) - 128)) := by
 have h1 := bt_lt l (i + 1)
 have key : ∀ N, iter (Fa_Read_l0 l (i : Int) 3) (N + 3) (r, ((1 : Nat) : Int)) = some (if bt l (i + 1) < 128 ∨ 191 < bt l (i + 1) then .inr (0, 0) else if bt l (i + 2) < 128 ∨ 191 < bt l (i + 2) then .inr (0, 0) else .inl (64 * (64 * r + (bt l (i + 1) : Int) - 128) + (bt l (i + 2) : Int) - 128)) := fun N => by
  show Fa_Read_l0 l (i : Int) 3 (iter _ (N + 2)) (r, ((1 : Nat) : Int)) = _
  rw [loop_step l i 1 3 _ r (by omega) (by omega) hl hr0 (by omega)]
  split
  ·rfl
  ·rename_i c
   show Fa_Read_l0 l (i : Int) 3 (iter _ (N + 1)) (_, ((2 : Nat) : Int)) = _
   rw [loop_step l i 2 3 _ _ (by omega) (by omega) hl (by omega) (by omega)]
   split
   ·rfl
   ·show Fa_Read_l0 l (i : Int) 3 (iter _ N) (_, 3) = _
    rw [loop_end]
 rw [show FUEL = 18446744073709551613 + 3 from rfl]; exact key _
theorem loop4 (l : LB) (i : Nat) (r : Int) (hik : i + 4 ≤ l.length) (hl : l.length ≤ 1073741824) (hr0 : 0 ≤ r) (hr1 : r ≤ 1000) :
  iter (Fa_Read_l0 l (i : Int) 4) FUEL (r, 1) = some (if bt l (i + 1) < 128 ∨ 191 < bt l (i + 1) then .inr (0, 0) else if bt l (i + 2) < 128 ∨ 191 < bt l (i + 2) then .inr (0, 0) else if bt l (i + 3) < 128 ∨ 191 < bt l (i + 3) then .inr (0, 0) else .inl (64 * (64 * (64 * r + (bt l (i + 1) : Int) - 128) + (bt l (i + 2) : Int) - 128) + (bt l (i + 3) : Int) - 128)) := by
 have h1 := bt_lt l (i + 1)
 have h2 := bt_lt l (i + 2)
 have key : ∀ N, iter (Fa_Read_l0 l (i : Int) 4) (N + 4) (r, ((1 : Nat) : Int)) = some (if bt l (i + 1) < 128 ∨ 191 < bt l (i + 1) then .inr (0, 0) else if bt l (i + 2) < 128 ∨ 191 < bt l (i + 2) then .inr (0, 0) else if bt l (i + 3) < 128 ∨ 191 < bt l (i + 3) then .inr (0, 0) else .inl (64 * (64 * (64 * r + (bt l (i + 1) : Int) - 128) + (bt l (i + 2) : Int) - 128) + (bt l (i + 3) : Int) - 128)) := fun N => by
  show Fa_Read_l0 l (i : Int) 4 (iter _ (N + 3)) (r, ((1 : Nat) : Int)) = _
  rw [loop_step l i 1 4 _ r (by omega) (by omega) hl hr0 (by omega)]
  split
  ·rfl
  ·rename_i c
   show Fa_Read_l0 l (i : Int) 4 (iter _ (N + 2)) (_, ((2 : Nat) : Int)) = _
   rw [loop_step l i 2 4 _ _ (by omega) (by omega) hl (by omega) (by omega)]
   split
   ·rfl
   ·rename_i c2
    show Fa_Read_l0 l (i : Int) 4 (iter _ (N + 1)) (_, ((3 : Nat) : Int)) = _
    rw [loop_step l i 3 4 _ _ (by omega) (by omega) hl (by omega) (by omega)]
    split
    ·rfl
    ·show Fa_Read_l0 l (i : Int) 4 (iter _ N) (_, 4) = _
     rw [loop_end]
 rw [show FUEL = 18446744073709551612 + 4 from rfl]; exact key _
theorem bad3 {r least : Int} : (((decide (r < least)) || (decide ((1114111 : Int) < r))) || ((decide ((55296 : Int) ≤ r)) && (decide (r ≤ (57343 : Int))))) = decide ((r < least ∨ 1114111 < r) ∨ (55296 ≤ r ∧ r ≤ 57343)) := by
 simp only [Bool.decide_or, Bool.decide_and]
theorem F_readN (l : LB) (i : Nat) (hi : i < l.length) (hl : l.length ≤ 1073741824) : Fa_Read l (i : Int) = some (readN (l.length - i) (bt l i) (bt l (i + 1)) (bt l (i + 2)) (bt l (i + 3))) := by
 have h0 := bt_lt l i
 unfold Fa_Read
 rw [idx_bt hi, bS]
 have e : (((l.getD i 0).toNat : Nat) : Int) = (bt l i : Int) := rfl
 simp only [e, letJ, bad3]
 rw [w64 (x := (bt l i : Int)) (by omega) (by omega)]
 unfold readN
 by_cases c0 : bt l i < 128
 ·rw [if_pos c0, dT (by omega), cT]
 rw [if_neg c0, dF (show ¬ ((bt l i : Int) < 128) by omega), cF]
 by_cases c2 : 192 ≤ bt l i ∧ bt l i < 224
 ·rw [if_pos c2, dT (show (192 : Int) ≤ (bt l i : Int) by omega), dT (show (bt l i : Int) < 224 by omega), Bool.and_self, cT, w64 (x := (i : Int) + 2) (by omega) (by omega)]
  by_cases g : l.length - i < 2
  ·rw [if_pos g, dT (show (l.length : Int) < (i : Int) + 2 by omega), cT]
  ·rw [if_neg g, dF (show ¬ ((l.length : Int) < (i : Int) + 2) by omega), cF, w64 (x := (bt l i : Int) - 192) (by omega) (by omega), loop2 l i _ (by omega) hl (by omega) (by omega), bS]
   by_cases f1 : bt l (i + 1) < 128 ∨ 191 < bt l (i + 1)
   ·rw [if_pos f1, if_pos f1]
   ·rw [if_neg f1, if_neg f1]
    simp only
    split
    ·rename_i hh; rw [dT hh, cT]
    ·rename_i hh; rw [dF hh, cF]
 rw [if_neg c2, show (decide ((192 : Int) ≤ (bt l i : Int)) && decide ((bt l i : Int) < 224)) = false by simp only [Bool.and_eq_false_iff, decide_eq_false_iff_not]; omega, cF]
 by_cases c3 : 224 ≤ bt l i ∧ bt l i < 240
 ·rw [if_pos c3, dT (show (224 : Int) ≤ (bt l i : Int) by omega), dT (show (bt l i : Int) < 240 by omega), Bool.and_self, cT, w64 (x := (i : Int) + 3) (by omega) (by omega)]
  by_cases g : l.length - i < 3
  ·rw [if_pos g, dT (show (l.length : Int) < (i : Int) + 3 by omega), cT]
  ·rw [if_neg g, dF (show ¬ ((l.length : Int) < (i : Int) + 3) by omega), cF, w64 (x := (bt l i : Int) - 224) (by omega) (by omega), loop3 l i _ (by omega) hl (by omega) (by omega), bS]
   by_cases f1 : bt l (i + 1) < 128 ∨ 191 < bt l (i + 1)
   ·rw [if_pos f1, if_pos f1]
   ·rw [if_neg f1, if_neg f1]
    by_cases f2 : bt l (i + 2) < 128 ∨ 191 < bt l (i + 2)
    ·rw [if_pos f2, if_pos f2]
    ·rw [if_neg f2, if_neg f2]
     simp only
     split
     ·rename_i hh; rw [dT hh, cT]
     ·rename_i hh; rw [dF hh, cF]
 rw [if_neg c3, show (decide ((224 : Int) ≤ (bt l i : Int)) && decide ((bt l i : Int) < 240)) = false by simp only [Bool.and_eq_false_iff, decide_eq_false_iff_not]; omega, cF]
 by_cases c4 : 240 ≤ bt l i ∧ bt l i < 248
 ·rw [if_pos c4, dT (show (240 : Int) ≤ (bt l i : Int) by omega), dT (show (bt l i : Int) < 248 by omega), Bool.and_self, cT, w64 (x := (i : Int) + 4) (by omega) (by omega)]
  by_cases g : l.length - i < 4
  ·rw [if_pos g, dT (show (l.length : Int) < (i : Int) + 4 by omega), cT]
  ·rw [if_neg g, dF (show ¬ ((l.length : Int) < (i : Int) + 4) by omega), cF, w64 (x := (bt l i : Int) - 240) (by omega) (by omega), loop4 l i _ (by omega) hl (by omega) (by omega), bS]
   by_cases f1 : bt l (i + 1) < 128 ∨ 191 < bt l (i + 1)
   ·rw [if_pos f1, if_pos f1]
   ·rw [if_neg f1, if_neg f1]
    by_cases f2 : bt l (i + 2) < 128 ∨ 191 < bt l (i + 2)
    ·rw [if_pos f2, if_pos f2]
    ·rw [if_neg f2, if_neg f2]
     by_cases f3 : bt l (i + 3) < 128 ∨ 191 < bt l (i + 3)
     ·rw [if_pos f3, if_pos f3]
     ·rw [if_neg f3, if_neg f3]
      simp only
      split
      ·rename_i hh; rw [dT hh, cT]
      ·rename_i hh; rw [dF hh, cF]
 rw [if_neg c4, show (decide ((240 : Int) ≤ (bt l i : Int)) && decide ((bt l i : Int) < 248)) = false by simp only [Bool.and_eq_false_iff, decide_eq_false_iff_not]; omega, cF]
theorem F_read1 (l : LB) (i : Nat) (hi : i < l.length) (hl : l.length ≤ 1073741824) : Fa_Read l (i : Int) = some (if badR (decodeL (l.drop i)) then (0, 0) else (((decodeL (l.drop i)).1 : Int), ((decodeL (l.drop i)).2 : Int))) := by
 rw [F_readN l i hi hl, readN_eq _ _ _ _ _ (by omega) (bt_lt _ _) (bt_lt _ _) (bt_lt _ _) (bt_lt _ _)]
 have e := Lib.decodeL_N (l.drop i)
 simp only [getD_drop, List.length_drop] at e
 rw [e]; rfl
theorem slc_drop {α : Type} {l : List α} {n : Nat} (h : n ≤ l.length) : slc l (n : Int) (l.length : Int) = some (l.drop n) := by
 unfold slc; rw [if_pos (by omega)]; simp only [Int.toNat_natCast]; rw [List.take_of_length_le (by simp)]
theorem slc_take0 {α : Type} {l : List α} {n : Nat} (h : n ≤ l.length) : slc l (0 : Int) (n : Int) = some (l.take n) := by
 unfold slc; rw [if_pos (by omega)]; simp
def hereP (b : LB) (i : Nat) (w : LB) : Bool := w.isPrefixOf (b.drop i)
theorem isPre_take (w l : LB) : w.isPrefixOf l = (decide (w.length ≤ l.length) && (l.take w.length == w)) := by
 rw [Bool.eq_iff_iff, List.isPrefixOf_iff_prefix, Bool.and_eq_true, decide_eq_true_eq, beq_iff_eq, List.prefix_iff_eq_take]
 constructor
 ·intro h
  refine ⟨?_, h.symm⟩
  have := congrArg List.length h
  rw [List.length_take] at this; omega
 ·rintro ⟨_, h⟩; exact h.symm
theorem hasPrefix_eq (l w : LB) : Fy_HasPrefix l w = some (w.isPrefixOf l) := by
 unfold Fy_HasPrefix Fy_Equal
 simp only [letJ]
 rw [isPre_take]
 by_cases h : w.length ≤ l.length
 ·rw [dT (show (w.length : Int) ≤ (l.length : Int) by omega), cT, slc_take0 h, bS, bS, dT h, Bool.true_and]
 ·rw [dF (show ¬ (w.length : Int) ≤ (l.length : Int) by omega), cF, dF h, Bool.false_and]
theorem here_eq (b : LB) (i : Nat) (w : LB) (hi : i ≤ b.length) : Fs_here ⟨b, (i : Int)⟩ w = some (hereP b i w) := by
 unfold Fs_here
 dsimp only
 rw [slc_drop hi, bS, hasPrefix_eq, bS]; rfl
theorem hereP_len {b : LB} {i : Nat} {w : LB} (h : hereP b i w = true) (hi : i ≤ b.length) : i + w.length ≤ b.length := by
 unfold hereP at h
 rw [isPre_take, Bool.and_eq_true, decide_eq_true_eq, List.length_drop] at h
 omega
theorem hereP_get {b : LB} {i : Nat} {c : UInt8} {w : LB} (h : hereP b i (c :: w) = true) : b[i]? = some c := by
 unfold hereP at h
 rw [List.isPrefixOf_iff_prefix] at h
 obtain ⟨r, hr⟩ := h
 have : (b.drop i)[0]? = some c := by rw [← hr]; rfl
 rwa [List.getElem?_drop, Nat.add_zero] at this
theorem hereP_one {b : LB} {i : Nat} {c : UInt8} : hereP b i [c] = (b[i]? == some c) := by
 unfold hereP
 by_cases hi : i < b.length
 ·rw [List.drop_eq_getElem_cons hi, List.getElem?_eq_getElem hi]
  simp only [List.isPrefixOf, Bool.and_true]
  rw [Bool.eq_iff_iff, beq_iff_eq, beq_iff_eq, Option.some.injEq]
  exact ⟨fun h => h.symm, fun h => h.symm⟩
 ·rw [List.drop_eq_nil_of_le (by omega), List.getElem?_eq_none (by omega)]; rfl
def wsP (c : UInt8) : Bool := decide ((0 : Int) ≤ Lib.indexByte [32, 9, 10, 13] c)
theorem spaces_eq (b : LB) (a : Int) (i : Nat) (hi : i ≤ b.length) (hb : b.length ≤ 1073741824) : Fs_spaces ⟨b, a⟩ (i : Int) = some ((sk wsP b i : Nat) : Int) := by
 unfold Fs_spaces
 simp only [letJ]
 have := scan_loop (b := Fs_spaces_l0 ⟨b, a⟩) wsP b (fun rec i h => by
  unfold Fs_spaces_l0
  simp only [letJ]
  rw [dT (by omega), cT, idx_some h, bS]
  unfold L_IndexByte
  rw [nat_u8, bS, w64 (by omega) (by omega)]
  rfl) (fun rec => by
  unfold Fs_spaces_l0
  simp only [letJ]
  rw [dF (by omega), cF, cF]) FUEL (b.length - i) i (by omega) (by unfold FUEL; omega)
 rw [this, bS]
theorem sign_eq (b : LB) (i : Nat) (w : LB) (hi : i ≤ b.length) (hb : b.length ≤ 1073741824) : Fs_sign ⟨b, (i : Int)⟩ w = some (if hereP b i w = true then (0, ⟨b, ((i + w.length : Nat) : Int)⟩) else (23, ⟨b, (i : Int)⟩)) := by
 unfold Fs_sign
 rw [here_eq b i w hi, bS]
 cases h : hereP b i w with
 | false => rfl
 | true =>
  have := hereP_len h hi
  dsimp only
  rw [Bool.not_true, cF, if_pos rfl, w64 (by omega) (by omega)]; rfl
theorem equals_sp (b : LB) (i : Nat) (hi : i ≤ b.length) (hb : b.length ≤ 1073741824) : ∃ (e : Int) (j : Nat), Fs_equals ⟨b, (i : Int)⟩ = some (e, ⟨b, (j : Int)⟩) ∧ i ≤ j ∧ j ≤ b.length := by
 obtain ⟨s1, s2⟩ := sk_le wsP b i hi
 unfold Fs_equals
 rw [spaces_eq b _ i hi hb, bS]
 dsimp only
 rw [sign_eq b _ _ s2 hb, bS]
 cases h : hereP b (sk wsP b i) [61] with
 | false =>
  obtain ⟨t1, t2⟩ := sk_le wsP b _ s2
  rw [if_neg (by simp)]
  dsimp only
  rw [spaces_eq b _ _ s2 hb, bS]
  exact ⟨23, _, rfl, by omega, t2⟩
 | true =>
  have hl := hereP_len h s2
  obtain ⟨t1, t2⟩ := sk_le wsP b _ hl
  rw [if_pos rfl]
  dsimp only
  rw [spaces_eq b _ _ hl hb, bS]
  exact ⟨0, _, rfl, by omega, t2⟩
theorem ixB_lt (l : LB) (c : UInt8) (h : 0 ≤ Lib.indexByte l c) : Lib.indexByte l c < l.length := by
 induction l with
 | nil => simp [Lib.indexByte] at h
 | cons b l ih =>
  simp only [Lib.indexByte] at h ⊢
  split
  ·rw [List.length_cons]; omega
  ·rename_i hb
   rw [if_neg hb] at h
   split at h
   ·omega
   ·rename_i h1
    rw [if_neg h1]
    have h2 := Lib.indexByte_ge l c
    have h3 : Lib.indexByte l c ≠ -1 := by simpa using h1
    have := ih (by omega)
    rw [List.length_cons]; omega
theorem ixB_nat (l : LB) (c : UInt8) (h : ¬ Lib.indexByte l c < 0) : ∃ n : Nat, Lib.indexByte l c = (n : Int) ∧ n < l.length := by
 have := ixB_lt l c (by omega)
 exact ⟨(Lib.indexByte l c).toNat, by omega, by omega⟩
theorem quoted_sp (b : LB) (i : Nat) (hi : i ≤ b.length) (hb : b.length ≤ 1073741824) : ∃ (v : LB) (e : Int) (j : Nat), Fs_quoted ⟨b, (i : Int)⟩ = some ((v, e), ⟨b, (j : Int)⟩) ∧ i ≤ j ∧ j ≤ b.length ∧ v.length ≤ b.length ∧ (e = 0 → i < j) := by
 have none : ∃ (v : LB) (e : Int) (j : Nat), (some ((([] : LB), (23 : Int)), (⟨b, (i : Int)⟩ : TS)) : Option ((LB × Int) × TS)) = some ((v, e), ⟨b, (j : Int)⟩) ∧ i ≤ j ∧ j ≤ b.length ∧ v.length ≤ b.length ∧ (e = 0 → i < j) := ⟨[], 23, i, rfl, Nat.le_refl _, hi, Nat.zero_le _, fun h => by omega⟩
 have main : i < b.length → ∃ (v : LB) (e : Int) (j : Nat), ((slc b (IntKind.wrap .i64 ((i : Int) + (1 : Int))) (b.length : Int)).bind fun x7 =>
   (idx b (i : Int)).bind fun x8 =>
   (L_bIndexByte x7 (x8.toNat : Int)).bind fun x9 =>
   cond (decide (x9 < (0 : Int)))
   (some ((([] : LB), (23 : Int)), (⟨b, (i : Int)⟩ : TS)))
   ((slc x7 (0 : Int) x9).bind fun x11 =>
   some ((x11, (0 : Int)), (⟨b, (IntKind.wrap .i64 ((i : Int) + (IntKind.wrap .i64 (x9 + (2 : Int)))))⟩ : TS)))) = some ((v, e), ⟨b, (j : Int)⟩) ∧ i ≤ j ∧ j ≤ b.length ∧ v.length ≤ b.length ∧ (e = 0 → i < j) := by
  intro hlt
  rw [w64 (x := (i : Int) + 1) (by omega) (by omega), show (i : Int) + 1 = ((i + 1 : Nat) : Int) by omega, slc_drop hlt, bS, idx_some hlt, bS]
  unfold L_bIndexByte
  rw [nat_u8, bS]
  by_cases hn : Lib.indexByte (b.drop (i + 1)) b[i] < 0
  ·rw [dT hn, cT]; exact none
  ·obtain ⟨n, e1, e2⟩ := ixB_nat _ _ hn
   rw [dF hn, cF, e1, slc_take0 (Nat.le_of_lt e2), bS]
   rw [List.length_drop] at e2
   rw [w64 (x := (n : Int) + 2) (by omega) (by omega), w64 (by omega) (by omega)]
   refine ⟨_, 0, i + (n + 2), rfl, by omega, by omega, ?_, fun _ => by omega⟩
   rw [List.length_take, List.length_drop]; omega
 unfold Fs_quoted
 dsimp only
 rw [here_eq b i _ hi, here_eq b i _ hi, bS]
 simp only [letJ]
 cases h1 : hereP b i [39] with
 | true =>
  have := hereP_len h1 hi
  rw [Bool.not_true, cF, cF]
  exact main (by simp at this; omega)
 | false =>
  rw [Bool.not_false, cT, bS]
  cases h2 : hereP b i [34] with
  | true =>
   have := hereP_len h2 hi
   rw [Bool.not_true, cF]
   exact main (by simp at this; omega)
  | false => rw [Bool.not_false, cT]; exact none
theorem decodeRune_eq (b : LB) (i : Nat) (hi : i < b.length) : L_DecodeRune (b.drop i) = some (((decodeL (b.drop i)).1 : Int), ((decodeL (b.drop i)).2 : Int)) := by
 have hne : b.drop i ≠ [] := by intro h; have := congrArg List.length h; simp at this; omega
 unfold L_DecodeRune Lib.decodeGo
 rw [if_neg hne, if_neg (by
  show ¬ ((b.drop i).toArray.size = 0)
  simp; omega)]
 rfl
theorem split_some (q : LB) (hq : q.length ≤ 1073741824) : ∃ r, Fh_Split q = some r := by
 unfold Fh_Split L_Cut
 rw [if_pos (by omega), bS]
 simp only [letJ, F_nameC, bS]
 cases (Lib.cut q [58]).2.2 <;> cases nameP q <;> cases nameP (Lib.cut q [58]).1 <;> cases nameP (Lib.cut q [58]).2.1 <;> exact ⟨_, rfl⟩
theorem name_sp (b : LB) (i : Nat) (hi : i ≤ b.length) (hb : b.length ≤ 1073741824) : ∃ (v : LB) (e : Int) (j : Nat), Fs_name ⟨b, (i : Int)⟩ = some ((v, e), ⟨b, (j : Int)⟩) ∧ i ≤ j ∧ j ≤ b.length ∧ v.length ≤ b.length ∧ (e = 0 → v ≠ [] ∧ i < j) := by
 have key : ∃ o : Int, iter (Fs_name_l0 ⟨b, (i : Int)⟩) FUEL (i : Int) = some o ∧ ∃ j : Nat, o = (j : Int) ∧ i ≤ j ∧ j ≤ b.length := by
  refine iter_spec (b := Fs_name_l0 ⟨b, (i : Int)⟩) (fun k x => ∃ j : Nat, x = (j : Int) ∧ i + k ≤ j ∧ j ≤ b.length) _ (b.length - i) (x0 := (i : Int)) ⟨i, rfl, by omega, hi⟩ ?_ ?_ (n := FUEL) (by unfold FUEL; omega)
  ·rintro k x rec hk ⟨j, rfl, h1, h2⟩
   unfold Fs_name_l0
   dsimp only
   by_cases hj : j < b.length
   ·obtain ⟨d1, d2, _⟩ := dec_bytes b j hj
    rw [dT (by omega), cT, slc_drop h2, bS, decodeRune_eq b j hj, bS]
    simp only [letJ, F_isPart, F_isStart, bS]
    have hgo : IntKind.wrap .i64 ((j : Int) + ((decodeL (b.drop j)).2 : Int)) = ((j + (decodeL (b.drop j)).2 : Nat) : Int) := by rw [w64 (by omega) (by omega)]; omega
    rw [hgo]
    have two : ∀ c : Bool, (∃ y, cond c (some (j : Int)) (rec ((j + (decodeL (b.drop j)).2 : Nat) : Int)) = rec y ∧ ∃ j' : Nat, y = (j' : Int) ∧ i + (k + 1) ≤ j' ∧ j' ≤ b.length) ∨ (∃ o, cond c (some (j : Int)) (rec ((j + (decodeL (b.drop j)).2 : Nat) : Int)) = some o ∧ ∃ j' : Nat, o = (j' : Int) ∧ i ≤ j' ∧ j' ≤ b.length) := by
     intro c
     cases c with
     | false => exact .inl ⟨_, rfl, _, rfl, by omega, d2⟩
     | true => exact .inr ⟨_, rfl, j, rfl, by omega, h2⟩
    cases ((decodeL (b.drop j)).1 : Int) != 58 with
    | false => exact two false
    | true =>
     cases partP ((decodeL (b.drop j)).1 : Int) with
     | false => exact two true
     | true =>
      cases ((j : Int) == (i : Int)) with
      | false => exact two false
      | true => exact two (!startP ((decodeL (b.drop j)).1 : Int))
   ·rw [dF (by omega), cF]
    exact .inr ⟨_, rfl, j, rfl, by omega, h2⟩
  ·rintro x rec ⟨j, rfl, h1, h2⟩
   have : j = b.length := by omega
   subst this
   unfold Fs_name_l0
   dsimp only
   rw [dF (by omega), cF]
   exact ⟨_, rfl, _, rfl, hi, Nat.le_refl _⟩
 obtain ⟨o, e1, j, rfl, h1, h2⟩ := key
 unfold Fs_name
 simp only [letJ]
 rw [e1, bS]
 have hsl : slc b (i : Int) (j : Int) = some ((b.drop i).take (j - i)) := by
  unfold slc; rw [if_pos (by omega)]; simp only [Int.toNat_natCast]
 rw [hsl, bS]
 have hlen : ((b.drop i).take (j - i)).length = j - i := by rw [List.length_take, List.length_drop]; omega
 generalize (b.drop i).take (j - i) = w at hlen
 by_cases hw : w = []
 ·rw [show (w == []) = true by simp [hw], cT]
  exact ⟨[], 23, i, rfl, Nat.le_refl _, hi, Nat.zero_le _, fun h => by omega⟩
 ·obtain ⟨r, hr⟩ := split_some w (by omega)
  rw [show (w == []) = false by simp [hw], cF, hr, bS]
  cases r.2.2 with
  | false => exact ⟨[], 24, i, rfl, Nat.le_refl _, hi, Nat.zero_le _, fun h => by omega⟩
  | true =>
   have : 0 < w.length := List.length_pos_iff.2 hw
   exact ⟨w, 0, j, rfl, h1, h2, by omega, fun _ => ⟨hw, by omega⟩⟩
theorem iter_dec {σ ρ : Type} {b : (σ → Option ρ) → σ → Option ρ} (μ : σ → Nat) (I : σ → Prop) (R : ρ → Prop)
  (step : ∀ x, I x → (∃ y, (∀ rec, b rec x = rec y) ∧ I y ∧ μ y < μ x) ∨ (∃ o, (∀ rec, b rec x = some o) ∧ R o)) :
  ∀ (n : Nat) (x : σ), I x → μ x < n → ∃ o, iter b n x = some o ∧ R o
 | 0, x, _, h => by omega
 | n + 1, x, hI, h1 => by
  rcases step x hI with ⟨y, e1, hI', hm⟩ | ⟨o, e1, hR⟩
  ·obtain ⟨o, g1, hR⟩ := iter_dec μ I R step n y hI' (by omega)
   exact ⟨o, by show b (iter b n) x = _; rw [e1, g1], hR⟩
  ·exact ⟨o, e1 _, hR⟩
theorem eqf_l2 (p0 p1 : LB) (h0 : p0.length ≤ 1073741824) (h1 : p1.length ≤ 1073741824) : ∃ o, iter (Fq_l2 p0 p1) FUEL (0 : Int) = some o ∧
  (∀ a, o = .inr (.inl a) → ∃ (i : Nat) (g0 : i < p0.length) (g1 : i < p1.length), a = (i : Int) ∧ (128 : Int) ≤ ior .u8 (p0[i].toNat : Int) (p1[i].toNat : Int)) := by
 refine iter_dec (b := Fq_l2 p0 p1) (fun x => p0.length - x.toNat) (fun x => ∃ i : Nat, x = (i : Int) ∧ i ≤ p0.length) _ ?_ FUEL (0 : Int) ⟨0, rfl, Nat.zero_le _⟩ (by unfold FUEL; omega)
 rintro _ ⟨i, rfl, hi⟩
 by_cases hlt : i < p0.length ∧ i < p1.length
 ·obtain ⟨g0, g1⟩ := hlt
  have hmin : decide ((i : Int) < (if (p1.length : Int) < (p0.length : Int) then (p1.length : Int) else (p0.length : Int))) = true := by
   apply dT; split <;> omega
  have hb : ∀ rec, Fq_l2 p0 p1 rec (i : Int) = cond (decide ((128 : Int) ≤ (ior .u8 (p0[i].toNat : Int) (p1[i].toNat : Int))))
    (some (.inr (.inl (i : Int)))) (cond ((p1[i].toNat : Int) == (p0[i].toNat : Int)) (rec ((i + 1 : Nat) : Int))
     (cond (decide ((p1[i].toNat : Int) < (p0[i].toNat : Int)))
      (cond (((decide ((65 : Int) ≤ (p1[i].toNat : Int))) && (decide ((p1[i].toNat : Int) ≤ (90 : Int)))) && ((p0[i].toNat : Int) == (IntKind.wrap .u8 ((IntKind.wrap .u8 ((p1[i].toNat : Int) + (97 : Int))) - (65 : Int))))) (rec ((i + 1 : Nat) : Int)) (some (.inr (.inr false))))
      (cond (((decide ((65 : Int) ≤ (p0[i].toNat : Int))) && (decide ((p0[i].toNat : Int) ≤ (90 : Int)))) && ((p1[i].toNat : Int) == (IntKind.wrap .u8 ((IntKind.wrap .u8 ((p0[i].toNat : Int) + (97 : Int))) - (65 : Int))))) (rec ((i + 1 : Nat) : Int)) (some (.inr (.inr false)))))) := by
   intro rec
   unfold Fq_l2
   simp only [letJ]
   rw [hmin, cT, idx_some g0, bS, idx_some g1, bS, w64 (by omega) (by omega)]
   rfl
  have go : ∃ y : Int, y = ((i + 1 : Nat) : Int) ∧ (∃ i : Nat, y = (i : Int) ∧ i ≤ p0.length) ∧ p0.length - y.toNat < p0.length - ((i : Nat) : Int).toNat := ⟨_, rfl, ⟨_, rfl, g0⟩, by omega⟩
  obtain ⟨y, hy, hI, hm⟩ := go
  cases c1 : decide ((128 : Int) ≤ (ior .u8 (p0[i].toNat : Int) (p1[i].toNat : Int))) with
  | true =>
   right
   exact ⟨.inr (.inl (i : Int)), fun rec => by rw [hb, c1, cT], fun a ha => by
    injection ha with ha; injection ha with ha
    exact ⟨i, g0, g1, ha.symm, of_decide_eq_true c1⟩⟩
  | false =>
   have fin : ∀ o : Unit ⊕ Int ⊕ Bool, o = .inr (.inr false) → ∀ a, o = .inr (.inl a) → ∃ (i : Nat) (g0 : i < p0.length) (g1 : i < p1.length), a = (i : Int) ∧ (128 : Int) ≤ ior .u8 (p0[i].toNat : Int) (p1[i].toNat : Int) := by
    rintro o rfl a ha; cases ha
   cases c2 : ((p1[i].toNat : Int) == (p0[i].toNat : Int)) with
   | true => exact .inl ⟨y, fun rec => by rw [hb, c1, cF, c2, cT, hy], hI, hm⟩
   | false =>
    cases c3 : decide ((p1[i].toNat : Int) < (p0[i].toNat : Int)) with
    | true =>
     cases c4 : (((decide ((65 : Int) ≤ (p1[i].toNat : Int))) && (decide ((p1[i].toNat : Int) ≤ (90 : Int)))) && ((p0[i].toNat : Int) == (IntKind.wrap .u8 ((IntKind.wrap .u8 ((p1[i].toNat : Int) + (97 : Int))) - (65 : Int))))) with
     | true => exact .inl ⟨y, fun rec => by rw [hb, c1, cF, c2, cF, c3, cT, c4, cT, hy], hI, hm⟩
     | false => exact .inr ⟨_, fun rec => by rw [hb, c1, cF, c2, cF, c3, cT, c4, cF], fin _ rfl⟩
    | false =>
     cases c4 : (((decide ((65 : Int) ≤ (p0[i].toNat : Int))) && (decide ((p0[i].toNat : Int) ≤ (90 : Int)))) && ((p1[i].toNat : Int) == (IntKind.wrap .u8 ((IntKind.wrap .u8 ((p0[i].toNat : Int) + (97 : Int))) - (65 : Int))))) with
     | true => exact .inl ⟨y, fun rec => by rw [hb, c1, cF, c2, cF, c3, cF, c4, cT, hy], hI, hm⟩
     | false => exact .inr ⟨_, fun rec => by rw [hb, c1, cF, c2, cF, c3, cF, c4, cF], fin _ rfl⟩
 ·right
  have hmin : decide ((i : Int) < (if (p1.length : Int) < (p0.length : Int) then (p1.length : Int) else (p0.length : Int))) = false := by
   apply dF; split <;> omega
  exact ⟨.inl (), fun rec => by unfold Fq_l2; rw [hmin, cF], fun a ha => by cases ha⟩
theorem eqf_l1 (c rn : Int) (hc : c = 120 ∨ c = 109 ∨ c = 108) (hr : 128 ≤ rn) : iter (Fq_l1 c rn) FUEL (c - 32) = some c := by
 obtain ⟨m, hm⟩ : ∃ m, FUEL = m + 1 + 1 := ⟨FUEL - 2, by unfold FUEL; rfl⟩
 rw [hm, iter_succ]
 unfold Fq_l1
 have h1 : ((c - 32 != c) && decide (c - 32 < rn)) = true := by simp; omega
 rw [h1, cT]
 have h2 : L_SimpleFold (c - 32) = some c := by
  rcases hc with rfl | rfl | rfl <;> rfl
 rw [h2, bS]
 show iter (Fq_l1 c rn) (m + 1) c = some c
 rw [iter_succ]
 unfold Fq_l1
 have h3 : ((c != c) && decide (c < rn)) = false := by simp
 rw [h3, cF]
def xmlS (l : LB) : Prop := l = [120, 109, 108] ∨ l = [109, 108] ∨ l = [108] ∨ l = []
theorem eqf_l0 (s : LB) (hs : s.length ≤ 1073741824) (l : LB) (hl : xmlS l) : ∃ o, iter (Fq_l0 s) FUEL (l, (0 : Nat)) = some o ∧ True := by
 refine iter_dec (b := Fq_l0 s) (fun x => s.length - x.2) (fun x => xmlS x.1) _ ?_ FUEL (l, (0 : Nat)) hl (by unfold FUEL; dsimp only; omega)
 rintro ⟨a, p⟩ hx
 dsimp only at hx ⊢
 by_cases hp : p < s.length
 ·obtain ⟨r1, r2⟩ := dec_at s p
  obtain ⟨d1, d2, _⟩ := dec_bytes s p hp
  have hw : s.length - (p + wdS s p) < s.length - p := by rw [r2]; omega
  have core : ∀ (c : UInt8) (t : LB), a = c :: t → ((c.toNat : Int) = 120 ∨ (c.toNat : Int) = 109 ∨ (c.toNat : Int) = 108) → L_DecodeRuneInString a = some ((c.toNat : Int), 1) → xmlS t →
    (∃ y : LB × Nat, (∀ rec, Fq_l0 s rec (a, p) = rec y) ∧ xmlS y.1 ∧ s.length - y.2 < s.length - p) ∨ (∃ o, (∀ rec, Fq_l0 s rec (a, p) = some o) ∧ True) := by
   intro c t ha hc hd ht
   have hsl : slc a (1 : Int) (a.length : Int) = some t := by rw [slc_tail (by rw [ha]; simp), ha]; rfl
   generalize hrn : rnS s p = rn at *
   have hb : ∀ rec, Fq_l0 s rec (a, p) = cond ((c.toNat : Int) == rn) (rec (t, p + wdS s p)) (cond (decide ((c.toNat : Int) < rn))
     (cond (decide (rn < (128 : Int))) (cond (((decide ((65 : Int) ≤ (c.toNat : Int))) && (decide ((c.toNat : Int) ≤ (90 : Int)))) && (rn == (IntKind.wrap .i32 ((IntKind.wrap .i32 ((c.toNat : Int) + (97 : Int))) - (65 : Int))))) (rec (t, p + wdS s p)) (some (.inr false)))
      ((L_SimpleFold (c.toNat : Int)).bind fun x102 => (iter (Fq_l1 (c.toNat : Int) rn) FUEL x102).bind fun o => cond (o == rn) (rec (t, p + wdS s p)) (some (.inr false))))
     (cond (decide ((c.toNat : Int) < (128 : Int))) (cond (((decide ((65 : Int) ≤ rn)) && (decide (rn ≤ (90 : Int)))) && ((c.toNat : Int) == (IntKind.wrap .i32 ((IntKind.wrap .i32 (rn + (97 : Int))) - (65 : Int))))) (rec (t, p + wdS s p)) (some (.inr false)))
      ((L_SimpleFold rn).bind fun x102 => (iter (Fq_l1 rn (c.toNat : Int)) FUEL x102).bind fun o => cond (o == (c.toNat : Int)) (rec (t, p + wdS s p)) (some (.inr false))))) := by
    intro rec
    unfold Fq_l0
    simp only [letJ]
    rw [dT hp, cT, show ((a.length : Int) == 0) = false by rw [ha]; simp; omega, cF, hd, bS]
    dsimp only
    rw [hsl, bS, hrn]
   have two : ∀ k : Bool, (∃ y : LB × Nat, (∀ rec : LB × Nat → Option (LB ⊕ Bool), cond k (rec (t, p + wdS s p)) (some (.inr false)) = rec y) ∧ xmlS y.1 ∧ s.length - y.2 < s.length - p) ∨ (∃ o, (∀ rec : LB × Nat → Option (LB ⊕ Bool), cond k (rec (t, p + wdS s p)) (some (.inr false)) = some o) ∧ True) := by
    intro k
    cases k with
    | true => exact .inl ⟨(t, p + wdS s p), fun _ => rfl, ht, hw⟩
    | false => exact .inr ⟨_, fun _ => rfl, trivial⟩
   simp only [hb]
   cases ((c.toNat : Int) == rn) with
   | true => exact .inl ⟨(t, p + wdS s p), fun _ => rfl, ht, hw⟩
   | false =>
    simp only [cF]
    by_cases c3 : (c.toNat : Int) < rn
    ·rw [dT c3]
     simp only [cT]
     by_cases c4 : rn < 128
     ·rw [dT c4]
      simp only [cT]
      exact two _
     ·rw [dF c4]
      have hf : L_SimpleFold (c.toNat : Int) = some ((c.toNat : Int) - 32) := by rcases hc with h | h | h <;> rw [h] <;> rfl
      simp only [cF, hf, bS, eqf_l1 _ rn hc (by omega)]
      exact two _
    ·rw [dF c3, dT (show (c.toNat : Int) < 128 by omega)]
     simp only [cF, cT]
     exact two _
  rcases hx with h | h | h | h
  ·exact core 120 [109, 108] h (.inl rfl) (by rw [h]; rfl) (.inr (.inl rfl))
  ·exact core 109 [108] h (.inr (.inl rfl)) (by rw [h]; rfl) (.inr (.inr (.inl rfl)))
  ·exact core 108 [] h (.inr (.inr rfl)) (by rw [h]; rfl) (.inr (.inr (.inr rfl)))
  ·right
   refine ⟨.inr false, fun rec => ?_, trivial⟩
   unfold Fq_l0
   dsimp only
   rw [dT hp, cT, h]; rfl
 ·right
  refine ⟨.inl a, fun rec => ?_, trivial⟩
  unfold Fq_l0
  dsimp only
  rw [dF hp, cF]
theorem eqf_xml (w : LB) (hw : w.length ≤ 1073741824) : ∃ r, Fq w [120, 109, 108] = some r := by
 obtain ⟨o, e1, e2⟩ := eqf_l2 w [120, 109, 108] hw (by simp)
 unfold Fq
 simp only [letJ]
 rw [e1, bS]
 match o, e2 with
 | .inl _, _ => exact ⟨_, rfl⟩
 | .inr (.inr r), _ => exact ⟨_, rfl⟩
 | .inr (.inl a), e2 =>
  obtain ⟨i, g0, g1, rfl, _⟩ := e2 a rfl
  have hx : xmlS (([120, 109, 108] : LB).drop i) := by
   match i, g1 with
   | 0, _ => exact .inl rfl
   | 1, _ => exact .inr (.inl rfl)
   | 2, _ => exact .inr (.inr (.inl rfl))
  dsimp only
  rw [slc_drop (Nat.le_of_lt g0), bS, slc_drop (Nat.le_of_lt g1), bS]
  obtain ⟨o2, f1, _⟩ := eqf_l0 (w.drop i) (by rw [List.length_drop]; omega) _ hx
  rw [f1, bS]
  cases o2 with
  | inl q => exact ⟨_, rfl⟩
  | inr q => exact ⟨_, rfl⟩
theorem eqf_ascii (w v : LB) (hw : w.length ≤ 1073741824) (hv : v.length ≤ 1073741824) (h1 : ∀ b ∈ w, b.toNat < 128) (h2 : ∀ b ∈ v, b.toNat < 128) : ∃ r, Fq w v = some r := by
 obtain ⟨o, e1, e2⟩ := eqf_l2 w v hw hv
 unfold Fq
 simp only [letJ]
 rw [e1, bS]
 match o, e2 with
 | .inl _, _ => exact ⟨_, rfl⟩
 | .inr (.inr r), _ => exact ⟨_, rfl⟩
 | .inr (.inl a), e2 =>
  obtain ⟨i, g0, g1, rfl, h⟩ := e2 a rfl
  have a1 := h1 _ (List.getElem_mem g0)
  have a2 := h2 _ (List.getElem_mem g1)
  have e : ior .u8 (w[i].toNat : Int) (v[i].toNat : Int) = ((w[i].toNat ||| v[i].toNat : Nat) : Int) := u8_or_nat _ _ (by omega) (by omega)
  have := Nat.or_lt_two_pow (n := 7) a1 a2
  rw [e] at h; omega
theorem cutPrefix_eq (l w : LB) : Fx l w = some (if w.isPrefixOf l = true then (l.drop w.length, true) else (l, false)) := by
 have hh : Fi_HasPrefix l w = some (w.isPrefixOf l) := by
  unfold Fi_HasPrefix
  simp only [letJ]
  rw [isPre_take]
  by_cases h : w.length ≤ l.length
  ·rw [dT (show (w.length : Int) ≤ (l.length : Int) by omega), cT, slc_take0 h, bS, dT h, Bool.true_and]
  ·rw [dF (show ¬ (w.length : Int) ≤ (l.length : Int) by omega), cF, dF h, Bool.false_and]
 unfold Fx Fi_CutPrefix
 rw [hh, bS]
 cases h : w.isPrefixOf l with
 | false => rfl
 | true =>
  have h2 := h
  rw [isPre_take, Bool.and_eq_true, decide_eq_true_eq] at h2
  rw [Bool.not_true, cF, slc_drop h2.1]; rfl
theorem dropWhile_nil {p : UInt8 → Bool} : ∀ {l : LB}, l.dropWhile p = [] → ∀ b ∈ l, p b = true
 | [], _, b, hb => by cases hb
 | c :: l, h, b, hb => by
  rw [List.dropWhile_cons] at h
  split at h
  ·rename_i hc
   rcases List.mem_cons.1 hb with rfl | hb
   ·exact hc
   ·exact dropWhile_nil h b hb
  ·cases h
theorem dropWhile_head {p : UInt8 → Bool} : ∀ {l : LB}, (∀ b ∈ l.dropWhile p, p b = true) → l.dropWhile p = []
 | [], _ => rfl
 | c :: l, h => by
  rw [List.dropWhile_cons] at h ⊢
  split
  ·rename_i hc
   rw [if_pos hc] at h
   exact dropWhile_head h
  ·rename_i hc
   rw [if_neg hc] at h
   exact absurd (h c (List.mem_cons_self ..)) hc
theorem trimS_nil {l cs : LB} (h : Lib.trimS l cs = []) : ∀ b ∈ l, cs.contains b = true := by
 unfold Lib.trimS Lib.trimLeftS Lib.trimRightS at h
 have h1 := dropWhile_nil h
 have h2 : l.reverse.dropWhile (cs.contains ·) = [] := dropWhile_head (fun b hb => h1 b (by rw [List.mem_reverse]; exact hb))
 have h3 := dropWhile_nil h2
 exact fun b hb => h3 b (by rw [List.mem_reverse]; exact hb)
theorem fits_sp (w v : LB) (hv : v.length ≤ 1073741824) : ∃ r, F_scan_fits w v = some r ∧ (w = [101, 110, 99, 111, 100, 105, 110, 103] → r = true → ∀ b ∈ v, b.toNat < 128) := by
 unfold F_scan_fits
 by_cases c1 : w = [118, 101, 114, 115, 105, 111, 110]
 ·rw [show (w == ([118, 101, 114, 115, 105, 111, 110] : LB)) = true by rw [c1]; rfl, cT, cutPrefix_eq, bS]
  have hne : w ≠ [101, 110, 99, 111, 100, 105, 110, 103] := by rw [c1]; decide
  simp only [letJ]
  generalize hx : (if ([49, 46] : LB).isPrefixOf v = true then (v.drop ([49, 46] : LB).length, true) else (v, false)) = x
  have hxl : x.1.length ≤ 1073741824 := by
   rw [← hx]; split
   ·dsimp only; rw [List.length_drop]; omega
   ·exact hv
  have ht : L_Trim x.1 [48, 49, 50, 51, 52, 53, 54, 55, 56, 57] = some (Lib.trimS x.1 [48, 49, 50, 51, 52, 53, 54, 55, 56, 57]) := by
   unfold L_Trim; rw [if_pos ⟨by omega, by decide, by decide⟩]
  rw [ht]
  cases x.2 && !(x.1 == []) with
  | true => exact ⟨_, rfl, fun h => absurd h hne⟩
  | false => exact ⟨_, rfl, fun h => absurd h hne⟩
 ·rw [show (w == ([118, 101, 114, 115, 105, 111, 110] : LB)) = false by simpa using c1, cF]
  by_cases c2 : w = [101, 110, 99, 111, 100, 105, 110, 103]
  ·rw [show (w == ([101, 110, 99, 111, 100, 105, 110, 103] : LB)) = true by rw [c2]; rfl, cT]
   simp only [letJ]
   by_cases c3 : v = []
   ·rw [show (v == ([] : LB)) = true by simp [c3]]
    exact ⟨false, rfl, fun _ h => by cases h⟩
   ·have hpos : 0 < v.length := List.length_pos_iff.2 c3
    rw [show (v == ([] : LB)) = false by simpa using c3, Bool.not_false, cT, show (0 : Int) = ((0 : Nat) : Int) from rfl, idx_some hpos, bS]
    unfold L_IndexByte
    rw [nat_u8, bS]
    cases decide (((0 : Nat) : Int) ≤ Lib.indexByte _ v[0]) with
    | false => exact ⟨false, rfl, fun _ h => by cases h⟩
    | true =>
     rw [cT]
     unfold L_Trim
     rw [if_pos ⟨by omega, by decide, by decide⟩, bS]
     refine ⟨_, rfl, fun _ h b hb => ?_⟩
     have h2 := trimS_nil (eq_of_beq h) b hb
     have h3 := all_u8 (p := fun c => !(([65, 66, 67, 68, 69, 70, 71, 72, 73, 74, 75, 76, 77, 78, 79, 80, 81, 82, 83, 84, 85, 86, 87, 88, 89, 90, 97, 98, 99, 100, 101, 102, 103, 104, 105, 106, 107, 108, 109, 110, 111, 112, 113, 114, 115, 116, 117, 118, 119, 120, 121, 122, 48, 49, 50, 51, 52, 53, 54, 55, 56, 57, 46, 95, 45] : LB).contains c) || decide (c.toNat < 128)) (by decide +kernel) b
     rw [h2] at h3
     simpa using h3
  ·rw [show (w == ([101, 110, 99, 111, 100, 105, 110, 103] : LB)) = false by simpa using c2, cF]
   exact ⟨_, rfl, fun h => absurd h c2⟩
theorem index_occ : ∀ {s sub : LB} {n : Nat}, Lib.index s sub = (n : Int) → sub ≠ [] → sub.isPrefixOf (s.drop n) = true ∧ n + sub.length ≤ s.length
 | [], sub, n, h, hne => by
  simp only [Lib.index] at h
  split at h
  ·rename_i he
   exact absurd (by simpa using he) hne
  ·omega
 | b :: l, sub, n, h, hne => by
  simp only [Lib.index] at h
  split at h
  ·rename_i hp
   have : n = 0 := by omega
   subst this
   have h2 := hp
   rw [isPre_take, Bool.and_eq_true, decide_eq_true_eq] at h2
   exact ⟨hp, by omega⟩
  ·split at h
   ·omega
   ·cases n with
    | zero =>
     have := Lib.index_ge l sub
     rename_i h1
     have h3 : Lib.index l sub ≠ -1 := by simpa using h1
     omega
    | succ n =>
     have := index_occ (s := l) (sub := sub) (n := n) (by omega) hne
     exact ⟨this.1, by rw [List.length_cons]; omega⟩
theorem ixB_get : ∀ {l : LB} {c : UInt8} {n : Nat}, Lib.indexByte l c = (n : Int) → l[n]? = some c
 | [], c, n, h => by simp [Lib.indexByte] at h
 | b :: l, c, n, h => by
  simp only [Lib.indexByte] at h
  split at h
  ·rename_i hb
   have : n = 0 := by omega
   subst this
   have : b = c := by simpa using hb
   subst this; rfl
  ·split at h
   ·omega
   ·rename_i h1
    have := Lib.indexByte_ge l c
    have h3 : Lib.indexByte l c ≠ -1 := by simpa using h1
    cases n with
    | zero => omega
    | succ n =>
     have := ixB_get (l := l) (c := c) (n := n) (by omega)
     simpa using this
theorem digit_some (c : Int) : ∃ r, Fr_digit c = some r := by
 unfold Fr_digit
 cases (decide ((48 : Int) ≤ c)) && (decide (c ≤ (57 : Int))) with
 | true => exact ⟨_, rfl⟩
 | false =>
  cases (decide ((97 : Int) ≤ c)) && (decide (c ≤ (102 : Int))) with
  | true => exact ⟨_, rfl⟩
  | false => cases (decide ((65 : Int) ≤ c)) && (decide (c ≤ (70 : Int))) <;> exact ⟨_, rfl⟩
theorem meant_l0 (a : LB) (k : Int) (ha : a.length ≤ 1073741824) : ∃ o, iter (Fr_meant_l0 a k) FUEL ((0 : Int), (0 : Int)) = some o ∧ True := by
 refine iter_spec (b := Fr_meant_l0 a k) (fun i x => ∃ n : Int, x = (n, (i : Int))) _ a.length (x0 := ((0 : Int), (0 : Int))) ⟨0, rfl⟩ ?_ ?_ (n := FUEL) (by unfold FUEL; omega)
 ·rintro i x rec hi ⟨n, rfl⟩
  obtain ⟨r, hr⟩ := digit_some (a[i].toNat : Int)
  unfold Fr_meant_l0
  dsimp only
  rw [dT (by omega), cT, idx_some hi, bS, hr, bS]
  cases decide (k ≤ r) with
  | true => exact .inr ⟨_, rfl, trivial⟩
  | false =>
   rw [cF, w64 (x := (i : Int) + 1) (by omega) (by omega)]
   exact .inl ⟨_, rfl, _, rfl⟩
 ·rintro x rec ⟨n, rfl⟩
  unfold Fr_meant_l0
  dsimp only
  rw [dF (by omega), cF]
  exact ⟨_, rfl, trivial⟩
theorem meant_some (s : LB) (hs : s.length ≤ 1073741824) : ∃ r, Fr_meant s = some r := by
 unfold Fr_meant
 cases s == ([108, 116] : LB) with
 | true => exact ⟨_, rfl⟩
 | false =>
 cases s == ([103, 116] : LB) with
 | true => exact ⟨_, rfl⟩
 | false =>
 cases s == ([97, 109, 112] : LB) with
 | true => exact ⟨_, rfl⟩
 | false =>
 cases s == ([97, 112, 111, 115] : LB) with
 | true => exact ⟨_, rfl⟩
 | false =>
 cases s == ([113, 117, 111, 116] : LB) with
 | true => exact ⟨_, rfl⟩
 | false =>
  simp only [cF]
  rw [cutPrefix_eq, bS]
  generalize hx : (if ([35] : LB).isPrefixOf s = true then (s.drop ([35] : LB).length, true) else (s, false)) = x
  have hxl : x.1.length ≤ 1073741824 := by
   rw [← hx]; split
   ·dsimp only; rw [List.length_drop]; omega
   ·exact hs
  simp only [letJ]
  rw [cutPrefix_eq, bS]
  generalize hy : (if ([120] : LB).isPrefixOf x.1 = true then (x.1.drop ([120] : LB).length, true) else (x.1, false)) = y
  have hyl : y.1.length ≤ 1073741824 := by
   rw [← hy]; split
   ·dsimp only; rw [List.length_drop]; omega
   ·exact hxl
  have core : ∀ (a : LB) (k : Int), a.length ≤ 1073741824 → ∃ r : Int × Int, cond ((!x.2) || (a == ([] : LB))) (some ((0 : Int), (22 : Int))) ((iter (Fr_meant_l0 a k) FUEL ((0 : Int), (0 : Int))).bind fun o => match o with
    | .inl o1 => (Fh_IsChar (IntKind.wrap .i32 o1)).bind fun x34 => cond (!x34) (some ((0 : Int), (21 : Int))) (some ((IntKind.wrap .i32 o1), (0 : Int)))
    | .inr o1 => some o1) = some r := by
   intro a k ha
   cases (!x.2) || (a == ([] : LB)) with
   | true => exact ⟨_, rfl⟩
   | false =>
    obtain ⟨o, e, _⟩ := meant_l0 a k ha
    rw [cF, e, bS]
    cases o with
    | inr q => exact ⟨_, rfl⟩
    | inl q =>
     dsimp only
     rw [F_isChar, bS]
     cases charP (IntKind.wrap .i32 q) <;> exact ⟨_, rfl⟩
  cases y.2 with
  | true => exact core y.1 16 hyl
  | false => exact core x.1 10 hxl
theorem expand_sp (p : LB) (i : Nat) (hi : i < p.length) (hp : p.length ≤ 1073741824) : ∃ (r n e : Int), Fr_Expand p (i : Int) = some (r, n, e) ∧ (e = 0 → ∃ m : Nat, n = (m : Int) ∧ i < m ∧ m ≤ p.length) := by
 unfold Fr_Expand
 simp only [letJ]
 rw [dF (show ¬ (i : Int) < 0 by omega), dF (show ¬ (p.length : Int) ≤ (i : Int) by omega), show (false || false) = false from rfl, cF, idx_some hi, bS]
 by_cases h38 : (p[i].toNat : Int) = 38
 ·rw [show ((p[i].toNat : Int) != 38) = false by simpa using h38, cF, slc_drop (Nat.le_of_lt hi), bS]
  unfold L_bIndexByte
  rw [bS]
  by_cases hn : Lib.indexByte (p.drop i) (59 : Int).toNat.toUInt8 < 0
  ·rw [dT hn, cT]
   exact ⟨_, _, _, rfl, fun h => by cases h⟩
  ·obtain ⟨n, e1, e2⟩ := ixB_nat _ _ hn
   have hg := ixB_get e1
   have hn0 : n ≠ 0 := by
    intro h0
    subst h0
    rw [List.getElem?_drop, Nat.add_zero, List.getElem?_eq_getElem hi] at hg
    injection hg with hg
    rw [hg] at h38
    exact absurd h38 (by decide)
   rw [List.length_drop] at e2
   rw [dF hn, cF, e1, w64 (x := (i : Int) + 1) (by omega) (by omega), w64 (x := (i : Int) + (n : Int)) (by omega) (by omega)]
   have hsl : slc p ((i : Int) + 1) ((i : Int) + (n : Int)) = some ((p.drop (i + 1)).take (n - 1)) := by
    unfold slc; rw [if_pos (by omega)]
    rw [show ((i : Int) + 1).toNat = i + 1 by omega, show ((i : Int) + (n : Int)).toNat - (i + 1) = n - 1 by omega]
   rw [hsl, bS]
   obtain ⟨r, hr⟩ := meant_some ((p.drop (i + 1)).take (n - 1)) (by rw [List.length_take, List.length_drop]; omega)
   rw [hr, bS]
   by_cases h2 : r.2 = 0
   ·rw [show (r.2 != 0) = false by simpa using h2, cF, w64 (by omega) (by omega)]
    exact ⟨_, _, _, rfl, fun _ => ⟨i + n + 1, by omega, by omega, by omega⟩⟩
   ·rw [show (r.2 != 0) = true by simpa using h2, cT]
    exact ⟨_, _, _, rfl, fun h => absurd h h2⟩
 ·rw [show ((p[i].toNat : Int) != 38) = true by simpa using h38, cT]
  exact ⟨_, _, _, rfl, fun h => by cases h⟩
theorem enc_len (r : Int) : (Utf8.encode r).data.toList.length ≤ 4 := by
 have h : (Utf8.encode r).data.size ≤ 4 := encode_size_le r
 rw [Array.length_toList]; exact h
theorem read_some (p : LB) (v : Bool) (hp : p.length ≤ 1073741824) : ∃ r, Fr_read p v = some r := by
 obtain ⟨o, e, _⟩ := iter_dec (b := Fr_read_l0 p v) (fun x => p.length - x.2.toNat) (fun x => ∃ (l : LB) (i : Nat), x = (l, (i : Int)) ∧ i ≤ p.length ∧ l.length ≤ 4 * i) (fun _ => True) (by
  rintro _ ⟨l, i, rfl, hi, hl⟩
  by_cases hlt : i < p.length
  ·obtain ⟨d1, d2, _⟩ := dec_bytes p i hlt
   have hnext := F_next p i hlt hp
   have J : ∀ (c : Int) (m : Nat), i < m → m ≤ p.length → ∃ y : LB × Int, (∀ rec : LB × Int → Option (LB ⊕ (LB × Int × Int)), ((app 1 l (Utf8.encode c).data.toList).bind fun _ => rec ((l ++ (Utf8.encode c).data.toList), (m : Int))) = rec y) ∧ (∃ (l : LB) (i : Nat), y = (l, (i : Int)) ∧ i ≤ p.length ∧ l.length ≤ 4 * i) ∧ p.length - y.2.toNat < p.length - i := by
    intro c m h1 h2
    have := enc_len c
    refine ⟨(l ++ (Utf8.encode c).data.toList, (m : Int)), fun rec => ?_, ⟨_, m, rfl, h2, by rw [List.length_append]; omega⟩, by dsimp only; omega⟩
    rw [app_some (by omega) (by omega), bS]
   have hbody : ∀ rec, Fr_read_l0 p v rec (l, (i : Int)) = (Fh_Next p (i : Int)).bind fun x63 => cond (x63.2.2 != (0 : Int)) (some (.inr (([] : LB), (i : Int), x63.2.2)))
     (cond (x63.1 == (60 : Int)) (some (.inr (([] : LB), (i : Int), (23 : Int)))) (cond ((!v) && ([93, 93, 62] : LB).isPrefixOf (p.drop i)) (some (.inr (([] : LB), (i : Int), (23 : Int))))
      (cond (x63.1 == (38 : Int)) ((Fr_Expand p (i : Int)).bind fun x101 => cond (x101.2.2 != (0 : Int)) (some (.inr (([] : LB), (i : Int), x101.2.2))) ((app 1 l (Utf8.encode x101.1).data.toList).bind fun _ => rec ((l ++ (Utf8.encode x101.1).data.toList), x101.2.1)))
       (cond (v && (((x63.1 == (9 : Int)) || (x63.1 == (10 : Int))) || (x63.1 == (13 : Int)))) ((app 1 l (Utf8.encode 32).data.toList).bind fun _ => rec ((l ++ (Utf8.encode 32).data.toList), x63.2.1)) ((app 1 l (Utf8.encode x63.1).data.toList).bind fun _ => rec ((l ++ (Utf8.encode x63.1).data.toList), x63.2.1)))))) := by
    intro rec
    unfold Fr_read_l0
    simp only [letJ]
    rw [dT (by omega), cT]
    congr 1
    funext x63
    cases x63.2.2 != (0 : Int) with
    | true => rfl
    | false =>
     cases x63.1 == (60 : Int) with
     | true => rfl
     | false =>
      cases v with
      | true => rfl
      | false =>
       simp only [cF, Bool.not_false, cT, slc_drop hi, bS, hasPrefix_eq, Bool.true_and]
   simp only [hbody, hnext, bS]
   cases badR (decodeL (p.drop i)) with
   | true => exact .inr ⟨_, fun _ => rfl, trivial⟩
   | false =>
    simp only [Bool.false_eq_true, if_false]
    cases charP ((decodeL (p.drop i)).1 : Int) with
    | false => exact .inr ⟨_, fun _ => rfl, trivial⟩
    | true =>
     simp only [if_true]
     rw [show (((0 : Int)) != 0) = false from rfl]
     simp only [cF]
     cases (((decodeL (p.drop i)).1 : Int) == (60 : Int)) with
     | true => exact .inr ⟨_, fun _ => rfl, trivial⟩
     | false =>
      cases ((!v) && ([93, 93, 62] : LB).isPrefixOf (p.drop i)) with
      | true => exact .inr ⟨_, fun _ => rfl, trivial⟩
      | false =>
       simp only [cF]
       cases (((decodeL (p.drop i)).1 : Int) == (38 : Int)) with
       | true =>
        obtain ⟨r, n, e, he, hm⟩ := expand_sp p i hlt hp
        simp only [cT, he, bS]
        by_cases h0 : e = 0
        ·obtain ⟨m, hnm, h1, h2⟩ := hm h0
         rw [show (e != 0) = false by simpa using h0]
         simp only [cF, hnm]
         obtain ⟨y, y1, y2, y3⟩ := J r m h1 h2
         exact .inl ⟨y, y1, y2, by rw [Int.toNat_natCast]; exact y3⟩
        ·rw [show (e != 0) = true by simpa using h0]
         exact .inr ⟨_, fun _ => rfl, trivial⟩
       | false =>
        simp only [cF]
        cases (v && (((((decodeL (p.drop i)).1 : Int) == (9 : Int)) || (((decodeL (p.drop i)).1 : Int) == (10 : Int))) || (((decodeL (p.drop i)).1 : Int) == (13 : Int)))) with
        | true =>
         simp only [cT]
         obtain ⟨y, y1, y2, y3⟩ := J 32 (i + (decodeL (p.drop i)).2) (by omega) d2
         exact .inl ⟨y, y1, y2, by rw [Int.toNat_natCast]; exact y3⟩
        | false =>
         simp only [cF]
         obtain ⟨y, y1, y2, y3⟩ := J ((decodeL (p.drop i)).1 : Int) (i + (decodeL (p.drop i)).2) (by omega) d2
         exact .inl ⟨y, y1, y2, by rw [Int.toNat_natCast]; exact y3⟩
  ·right
   refine ⟨.inl l, fun rec => ?_, trivial⟩
   unfold Fr_read_l0
   dsimp only
   rw [dF (by omega), cF]) FUEL (([] : LB), (0 : Int)) ⟨[], 0, rfl, Nat.zero_le _, by simp⟩ (by unfold FUEL; dsimp only; omega)
 unfold Fr_read
 simp only [letJ]
 rw [e, bS]
 cases o <;> exact ⟨_, rfl⟩
abbrev Tk := TK
def nmP (l : List TP) : List LB := l.map (·.Name)
def namedP (t : Tk) : Bool := ((((t.Kind == (2 : Int)) || (t.Kind == (3 : Int))) || (t.Kind == (4 : Int))) || (t.Kind == (8 : Int)))
structure TokOk (b : LB) (i : Nat) (t : Tk) (j : Nat) : Prop where
 lt : i < j
 at_ : t.At = (i : Int)
 nm : namedP t = !(t.Name == [])
 nd : (nmP t.Pairs).Nodup
 txt : t.Kind = 5 → b[i]? ≠ some 60 ∧ (j = b.length ∨ b[j]? = some 60)
 oth : t.Kind ≠ 5 → b[i]? = some 60
 dec : t.Kind = 1 → i = 0
 len : t.Pairs.length ≤ b.length + 3
def TokR (b : LB) (i : Nat) (x : Int × TS × Tk) : Prop := ∃ (e : Int) (j : Nat) (t : Tk), x = (e, ⟨b, (j : Int)⟩, t) ∧ j ≤ b.length ∧ (e = 0 → TokOk b i t j)
theorem upTo_sp (b : LB) (i k : Nat) (t : Tk) (w : LB) (hw : w ≠ []) (hi : i + k ≤ b.length) (hb : b.length ≤ 1073741824) (hwl : w.length ≤ 100) : ∃ (e : Int) (j : Nat) (x : LB), Fs_upTo ⟨b, (i : Int)⟩ t (k : Int) w = some (e, ⟨b, (j : Int)⟩, ⟨t.Kind, t.At, t.Name, t.Pairs, x, t.Refs⟩) ∧ j ≤ b.length ∧ (e = 0 → i + k < j) := by
 unfold Fs_upTo
 dsimp only
 rw [w64 (x := (i : Int) + (k : Int)) (by omega) (by omega), show (i : Int) + (k : Int) = ((i + k : Nat) : Int) by omega, slc_drop hi, bS]
 unfold L_bIndex
 rw [if_pos ⟨by rw [List.length_drop]; omega, by omega, hw⟩, bS]
 by_cases hn : Lib.index (b.drop (i + k)) w < 0
 ·rw [dT hn, cT]
  exact ⟨23, i, t.Text, rfl, by omega, fun h => by cases h⟩
 ·have hge := Lib.index_ge (b.drop (i + k)) w
  obtain ⟨n, e1⟩ : ∃ n : Nat, Lib.index (b.drop (i + k)) w = (n : Int) := ⟨(Lib.index (b.drop (i + k)) w).toNat, by omega⟩
  obtain ⟨_, e2⟩ := index_occ e1 hw
  have hwp : 0 < w.length := List.length_pos_iff.2 hw
  rw [List.length_drop] at e2
  rw [dF hn, cF, e1, slc_take0 (by rw [List.length_drop]; omega), bS, w64 (x := (k : Int) + (n : Int)) (by omega) (by omega), w64 (x := (k : Int) + (n : Int) + (w.length : Int)) (by omega) (by omega), w64 (by omega) (by omega)]
  exact ⟨0, i + (k + n + w.length), _, rfl, by omega, fun _ => by omega⟩
theorem ne_nil_beq {l : LB} (h : l ≠ []) : (l == ([] : LB)) = false := by simpa using h
theorem text_sp (b : LB) (i : Nat) (t : Tk) (hi : i < b.length) (hb : b.length ≤ 1073741824) (h60 : hereP b i [60] = false) (ht : t.At = (i : Int)) (hn : t.Name = []) (hp : t.Pairs = []) : ∃ x, Fs_text ⟨b, (i : Int)⟩ t = some x ∧ TokR b i x := by
 have hne : b[i]? ≠ some 60 := by
  rw [hereP_one] at h60
  intro h; rw [h] at h60; simp at h60
 have core : ∀ (a : LB) (n : Nat), a.length = n → 0 < n → i + n ≤ b.length → (i + n = b.length ∨ b[i + n]? = some 60) → ∃ x, ((Fr_ReadText a).bind fun x10 =>
  (L_bCount a ([38] : LB)).bind fun x13 =>
  some (x10.2.2, (⟨b, (IntKind.wrap .i64 ((i : Int) + (a.length : Int)))⟩ : TS), (⟨(5 : Int), t.At, t.Name, t.Pairs, x10.1, x13⟩ : TK))) = some x ∧ TokR b i x := by
  intro a n ha h0 hle hend
  obtain ⟨r, hr⟩ := read_some a false (by omega)
  unfold Fr_ReadText
  rw [hr, bS, bS]
  unfold L_bCount
  rw [bS, ha, w64 (by omega) (by omega)]
  refine ⟨_, rfl, r.2.2, i + n, ⟨5, t.At, t.Name, t.Pairs, r.1, ((Lib.countByte a 38 : Nat) : Int)⟩, by simp, hle, fun _ => ⟨by omega, ht, ?_, ?_, fun _ => ⟨hne, hend⟩, fun h => absurd rfl h, fun h => (by cases h), by show t.Pairs.length ≤ _; rw [hp]; exact Nat.zero_le _⟩⟩
  ·show (false : Bool) = !(t.Name == []); rw [hn]; rfl
  ·show (nmP t.Pairs).Nodup; rw [hp]; exact List.nodup_nil
 unfold Fs_text
 dsimp only
 rw [slc_drop (Nat.le_of_lt hi), bS]
 simp only [letJ]
 unfold L_bIndexByte
 rw [bS]
 by_cases hx : Lib.indexByte (b.drop i) (60 : Int).toNat.toUInt8 < 0
 ·rw [dF (by omega), cF]
  exact core (b.drop i) (b.length - i) (by simp) (by omega) (by omega) (.inl (by omega))
 ·obtain ⟨n, e1, e2⟩ := ixB_nat _ _ hx
  have hg := ixB_get e1
  rw [List.getElem?_drop] at hg
  have h60' : ((60 : Int).toNat.toUInt8) = 60 := by decide
  rw [h60'] at hg
  have hn0 : n ≠ 0 := fun h => by subst h; exact hne hg
  rw [List.length_drop] at e2
  rw [dT (by omega), cT, e1, slc_take0 (by rw [List.length_drop]; omega), bS]
  exact core ((b.drop i).take n) n (by rw [List.length_take, List.length_drop]; omega) (by omega) (by omega) (.inr hg)
theorem closing_sp (b : LB) (i : Nat) (t : Tk) (hi : i + 2 ≤ b.length) (hb : b.length ≤ 1073741824) (h60 : b[i]? = some 60) (ht : t.At = (i : Int)) (hp : t.Pairs = []) : ∃ x, Fs_closing ⟨b, (i : Int)⟩ t = some x ∧ TokR b i x := by
 unfold Fs_closing
 dsimp only
 rw [w64 (x := (i : Int) + 2) (by omega) (by omega), show (i : Int) + 2 = ((i + 2 : Nat) : Int) by omega]
 obtain ⟨v, e, j, h1, h2, h3, h4, h5⟩ := name_sp b (i + 2) hi hb
 rw [h1, bS]
 dsimp only
 by_cases he : e = 0
 ·obtain ⟨h6, h7⟩ := h5 he
  obtain ⟨s1, s2⟩ := sk_le wsP b j h3
  rw [show (e != 0) = false by simpa using he, cF, spaces_eq b _ j h3 hb, bS, sign_eq b _ _ s2 hb, bS]
  cases hh : hereP b (sk wsP b j) [62] with
  | false => exact ⟨_, rfl, 23, _, _, rfl, s2, fun h => (by cases h)⟩
  | true =>
   have := hereP_len hh s2
   refine ⟨_, rfl, 0, sk wsP b j + 1, ⟨3, t.At, v, t.Pairs, t.Text, t.Refs⟩, rfl, by simpa using this, fun _ => ⟨by omega, ht, ?_, ?_, fun h => (by cases h), fun _ => h60, fun h => (by cases h), by show t.Pairs.length ≤ _; rw [hp]; exact Nat.zero_le _⟩⟩
   ·show (true : Bool) = !(v == []); rw [ne_nil_beq h6]; rfl
   ·show (nmP t.Pairs).Nodup; rw [hp]; exact List.nodup_nil
 ·rw [show (e != 0) = true by simpa using he, cT]
  exact ⟨_, rfl, e, j, _, rfl, h3, fun h => absurd h he⟩
theorem instr_sp (b : LB) (i : Nat) (t : Tk) (hi : i + 2 ≤ b.length) (hb : b.length ≤ 1073741824) (h60 : b[i]? = some 60) (ht : t.At = (i : Int)) (hp : t.Pairs = []) : ∃ x, Fs_instr ⟨b, (i : Int)⟩ t = some x ∧ TokR b i x := by
 unfold Fs_instr
 dsimp only
 rw [w64 (x := (i : Int) + 2) (by omega) (by omega), show (i : Int) + 2 = ((i + 2 : Nat) : Int) by omega]
 obtain ⟨v, e, j, h1, h2, h3, h4, h5⟩ := name_sp b (i + 2) hi hb
 rw [h1, bS]
 dsimp only
 by_cases he : e = 0
 ·obtain ⟨h6, h7⟩ := h5 he
  rw [show (e != 0) = false by simpa using he, cF, F_nameC, bS]
  cases nameP v with
  | false => exact ⟨_, rfl, 24, j, _, rfl, h3, fun h => (by cases h)⟩
  | true =>
   obtain ⟨r, hr⟩ := eqf_xml v (by omega)
   rw [Bool.not_true, cF, hr, bS]
   cases r with
   | true => exact ⟨_, rfl, 29, j, _, rfl, h3, fun h => (by cases h)⟩
   | false =>
    rw [cF, here_eq b j _ h3, bS]
    have okT : ∀ (k : Nat) (tx : LB), i < k → TokOk b i ⟨8, t.At, v, t.Pairs, tx, t.Refs⟩ k := fun k tx hk => ⟨hk, ht, by show (true : Bool) = !(v == []); rw [ne_nil_beq h6]; rfl, by show (nmP t.Pairs).Nodup; rw [hp]; exact List.nodup_nil, fun h => (by cases h), fun _ => h60, fun h => (by cases h), by show t.Pairs.length ≤ _; rw [hp]; exact Nat.zero_le _⟩
    cases hh : hereP b j [63, 62] with
    | true =>
     have := hereP_len hh h3
     rw [cT, sign_eq b _ _ h3 hb, hh, if_pos rfl, bS]
     exact ⟨_, rfl, 0, j + 2, _, rfl, by simpa using this, fun _ => okT _ _ (by omega)⟩
    | false =>
     obtain ⟨s1, s2⟩ := sk_le wsP b j h3
     rw [cF, spaces_eq b _ j h3 hb, bS]
     cases ((sk wsP b j : Nat) : Int) == (j : Int) with
     | true => exact ⟨_, rfl, 23, j, _, rfl, h3, fun h => (by cases h)⟩
     | false =>
      obtain ⟨e2, k, x, u1, u2, u3⟩ := upTo_sp b (sk wsP b j) 0 ⟨8, t.At, v, t.Pairs, t.Text, t.Refs⟩ [63, 62] (by simp) (by omega) hb (by simp)
      rw [cF, show (0 : Int) = ((0 : Nat) : Int) from rfl, u1, bS]
      exact ⟨_, rfl, e2, k, _, rfl, u2, fun h => okT _ _ (by have := u3 h; omega)⟩
 ·rw [show (e != 0) = true by simpa using he, cT]
  exact ⟨_, rfl, e, j, _, rfl, h3, fun h => absurd h he⟩
theorem tag_l1 (k At : Int) (Nm : LB) (ps : List TP) (Tx : LB) (rf : Int) (x27 x31 : (LB × Int) × TS) (hl : ps.length ≤ 1073741824) :
  ∃ o, iter (Fs_tag_l1 k At Nm ps Tx rf x27 x31) FUEL (0 : Int) = some o ∧ ((o = .inl () ∧ ∀ p ∈ ps, p.Name ≠ x27.1.1) ∨ o = .inr ((27 : Int), x31.2, ⟨k, At, Nm, ps, Tx, rf⟩)) := by
 refine iter_spec (b := Fs_tag_l1 k At Nm ps Tx rf x27 x31) (fun i x => x = (i : Int) ∧ ∀ p ∈ ps.take i, p.Name ≠ x27.1.1) _ ps.length (x0 := (0 : Int)) ⟨rfl, by simp⟩ ?_ ?_ (n := FUEL) (by unfold FUEL; omega)
 ·rintro i _ rec hi ⟨rfl, hI⟩
  unfold Fs_tag_l1
  rw [dT (by omega), cT, idx_some hi, bS]
  by_cases h : ps[i].Name = x27.1.1
  ·rw [show (ps[i].Name == x27.1.1) = true by simpa using h, cT]
   exact .inr ⟨_, rfl, .inr rfl⟩
  ·rw [show (ps[i].Name == x27.1.1) = false by simpa using h, cF, w64 (by omega) (by omega)]
   refine .inl ⟨((i + 1 : Nat) : Int), rfl, rfl, fun p hp => ?_⟩
   rw [List.take_add_one, List.getElem?_eq_getElem hi, Option.toList_some, List.mem_append, List.mem_singleton] at hp
   rcases hp with hp | rfl
   ·exact hI p hp
   ·exact h
 ·rintro _ rec ⟨rfl, hI⟩
  unfold Fs_tag_l1
  rw [dF (by omega), cF]
  rw [List.take_length] at hI
  exact ⟨_, rfl, .inl ⟨rfl, hI⟩⟩
theorem tag_sp (b : LB) (i : Nat) (t : Tk) (hi : i + 1 ≤ b.length) (hb : b.length ≤ 65536) (h60 : b[i]? = some 60) (ht : t.At = (i : Int)) (hp : t.Pairs = []) : ∃ x, Fs_tag ⟨b, (i : Int)⟩ t = some x ∧ TokR b i x := by
 have hb' : b.length ≤ 1073741824 := by omega
 unfold Fs_tag
 dsimp only
 rw [w64 (x := (i : Int) + 1) (by omega) (by omega), show (i : Int) + 1 = ((i + 1 : Nat) : Int) by omega]
 obtain ⟨v, e, j, h1, h2, h3, h4, h5⟩ := name_sp b (i + 1) hi hb'
 rw [h1, bS]
 dsimp only
 by_cases he : e = 0
 case neg =>
  rw [show (e != 0) = true by simpa using he, cT]
  exact ⟨_, rfl, e, j, _, rfl, h3, fun h => absurd h he⟩
 obtain ⟨h6, h7⟩ := h5 he
 rw [show (e != 0) = false by simpa using he, cF]
 have hh := iter_dec (b := Fs_tag_l0) (fun x => b.length - x.2.1.toNat) (fun x => ∃ (j : Nat) (ps : List TP) (y z : LB), x = (b, (j : Int), (2 : Int), t.At, v, ps, t.Text, t.Refs, y, z) ∧ i < j ∧ j ≤ b.length ∧ ps.length ≤ j ∧ (nmP ps).Nodup) (fun o => TokR b i o) ?_ FUEL
  (b, (j : Int), (2 : Int), t.At, v, t.Pairs, t.Text, t.Refs, ([] : LB), ([] : LB)) ⟨j, t.Pairs, [], [], rfl, by omega, h3, by rw [hp]; simp, by rw [hp]; exact List.nodup_nil⟩ (by unfold FUEL; dsimp only; omega)
 ·obtain ⟨o, e1, e2⟩ := hh
  rw [e1]
  exact ⟨o, rfl, e2⟩
 rintro _ ⟨j, ps, y, z, rfl, g1, g2, g3, g4⟩
 have okT : ∀ (kd : Int) (k : Nat), (kd = 2 ∨ kd = 4) → i < k → TokOk b i ⟨kd, t.At, v, ps, t.Text, t.Refs⟩ k := fun kd k hk hik => ⟨hik, ht, by rcases hk with rfl | rfl <;> (show (true : Bool) = !(v == []); rw [ne_nil_beq h6]; rfl), g4, fun h => (by rcases hk with rfl | rfl <;> cases h), fun _ => h60, fun h => (by rcases hk with rfl | rfl <;> cases h), by show ps.length ≤ _; omega⟩
 obtain ⟨s1, s2⟩ := sk_le wsP b j g2
 have hsp := spaces_eq b (j : Int) j g2 hb'
 have hh1 := here_eq b (sk wsP b j) [47, 62] s2
 have hh2 := here_eq b (sk wsP b j) [62] s2
 cases c1 : hereP b (sk wsP b j) [47, 62] with
 | true =>
  right
  have hl := hereP_len c1 s2
  rw [c1] at hh1
  refine ⟨(0, ⟨b, ((sk wsP b j + 2 : Nat) : Int)⟩, ⟨4, t.At, v, ps, t.Text, t.Refs⟩), fun rec => ?_, 0, sk wsP b j + 2, _, rfl, by simpa using hl, fun _ => okT 4 _ (.inr rfl) (by omega)⟩
  unfold Fs_tag_l0
  dsimp only
  rw [hsp, bS, hh1, bS, cT, sign_eq b _ _ s2 hb', c1, if_pos rfl, bS]
  rfl
 | false =>
 rw [c1] at hh1
 cases c2 : hereP b (sk wsP b j) [62] with
 | true =>
  right
  have hl := hereP_len c2 s2
  rw [c2] at hh2
  refine ⟨(0, ⟨b, ((sk wsP b j + 1 : Nat) : Int)⟩, ⟨2, t.At, v, ps, t.Text, t.Refs⟩), fun rec => ?_, 0, sk wsP b j + 1, _, rfl, by simpa using hl, fun _ => okT 2 _ (.inl rfl) (by omega)⟩
  unfold Fs_tag_l0
  dsimp only
  rw [hsp, bS, hh1, bS, cF, hh2, bS, cT, sign_eq b _ _ s2 hb', c2, if_pos rfl, bS]
  rfl
 | false =>
 rw [c2] at hh2
 by_cases c3 : sk wsP b j = j
 ·right
  refine ⟨(23, ⟨b, ((sk wsP b j : Nat) : Int)⟩, ⟨2, t.At, v, ps, t.Text, t.Refs⟩), fun rec => ?_, 23, sk wsP b j, _, rfl, s2, fun h => (by cases h)⟩
  unfold Fs_tag_l0
  dsimp only
  rw [hsp, bS, hh1, bS, cF, hh2, bS, cF, show (((sk wsP b j : Nat) : Int) == (j : Int)) = true by simp [c3], cT]
 have c3' : (((sk wsP b j : Nat) : Int) == (j : Int)) = false := by
  rw [beq_eq_false_iff_ne]; omega
 obtain ⟨nm, e1, k1, n1, n2, n3, n4, n5⟩ := name_sp b (sk wsP b j) s2 hb'
 by_cases ce1 : e1 = 0
 case neg =>
  right
  refine ⟨(e1, ⟨b, (k1 : Int)⟩, ⟨2, t.At, v, ps, t.Text, t.Refs⟩), fun rec => ?_, e1, k1, _, rfl, n3, fun h => absurd h ce1⟩
  unfold Fs_tag_l0
  dsimp only
  rw [hsp, bS, hh1, bS, cF, hh2, bS, cF, c3', cF, n1, bS]
  dsimp only
  rw [show (e1 != 0) = true by simpa using ce1, cT]
 obtain ⟨n6, n7⟩ := n5 ce1
 obtain ⟨e2, k2, q1, q2, q3⟩ := equals_sp b k1 n3 hb'
 by_cases ce2 : e2 = 0
 case neg =>
  right
  refine ⟨(e2, ⟨b, (k2 : Int)⟩, ⟨2, t.At, v, ps, t.Text, t.Refs⟩), fun rec => ?_, e2, k2, _, rfl, q3, fun h => absurd h ce2⟩
  unfold Fs_tag_l0
  dsimp only
  rw [hsp, bS, hh1, bS, cF, hh2, bS, cF, c3', cF, n1, bS]
  dsimp only
  rw [show (e1 != 0) = false by simpa using ce1, cF, q1, bS]
  dsimp only
  rw [show (e2 != 0) = true by simpa using ce2, cT]
 obtain ⟨rv, e3, k3, w1, w2, w3, w4, w5⟩ := quoted_sp b k2 q3 hb'
 by_cases ce3 : e3 = 0
 case neg =>
  right
  refine ⟨(e3, ⟨b, (k3 : Int)⟩, ⟨2, t.At, v, ps, t.Text, t.Refs⟩), fun rec => ?_, e3, k3, _, rfl, w3, fun h => absurd h ce3⟩
  unfold Fs_tag_l0
  dsimp only
  rw [hsp, bS, hh1, bS, cF, hh2, bS, cF, c3', cF, n1, bS]
  dsimp only
  rw [show (e1 != 0) = false by simpa using ce1, cF, q1, bS]
  dsimp only
  rw [show (e2 != 0) = false by simpa using ce2, cF, w1, bS]
  dsimp only
  rw [show (e3 != 0) = true by simpa using ce3, cT]
 obtain ⟨rd, hrd⟩ := read_some rv true (by omega)
 have hrv : Fr_ReadValue rv = some (rd.1, rd.2.1, rd.2.2) := by unfold Fr_ReadValue; rw [hrd]; rfl
 by_cases ce4 : rd.2.2 = 0
 case neg =>
  right
  refine ⟨(rd.2.2, ⟨b, (k3 : Int)⟩, ⟨2, t.At, v, ps, t.Text, t.Refs⟩), fun rec => ?_, rd.2.2, k3, _, rfl, w3, fun h => absurd h ce4⟩
  unfold Fs_tag_l0
  dsimp only
  rw [hsp, bS, hh1, bS, cF, hh2, bS, cF, c3', cF, n1, bS]
  dsimp only
  rw [show (e1 != 0) = false by simpa using ce1, cF, q1, bS]
  dsimp only
  rw [show (e2 != 0) = false by simpa using ce2, cF, w1, bS]
  dsimp only
  rw [show (e3 != 0) = false by simpa using ce3, cF, hrv, bS]
  dsimp only
  rw [show (rd.2.2 != 0) = true by simpa using ce4, cT]
 have hbody : ∀ rec, Fs_tag_l0 rec (b, (j : Int), (2 : Int), t.At, v, ps, t.Text, t.Refs, y, z) = (iter (Fs_tag_l1 2 t.At v ps t.Text t.Refs ((nm, e1), ⟨b, (k1 : Int)⟩) ((rv, e3), ⟨b, (k3 : Int)⟩)) FUEL 0).bind fun o => match o with
   | .inl _ => (app 32 ps [(⟨nm, rd.1⟩ : TP)]).bind fun _ => (some (ps ++ [(⟨nm, rd.1⟩ : TP)])).bind fun a51 => rec (b, (k3 : Int), (2 : Int), t.At, v, a51, t.Text, t.Refs, nm, rd.1)
   | .inr o1 => some o1 := by
  intro rec
  unfold Fs_tag_l0
  dsimp only
  rw [hsp, bS, hh1, bS, cF, hh2, bS, cF, c3', cF, n1, bS]
  dsimp only
  rw [show (e1 != 0) = false by simpa using ce1, cF, q1, bS]
  dsimp only
  rw [show (e2 != 0) = false by simpa using ce2, cF, w1, bS]
  dsimp only
  rw [show (e3 != 0) = false by simpa using ce3, cF, hrv, bS]
  dsimp only
  rw [show (rd.2.2 != 0) = false by simpa using ce4, cF]
  simp only [letJ]
  rfl
 obtain ⟨o, l1, l2⟩ := tag_l1 2 t.At v ps t.Text t.Refs ((nm, e1), ⟨b, (k1 : Int)⟩) ((rv, e3), ⟨b, (k3 : Int)⟩) (by omega)
 rcases l2 with ⟨rfl, hno⟩ | rfl
 ·left
  have w6 := w5 ce3
  refine ⟨(b, (k3 : Int), (2 : Int), t.At, v, ps ++ [(⟨nm, rd.1⟩ : TP)], t.Text, t.Refs, nm, rd.1), fun rec => ?_, ⟨k3, _, nm, rd.1, rfl, by omega, w3, by simp; omega, ?_⟩, by dsimp only; omega⟩
  ·rw [hbody, l1, bS]
   dsimp only
   rw [app_some (by simp; omega) (by simp; omega), bS, bS]
  ·unfold nmP at g4 ⊢
   rw [List.map_append, List.nodup_append]
   refine ⟨g4, by simp, fun a ha c hc hac => ?_⟩
   rw [List.mem_map] at ha
   obtain ⟨p, hpm, rfl⟩ := ha
   simp at hc
   subst hc
   exact hno p hpm hac
 ·right
  exact ⟨_, fun rec => by rw [hbody, l1, bS], 27, k3, _, rfl, w3, fun h => (by cases h)⟩
abbrev DeclW : List LB := [([118, 101, 114, 115, 105, 111, 110] : LB), ([101, 110, 99, 111, 100, 105, 110, 103] : LB), ([115, 116, 97, 110, 100, 97, 108, 111, 110, 101] : LB)]
theorem declW_at (k : Nat) (hk : k < 3) : ∃ w, idx DeclW (k : Int) = some w ∧ w.length ≤ 10 ∧ 1 ≤ w.length ∧ DeclW.take (k + 1) = DeclW.take k ++ [w] := by
 have h : k = 0 ∨ k = 1 ∨ k = 2 := by omega
 rcases h with rfl | rfl | rfl
 ·exact ⟨_, rfl, by decide, by decide, rfl⟩
 ·exact ⟨_, rfl, by decide, by decide, rfl⟩
 ·exact ⟨_, rfl, by decide, by decide, rfl⟩
theorem decl_l0 (b : LB) (At : Int) (Nm Tx : LB) (rf : Int) (h5 : 5 ≤ b.length) (hb : b.length ≤ 1073741824) :
  ∃ o, iter (Fs_decl_l0) FUEL (b, (5 : Int), (1 : Int), At, Nm, ([] : List TP), Tx, rf, ([] : LB), (0 : Int)) = some o ∧
  ((∃ (j : Nat) (ps : List TP) (la : LB), o = .inl (b, (j : Int), la, (1 : Int), At, Nm, ps, Tx, rf) ∧ 5 ≤ j ∧ j ≤ b.length ∧ (nmP ps).Nodup ∧ ps.length ≤ 3 ∧ la.length ≤ 1073741824 ∧ ∀ c ∈ la, c.toNat < 128) ∨
   (∃ (j : Nat) (t' : Tk), o = .inr ((23 : Int), ⟨b, (j : Int)⟩, t') ∧ j ≤ b.length)) := by
 refine iter_dec (b := Fs_decl_l0) (fun x => 3 - x.2.2.2.2.2.2.2.2.2.toNat) (fun x => ∃ (j k : Nat) (ps : List TP) (la : LB), x = (b, (j : Int), (1 : Int), At, Nm, ps, Tx, rf, la, (k : Int)) ∧ 5 ≤ j ∧ j ≤ b.length ∧ k ≤ 3 ∧ (nmP ps).Sublist (DeclW.take k) ∧ ps.length ≤ k ∧ la.length ≤ 1073741824 ∧ ∀ c ∈ la, c.toNat < 128) _ ?_ FUEL _ ⟨5, 0, [], [], rfl, by omega, h5, by omega, List.nil_sublist _, by simp, by simp, by simp⟩ (by unfold FUEL; dsimp only; omega)
 rintro _ ⟨j, k, ps, la, rfl, g1, g2, g3, g4, g5, g6, g7⟩
 by_cases hk : k < 3
 case neg =>
  right
  refine ⟨.inl (b, (j : Int), la, (1 : Int), At, Nm, ps, Tx, rf), fun rec => ?_, .inl ⟨j, ps, la, rfl, g1, g2, ?_, by omega, g6, g7⟩⟩
  ·unfold Fs_decl_l0
   dsimp only
   rw [show decide ((k : Int) < (DeclW.length : Int)) = false from dF (show ¬ (k : Int) < ((3 : Nat) : Int) by omega), cF]
  ·exact (g4.trans (List.take_sublist _ _)).nodup (by decide)
 obtain ⟨w, hidx, w1, w2, w3⟩ := declW_at k hk
 have hkt : decide ((k : Int) < (DeclW.length : Int)) = true := dT (show (k : Int) < ((3 : Nat) : Int) by omega)
 obtain ⟨s1, s2⟩ := sk_le wsP b j g2
 have hsp := spaces_eq b (j : Int) j g2 hb
 have hk1 : IntKind.wrap .i64 ((k : Int) + 1) = ((k + 1 : Nat) : Int) := by rw [w64 (by omega) (by omega)]; omega
 have skipI : ∃ (j' k' : Nat) (ps' : List TP) (la' : LB), (b, (j : Int), (1 : Int), At, Nm, ps, Tx, rf, la, ((k + 1 : Nat) : Int)) = (b, (j' : Int), (1 : Int), At, Nm, ps', Tx, rf, la', (k' : Int)) ∧ 5 ≤ j' ∧ j' ≤ b.length ∧ k' ≤ 3 ∧ (nmP ps').Sublist (DeclW.take k') ∧ ps'.length ≤ k' ∧ la'.length ≤ 1073741824 ∧ ∀ c ∈ la', c.toNat < 128 :=
  ⟨j, k + 1, ps, la, rfl, g1, g2, by omega, by rw [w3]; exact g4.trans (List.sublist_append_left _ _), by omega, g6, g7⟩
 by_cases c3 : sk wsP b j = j
 ·have c3' : (((sk wsP b j : Nat) : Int) == (j : Int)) = true := by simp [c3]
  cases hv : w == ([118, 101, 114, 115, 105, 111, 110] : LB) with
  | true =>
   right
   refine ⟨.inr ((23 : Int), ⟨b, (j : Int)⟩, ⟨1, At, Nm, ps, Tx, rf⟩), fun rec => ?_, .inr ⟨j, _, rfl, g2⟩⟩
   unfold Fs_decl_l0
   dsimp only
   rw [hkt, cT]
   simp only [letJ]
   rw [hidx, bS, hsp, bS, c3', cT, cT, hv, cT]
  | false =>
   left
   refine ⟨_, fun rec => ?_, skipI, by dsimp only; omega⟩
   unfold Fs_decl_l0
   dsimp only
   rw [hkt, cT]
   simp only [letJ]
   rw [hidx, bS, hsp, bS, c3', cT, cT, hv, cF, hk1]
 have c3' : (((sk wsP b j : Nat) : Int) == (j : Int)) = false := by rw [beq_eq_false_iff_ne]; omega
 cases hh : hereP b (sk wsP b j) w with
 | false =>
  have hh' : w.isPrefixOf (b.drop (sk wsP b j)) = false := hh
  cases hv : w == ([118, 101, 114, 115, 105, 111, 110] : LB) with
  | true =>
   right
   refine ⟨.inr ((23 : Int), ⟨b, (j : Int)⟩, ⟨1, At, Nm, ps, Tx, rf⟩), fun rec => ?_, .inr ⟨j, _, rfl, g2⟩⟩
   unfold Fs_decl_l0
   dsimp only
   rw [hkt, cT]
   simp only [letJ]
   rw [hidx, bS, hsp, bS, c3', cF, slc_drop s2, bS, hasPrefix_eq, bS, hh', Bool.not_false, cT, hv, cT]
  | false =>
   left
   refine ⟨_, fun rec => ?_, skipI, by dsimp only; omega⟩
   unfold Fs_decl_l0
   dsimp only
   rw [hkt, cT]
   simp only [letJ]
   rw [hidx, bS, hsp, bS, c3', cF, slc_drop s2, bS, hasPrefix_eq, bS, hh', Bool.not_false, cT, hv, cF, hk1]
 | true =>
  have hh' : w.isPrefixOf (b.drop (sk wsP b j)) = true := hh
  have hl := hereP_len hh s2
  have hadd : IntKind.wrap .i64 (((sk wsP b j : Nat) : Int) + (w.length : Int)) = ((sk wsP b j + w.length : Nat) : Int) := by rw [w64 (by omega) (by omega)]; omega
  obtain ⟨e2, k2, q1, q2, q3⟩ := equals_sp b (sk wsP b j + w.length) hl hb
  have pre : ∀ rec, Fs_decl_l0 rec (b, (j : Int), (1 : Int), At, Nm, ps, Tx, rf, la, (k : Int)) = cond (e2 != 0) (some (.inr ((23 : Int), ⟨b, (k2 : Int)⟩, ⟨1, At, Nm, ps, Tx, rf⟩)))
    ((Fs_quoted ⟨b, (k2 : Int)⟩).bind fun x122 =>
    (letJ (fun v125 : Bool => cond v125
     (some (.inr ((23 : Int), x122.2, (⟨1, At, Nm, ps, Tx, rf⟩ : TK))))
     ((app 32 ps [(⟨w, x122.1.1⟩ : TP)]).bind fun _ =>
      (some (ps ++ [(⟨w, x122.1.1⟩ : TP)])).bind fun a129 =>
     cond (w == ([101, 110, 99, 111, 100, 105, 110, 103] : LB))
      (rec (x122.2.b, x122.2.at_, (1 : Int), At, Nm, a129, Tx, rf, x122.1.1, ((k + 1 : Nat) : Int)))
      (rec (x122.2.b, x122.2.at_, (1 : Int), At, Nm, a129, Tx, rf, la, ((k + 1 : Nat) : Int))))) fun J124 => cond (x122.1.2 != (0 : Int)) (J124 true) ((F_scan_fits w x122.1.1).bind fun x126 =>
     J124 (!x126)))) := by
   intro rec
   unfold Fs_decl_l0
   dsimp only
   rw [hkt, cT]
   simp only [letJ]
   rw [hidx, bS, hsp, bS, c3', cF, slc_drop s2, bS, hasPrefix_eq, bS, hh', Bool.not_true, cF, hadd, q1, bS]
   simp only [hk1]
  by_cases ce2 : e2 = 0
  case neg =>
   right
   refine ⟨.inr ((23 : Int), ⟨b, (k2 : Int)⟩, ⟨1, At, Nm, ps, Tx, rf⟩), fun rec => ?_, .inr ⟨k2, _, rfl, q3⟩⟩
   rw [pre, show (e2 != 0) = true by simpa using ce2, cT]
  obtain ⟨rv, e3, k3, u1, u2, u3, u4, u5⟩ := quoted_sp b k2 q3 hb
  by_cases ce3 : e3 = 0
  case neg =>
   right
   refine ⟨.inr ((23 : Int), ⟨b, (k3 : Int)⟩, ⟨1, At, Nm, ps, Tx, rf⟩), fun rec => ?_, .inr ⟨k3, _, rfl, u3⟩⟩
   rw [pre, show (e2 != 0) = false by simpa using ce2, cF, u1, bS]
   simp only [letJ]
   rw [show (e3 != 0) = true by simpa using ce3, cT, cT]
  obtain ⟨r, hr, hr2⟩ := fits_sp w rv (by omega)
  cases r with
  | false =>
   right
   refine ⟨.inr ((23 : Int), ⟨b, (k3 : Int)⟩, ⟨1, At, Nm, ps, Tx, rf⟩), fun rec => ?_, .inr ⟨k3, _, rfl, u3⟩⟩
   rw [pre, show (e2 != 0) = false by simpa using ce2, cF, u1, bS]
   simp only [letJ]
   rw [show (e3 != 0) = false by simpa using ce3, cF, hr, bS, Bool.not_false, cT]
  | true =>
   left
   have hsub : (nmP (ps ++ [(⟨w, rv⟩ : TP)])).Sublist (DeclW.take (k + 1)) := by
    rw [w3]; unfold nmP at g4 ⊢; rw [List.map_append]; exact g4.append (List.Sublist.refl _)
   cases he : w == ([101, 110, 99, 111, 100, 105, 110, 103] : LB) with
   | true =>
    refine ⟨(b, (k3 : Int), (1 : Int), At, Nm, ps ++ [(⟨w, rv⟩ : TP)], Tx, rf, rv, ((k + 1 : Nat) : Int)), fun rec => ?_, ⟨k3, k + 1, _, rv, rfl, by omega, u3, by omega, hsub, by simp; omega, by omega, hr2 (by simpa using he) rfl⟩, by dsimp only; omega⟩
    rw [pre, show (e2 != 0) = false by simpa using ce2, cF, u1, bS]
    simp only [letJ]
    rw [show (e3 != 0) = false by simpa using ce3, cF, hr, bS, Bool.not_true, cF, app_some (by simp; omega) (by simp; omega), bS, bS, he, cT]
   | false =>
    refine ⟨(b, (k3 : Int), (1 : Int), At, Nm, ps ++ [(⟨w, rv⟩ : TP)], Tx, rf, la, ((k + 1 : Nat) : Int)), fun rec => ?_, ⟨k3, k + 1, _, la, rfl, by omega, u3, by omega, hsub, by simp; omega, g6, g7⟩, by dsimp only; omega⟩
    rw [pre, show (e2 != 0) = false by simpa using ce2, cF, u1, bS]
    simp only [letJ]
    rw [show (e3 != 0) = false by simpa using ce3, cF, hr, bS, Bool.not_true, cF, app_some (by simp; omega) (by simp; omega), bS, bS, he, cF]
theorem decl_sp (b : LB) (t : Tk) (h5 : 5 ≤ b.length) (hb : b.length ≤ 1073741824) (h60 : b[0]? = some 60) (ht : t.At = 0) (hn : t.Name = []) (hp : t.Pairs = []) : ∃ x, Fs_decl ⟨b, (0 : Int)⟩ t = some x ∧ TokR b 0 x := by
 unfold Fs_decl
 simp only [letJ]
 rw [hp]
 obtain ⟨o, e1, e2⟩ := decl_l0 b t.At t.Name t.Text t.Refs h5 hb
 rw [e1, bS]
 rcases e2 with ⟨j, ps, la, rfl, h1, h2, h3, h7, h4, h6⟩ | ⟨j, t', rfl, h1⟩
 ·dsimp only
  obtain ⟨s1, s2⟩ := sk_le wsP b j h2
  rw [spaces_eq b _ j h2 hb, bS, sign_eq b _ _ s2 hb]
  cases hh : hereP b (sk wsP b j) [63, 62] with
  | false =>
   rw [if_neg (by simp), bS]
   exact ⟨_, rfl, 23, sk wsP b j, _, rfl, s2, fun h => (by cases h)⟩
  | true =>
   have hl := hereP_len hh s2
   have okT : TokOk b 0 ⟨1, t.At, t.Name, ps, t.Text, t.Refs⟩ (sk wsP b j + 2) := ⟨by omega, by rw [ht]; rfl, by show (false : Bool) = !(t.Name == []); rw [hn]; rfl, h3, fun h => (by cases h), fun _ => h60, fun _ => rfl, by show ps.length ≤ _; omega⟩
   rw [if_pos rfl, bS]
   dsimp only
   rw [show ((0 : Int) != 0) = false from rfl, cF]
   cases la == ([] : LB) with
   | true =>
    rw [Bool.not_true, cF, cF]
    exact ⟨_, rfl, 0, sk wsP b j + 2, _, rfl, by simpa using hl, fun _ => okT⟩
   | false =>
    obtain ⟨r, hr⟩ := eqf_ascii la [117, 116, 102, 45, 56] h4 (by simp) h6 (by decide)
    rw [Bool.not_false, cT, hr, bS]
    cases r with
    | true =>
     rw [Bool.not_true, cF]
     exact ⟨_, rfl, 0, sk wsP b j + 2, _, rfl, by simpa using hl, fun _ => okT⟩
    | false =>
     rw [Bool.not_false, cT]
     exact ⟨_, rfl, 25, sk wsP b j + 2, _, rfl, by simpa using hl, fun h => (by cases h)⟩
 ·dsimp only
  exact ⟨_, rfl, 23, j, t', rfl, h1, fun h => (by cases h)⟩
theorem token_sp (b : LB) (i : Nat) (hi : i < b.length) (hb : b.length ≤ 65536) : ∃ x, Fs_token ⟨b, (i : Int)⟩ ⟨(0 : Int), (i : Int), ([] : LB), ([] : List TP), ([] : LB), (0 : Int)⟩ = some x ∧ TokR b i x := by
 have hb' : b.length ≤ 1073741824 := by omega
 have hle : i ≤ b.length := Nat.le_of_lt hi
 have rest : ∃ x, ((Fs_here (⟨b, (i : Int)⟩ : TS) ([60, 33, 45, 45] : LB)).bind fun x12 =>
    cond x12
    ((Fs_upTo ⟨b, (i : Int)⟩ (⟨(7 : Int), (i : Int), ([] : LB), ([] : List TP), ([] : LB), (0 : Int)⟩ : TK) (4 : Int) ([45, 45] : LB)).bind fun x14 =>
    cond (x14.1 != (0 : Int))
     (some (x14.1, x14.2.1, x14.2.2))
     ((Fs_sign x14.2.1 ([62] : LB)).bind fun x17 =>
     some (x17.1, x17.2, x14.2.2)))
    ((Fs_here (⟨b, (i : Int)⟩ : TS) ([60, 33, 91, 67, 68, 65, 84, 65, 91] : LB)).bind fun x18 =>
    cond x18
     ((Fs_upTo ⟨b, (i : Int)⟩ (⟨(6 : Int), (i : Int), ([] : LB), ([] : List TP), ([] : LB), (0 : Int)⟩ : TK) (9 : Int) ([93, 93, 62] : LB)).bind fun x20 =>
     some (x20.1, x20.2.1, x20.2.2))
     ((Fs_here (⟨b, (i : Int)⟩ : TS) ([60, 33, 68, 79, 67, 84, 89, 80, 69] : LB)).bind fun x22 =>
     cond x22
     (some ((25 : Int), (⟨b, (i : Int)⟩ : TS), (⟨(0 : Int), (i : Int), ([] : LB), ([] : List TP), ([] : LB), (0 : Int)⟩ : TK)))
     ((Fs_here (⟨b, (i : Int)⟩ : TS) ([60, 33] : LB)).bind fun x24 =>
     cond x24
      (some ((23 : Int), (⟨b, (i : Int)⟩ : TS), (⟨(0 : Int), (i : Int), ([] : LB), ([] : List TP), ([] : LB), (0 : Int)⟩ : TK)))
      ((Fs_here (⟨b, (i : Int)⟩ : TS) ([60, 63] : LB)).bind fun x26 =>
      cond x26
      ((Fs_instr (⟨b, (i : Int)⟩ : TS) ⟨(0 : Int), (i : Int), ([] : LB), ([] : List TP), ([] : LB), (0 : Int)⟩).bind fun x28 =>
      some (x28.1, x28.2.1, x28.2.2))
      ((Fs_here (⟨b, (i : Int)⟩ : TS) ([60, 47] : LB)).bind fun x30 =>
      cond x30
       ((Fs_closing (⟨b, (i : Int)⟩ : TS) ⟨(0 : Int), (i : Int), ([] : LB), ([] : List TP), ([] : LB), (0 : Int)⟩).bind fun x32 =>
       some (x32.1, x32.2.1, x32.2.2))
       ((Fs_here (⟨b, (i : Int)⟩ : TS) ([60] : LB)).bind fun x34 =>
       cond x34
       ((Fs_tag (⟨b, (i : Int)⟩ : TS) ⟨(0 : Int), (i : Int), ([] : LB), ([] : List TP), ([] : LB), (0 : Int)⟩).bind fun x36 =>
       some (x36.1, x36.2.1, x36.2.2))
       ((Fs_text (⟨b, (i : Int)⟩ : TS) ⟨(0 : Int), (i : Int), ([] : LB), ([] : List TP), ([] : LB), (0 : Int)⟩).bind fun x38 =>
       some (x38.1, x38.2.1, x38.2.2))))))))) = some x ∧ TokR b i x := by
  rw [here_eq b i _ hle, bS]
  cases c1 : hereP b i [60, 33, 45, 45] with
  | true =>
   have hl := hereP_len c1 hle
   obtain ⟨e, j, x, u1, u2, u3⟩ := upTo_sp b i 4 ⟨(7 : Int), (i : Int), [], [], [], 0⟩ [45, 45] (by simp) (by simpa using hl) hb' (by simp)
   rw [cT, show (4 : Int) = ((4 : Nat) : Int) from rfl, u1, bS]
   dsimp only
   by_cases he : e = 0
   case neg =>
    rw [show (e != 0) = true by simpa using he, cT]
    exact ⟨_, rfl, e, j, _, rfl, u2, fun h => absurd h he⟩
   rw [show (e != 0) = false by simpa using he, cF, sign_eq b j _ u2 hb']
   have := u3 he
   cases hh : hereP b j [62] with
   | false =>
    rw [if_neg (by simp), bS]
    exact ⟨_, rfl, 23, j, _, rfl, u2, fun h => (by cases h)⟩
   | true =>
    have hl2 := hereP_len hh u2
    rw [if_pos rfl, bS]
    exact ⟨_, rfl, 0, j + 1, _, rfl, by simpa using hl2, fun _ => ⟨by omega, rfl, rfl, List.nodup_nil, fun h => (by cases h), fun _ => hereP_get c1, fun h => (by cases h), Nat.zero_le _⟩⟩
  | false =>
  rw [cF, here_eq b i _ hle, bS]
  cases c2 : hereP b i [60, 33, 91, 67, 68, 65, 84, 65, 91] with
  | true =>
   have hl := hereP_len c2 hle
   obtain ⟨e, j, x, u1, u2, u3⟩ := upTo_sp b i 9 ⟨(6 : Int), (i : Int), [], [], [], 0⟩ [93, 93, 62] (by simp) (by simpa using hl) hb' (by simp)
   rw [cT, show (9 : Int) = ((9 : Nat) : Int) from rfl, u1, bS]
   exact ⟨_, rfl, e, j, _, rfl, u2, fun h => ⟨by have := u3 h; omega, rfl, rfl, List.nodup_nil, fun h => (by cases h), fun _ => hereP_get c2, fun h => (by cases h), Nat.zero_le _⟩⟩
  | false =>
  rw [cF, here_eq b i _ hle, bS]
  cases c3 : hereP b i [60, 33, 68, 79, 67, 84, 89, 80, 69] with
  | true => exact ⟨_, rfl, 25, i, _, rfl, hle, fun h => (by cases h)⟩
  | false =>
  rw [cF, here_eq b i _ hle, bS]
  cases c4 : hereP b i [60, 33] with
  | true => exact ⟨_, rfl, 23, i, _, rfl, hle, fun h => (by cases h)⟩
  | false =>
  rw [cF, here_eq b i _ hle, bS]
  cases c5 : hereP b i [60, 63] with
  | true =>
   have hl := hereP_len c5 hle
   obtain ⟨x, h1, h2⟩ := instr_sp b i ⟨(0 : Int), (i : Int), [], [], [], 0⟩ (by simpa using hl) hb' (hereP_get c5) rfl rfl
   rw [cT, h1, bS]
   exact ⟨_, rfl, h2⟩
  | false =>
  rw [cF, here_eq b i _ hle, bS]
  cases c6 : hereP b i [60, 47] with
  | true =>
   have hl := hereP_len c6 hle
   obtain ⟨x, h1, h2⟩ := closing_sp b i ⟨(0 : Int), (i : Int), [], [], [], 0⟩ (by simpa using hl) hb' (hereP_get c6) rfl rfl
   rw [cT, h1, bS]
   exact ⟨_, rfl, h2⟩
  | false =>
  rw [cF, here_eq b i _ hle, bS]
  cases c7 : hereP b i [60] with
  | true =>
   obtain ⟨x, h1, h2⟩ := tag_sp b i ⟨(0 : Int), (i : Int), [], [], [], 0⟩ hi hb (hereP_get c7) rfl rfl
   rw [cT, h1, bS]
   exact ⟨_, rfl, h2⟩
  | false =>
   obtain ⟨x, h1, h2⟩ := text_sp b i ⟨(0 : Int), (i : Int), [], [], [], 0⟩ hi hb' c7 rfl rfl rfl
   rw [cF, h1, bS]
   exact ⟨_, rfl, h2⟩
 unfold Fs_token
 simp only [letJ]
 by_cases h0 : i = 0
 ·subst h0
  rw [show (((0 : Nat) : Int) == (0 : Int)) = true from rfl, cT, here_eq b 0 _ hle, bS]
  cases c0 : hereP b 0 [60, 63, 120, 109, 108] with
  | false => rw [cF, cF]; exact rest
  | true =>
   have hl := hereP_len c0 hle
   have h5 : 5 ≤ b.length := by simpa using hl
   rw [cT, show (5 : Int) = ((5 : Nat) : Int) from rfl, spaces_eq b _ 5 h5 hb', bS]
   cases decide (((5 : Nat) : Int) < ((sk wsP b 5 : Nat) : Int)) with
   | false => rw [cF]; exact rest
   | true =>
    obtain ⟨x, h1, h2⟩ := decl_sp b ⟨(0 : Int), ((0 : Nat) : Int), [], [], [], 0⟩ h5 hb' (hereP_get c0) rfl rfl rfl
    rw [cT, show (((0 : Nat) : Int)) = (0 : Int) from rfl] at *
    rw [h1, bS]
    exact ⟨_, rfl, h2⟩
 ·rw [show ((i : Int) == (0 : Int)) = false by rw [beq_eq_false_iff_ne]; omega, cF, cF]
  exact rest
theorem u8_nat (c : UInt8) : u8 (c.toNat : Int) = some c := by
 unfold u8
 have := c.toNat_lt
 rw [if_pos (by omega), Int.toNat_natCast]
 simp
def lnP (p : LB) (i : Nat) : LB := if p.getD i 0 = 13 then [10] else if p.getD i 0 = 10 ∧ 0 < i ∧ p.getD (i - 1) 0 = 13 then [] else [p.getD i 0]
theorem u8_beq (c : UInt8) (n : Nat) (hn : n < 256) : ((c.toNat : Int) == (n : Int)) = decide (c = UInt8.ofNat n) := by
 rw [Bool.eq_iff_iff, beq_iff_eq, decide_eq_true_eq]
 have h2 : (UInt8.ofNat n).toNat = n := by show n % 256 = n; omega
 constructor
 ·intro h; apply UInt8.toNat_inj.1; rw [h2]; omega
 ·rintro rfl; rw [h2]
theorem lines_step1 (p : LB) (i : Nat) (l : LB) (hi : i < p.length) (hl : l.length ≤ i) (hp : p.length ≤ 1073741824) (rec) : Fh_Lines_l0 p rec (l, (i : Int)) = rec (l ++ lnP p i, ((i + 1 : Nat) : Int)) := by
 have hk1 : IntKind.wrap .i64 ((i : Int) + 1) = ((i + 1 : Nat) : Int) := by rw [w64 (by omega) (by omega)]; omega
 have hg : p.getD i 0 = p[i] := by simp [List.getD, hi]
 unfold Fh_Lines_l0
 dsimp only
 rw [dT (by omega), cT]
 simp only [letJ]
 rw [idx_some hi, bS, hk1, show (10 : Int) = ((10 : Nat) : Int) from rfl, show (13 : Int) = ((13 : Nat) : Int) from rfl, u8_beq _ 10 (by omega), u8_beq _ 13 (by omega)]
 have app1 : ∀ c : UInt8, app 1 l [c] = some (l ++ [c]) := fun c => app_some (by simp; omega) (by simp; omega)
 unfold lnP
 rw [hg]
 by_cases c10 : p[i] = 10
 ·by_cases h0 : 0 < i
  ·have hi1 : i - 1 < p.length := by omega
   have hg1 : p.getD (i - 1) 0 = p[i - 1] := by simp [List.getD, hi1]
   have hk2 : IntKind.wrap .i64 ((i : Int) - 1) = ((i - 1 : Nat) : Int) := by rw [w64 (by omega) (by omega)]; omega
   rw [dT (show p[i] = UInt8.ofNat 10 from c10), dT (show (0 : Int) < (i : Int) by omega), Bool.and_self, cT, hk2, idx_some hi1, bS, u8_beq _ 13 (by omega), hg1, c10]
   by_cases c13 : p[i - 1] = 13
   ·rw [dT (show p[i - 1] = UInt8.ofNat 13 from c13), cT, if_neg (by decide), if_pos ⟨rfl, h0, c13⟩, List.append_nil]
   ·rw [dF (show ¬ p[i - 1] = UInt8.ofNat 13 from c13), cF, dF (by decide), cF, if_neg (by decide), if_neg (fun h => c13 h.2.2), u8_nat, bS, app1, bS, bS]
  ·rw [dF (show ¬ (0 : Int) < (i : Int) by omega), Bool.and_false, cF, cF, c10, dF (by decide), cF, if_neg (by decide), if_neg (fun h => h0 h.2.1), u8_nat, bS, app1, bS, bS]
 ·rw [dF (show ¬ p[i] = UInt8.ofNat 10 from c10), Bool.false_and, cF, cF]
  by_cases c13 : p[i] = 13
  ·rw [dT (show p[i] = UInt8.ofNat 13 from c13), cT, if_pos c13, show u8 ((10 : Nat) : Int) = some 10 from rfl, bS, app1, bS, bS]
  ·rw [dF (show ¬ p[i] = UInt8.ofNat 13 from c13), cF, if_neg c13, if_neg (fun h => c10 h.1), u8_nat, bS, app1, bS, bS]
theorem lines_step2 (p : LB) (i : Nat) (l : LB) (hi : i < p.length) (hl : l.length ≤ i) (hp : p.length ≤ 1073741824) (rec) : Fa_Lines_l0 p rec (l, (i : Int)) = rec (l ++ lnP p i, ((i + 1 : Nat) : Int)) := by
 have hk1 : IntKind.wrap .i64 ((i : Int) + 1) = ((i + 1 : Nat) : Int) := by rw [w64 (by omega) (by omega)]; omega
 have hg : p.getD i 0 = p[i] := by simp [List.getD, hi]
 unfold Fa_Lines_l0
 dsimp only
 rw [dT (by omega), cT]
 simp only [letJ, bne]
 rw [idx_some hi, bS, bS, hk1, show u8 (10 : Int) = some 10 from rfl, show (10 : Int) = ((10 : Nat) : Int) from rfl, show (13 : Int) = ((13 : Nat) : Int) from rfl, u8_beq _ 10 (by omega), u8_beq _ 13 (by omega)]
 have app1 : ∀ c : UInt8, app 1 l [c] = some (l ++ [c]) := fun c => app_some (by simp; omega) (by simp; omega)
 unfold lnP
 rw [hg]
 by_cases c13 : p[i] = 13
 ·rw [dT (show p[i] = UInt8.ofNat 13 from c13), cT, if_pos c13, bS, app1, bS]
 ·rw [dF (show ¬ p[i] = UInt8.ofNat 13 from c13), cF, if_neg c13]
  by_cases c10 : p[i] = 10
  ·rw [dT (show p[i] = UInt8.ofNat 10 from c10), Bool.not_true, Bool.false_or]
   by_cases h0 : 0 < i
   ·have hi1 : i - 1 < p.length := by omega
    have hg1 : p.getD (i - 1) 0 = p[i - 1] := by simp [List.getD, hi1]
    have hk2 : IntKind.wrap .i64 ((i : Int) - 1) = ((i - 1 : Nat) : Int) := by rw [w64 (by omega) (by omega)]; omega
    rw [show ((i : Int) == (0 : Int)) = false by rw [beq_eq_false_iff_ne]; omega, cF, hk2, idx_some hi1, bS, u8_beq _ 13 (by omega), hg1, c10]
    by_cases c13' : p[i - 1] = 13
    ·rw [dT (show p[i - 1] = UInt8.ofNat 13 from c13'), Bool.not_true, cF, if_pos ⟨rfl, h0, c13'⟩, List.append_nil]
    ·rw [dF (show ¬ p[i - 1] = UInt8.ofNat 13 from c13'), Bool.not_false, cT, if_neg (fun h => c13' h.2.2), bS, u8_nat, bS, app1, bS]
   ·rw [show ((i : Int) == (0 : Int)) = true by rw [beq_iff_eq]; omega, cT, cT, if_neg (fun h => h0 h.2.1), bS, u8_nat, bS, app1, bS]
  ·rw [dF (show ¬ p[i] = UInt8.ofNat 10 from c10), Bool.not_false, Bool.true_or, cT, cT, if_neg (fun h => c10 h.1), bS, u8_nat, bS, app1, bS]
theorem lnP_len (p : LB) (i : Nat) : (lnP p i).length ≤ 1 := by
 unfold lnP; split
 ·simp
 ·split <;> simp
theorem lines_two (p : LB) (hp : p.length ≤ 1073741824) : ∃ r, Fh_Lines p = some r ∧ Fa_Lines p = some r ∧ r.length ≤ p.length := by
 obtain ⟨o, q, e1, e2, h1, h2⟩ := iter_two (b := Fh_Lines_l0 p) (c := Fa_Lines_l0 p) (fun x => p.length - x.2.toNat) (fun x y => x = y ∧ ∃ (l : LB) (i : Nat), x = (l, (i : Int)) ∧ i ≤ p.length ∧ l.length ≤ i) (fun o q => o = q ∧ o.length ≤ p.length) (by
  rintro _ _ ⟨rfl, l, i, rfl, hi, hl⟩
  by_cases hlt : i < p.length
  ·left
   have := lnP_len p i
   exact ⟨_, _, fun rec => lines_step1 p i l hlt hl hp rec, fun rec => lines_step2 p i l hlt hl hp rec, ⟨rfl, _, i + 1, rfl, by omega, by rw [List.length_append]; omega⟩, by dsimp only; omega⟩
  ·right
   refine ⟨l, l, fun rec => ?_, fun rec => ?_, rfl, by omega⟩
   ·unfold Fh_Lines_l0; dsimp only; rw [dF (by omega), cF]
   ·unfold Fa_Lines_l0; dsimp only; rw [dF (by omega), cF]) FUEL FUEL (([] : LB), (0 : Int)) (([] : LB), (0 : Int)) ⟨rfl, [], 0, rfl, Nat.zero_le _, Nat.le_refl _⟩ (by unfold FUEL; dsimp only; omega) (by unfold FUEL; dsimp only; omega)
 subst h1
 refine ⟨o, ?_, ?_, h2⟩
 ·unfold Fh_Lines
  simp only [letJ]
  rw [show mkG 1 (0 : Int) (p.length : Int) = some () by unfold mkG; rw [if_pos (by omega)], bS, bS, show (List.replicate (Int.toNat (0 : Int)) (0 : UInt8)) = [] from rfl, e1, bS]
 ·unfold Fa_Lines
  simp only [letJ]
  rw [e2, bS]
theorem plain_two (p : LB) (hp : p.length ≤ 1073741824) : ∃ r, F_scan_Plain p = some r ∧ Fc_Text p = some r ∧ r.length ≤ p.length := by
 have key : ∀ a : LB, a.length ≤ p.length → (Fy_TrimPrefix p [239, 187, 191] = some a) → (∀ r, Fa_Lines a = some r → Fc_Text p = some r) → ∃ r, F_scan_Plain p = some r ∧ Fc_Text p = some r ∧ r.length ≤ p.length := by
  intro a ha h1 h2
  obtain ⟨r, r1, r2, r3⟩ := lines_two a (by omega)
  refine ⟨r, ?_, h2 r r2, by omega⟩
  unfold F_scan_Plain
  rw [show u8 (239 : Int) = some 239 from rfl, show u8 (187 : Int) = some 187 from rfl, show u8 (191 : Int) = some 191 from rfl, bS, bS, bS, h1, bS, r1, bS]
 have no : ([239, 187, 191] : LB).isPrefixOf p = false → (∀ r, Fa_Lines p = some r → Fc_Text p = some r) → ∃ r, F_scan_Plain p = some r ∧ Fc_Text p = some r ∧ r.length ≤ p.length := by
  intro h h2
  refine key p (Nat.le_refl _) ?_ h2
  unfold Fy_TrimPrefix
  rw [hasPrefix_eq, bS, h, cF]
 rcases p with _ | ⟨a, _ | ⟨b, _ | ⟨c, q⟩⟩⟩
 ·exact no rfl fun r hr => (by
   unfold Fc_Text; simp only [letJ]
   rw [dF (by simp), cF, cF, cF, cF, hr, bS])
 ·exact no (by simp [List.isPrefixOf]) fun r hr => (by
   unfold Fc_Text; simp only [letJ]
   rw [dF (by simp), cF, cF, cF, cF, hr, bS])
 ·exact no (by simp [List.isPrefixOf]) fun r hr => (by
   unfold Fc_Text; simp only [letJ]
   rw [dF (by simp), cF, cF, cF, cF, hr, bS])
 ·have hd : decide ((3 : Int) ≤ ((a :: b :: c :: q).length : Int)) = true := dT (by simp only [List.length_cons]; omega)
  have i0 : idx (a :: b :: c :: q) (0 : Int) = some a := idx_some (i := 0) (by simp)
  have i1 : idx (a :: b :: c :: q) (1 : Int) = some b := idx_some (i := 1) (by simp)
  have i2 : idx (a :: b :: c :: q) (2 : Int) = some c := idx_some (i := 2) (by simp)
  have ba := u8_beq a 239 (by omega)
  have bb := u8_beq b 187 (by omega)
  have bc := u8_beq c 191 (by omega)
  have hT : Fc_Text (a :: b :: c :: q) = cond (decide (a = 239)) (cond (decide (b = 187)) (cond (decide (c = 191)) (Fa_Lines q) (Fa_Lines (a :: b :: c :: q))) (Fa_Lines (a :: b :: c :: q))) (Fa_Lines (a :: b :: c :: q)) := by
   unfold Fc_Text
   simp only [letJ]
   rw [hd, cT, i0, bS, i1, bS, i2, bS]
   rw [show (239 : Int) = ((239 : Nat) : Int) from rfl, show (187 : Int) = ((187 : Nat) : Int) from rfl, show (191 : Int) = ((191 : Nat) : Int) from rfl, ba, bb, bc]
   have hs : slc (a :: b :: c :: q) (3 : Int) ((a :: b :: c :: q).length : Int) = some q := slc_drop (n := 3) (l := a :: b :: c :: q) (by simp)
   have hbind : ∀ o : Option LB, (o.bind fun x => some x) = o := fun o => by cases o <;> rfl
   rw [hs, bS, hbind, hbind]
   show cond (decide (a = 239)) _ _ = _
   cases decide (a = 239) with
   | false => rfl
   | true =>
    show cond (decide (b = 187)) _ _ = cond (decide (b = 187)) _ _
    cases decide (b = 187) with
    | false => rfl
    | true =>
     show cond (decide (c = 191)) _ _ = cond (decide (c = 191)) _ _
     cases decide (c = 191) <;> rfl
  by_cases hall : a = 239 ∧ b = 187 ∧ c = 191
  ·obtain ⟨rfl, rfl, rfl⟩ := hall
   refine key q (by simp only [List.length_cons]; omega) ?_ fun r hr => by rw [hT]; exact hr
   unfold Fy_TrimPrefix
   rw [hasPrefix_eq, bS, show ([239, 187, 191] : LB).isPrefixOf (239 :: 187 :: 191 :: q) = true by simp [List.isPrefixOf], cT]
   have hs : slc (239 :: 187 :: 191 :: q : LB) ((([239, 187, 191] : LB).length : Nat) : Int) ((239 :: 187 :: 191 :: q : LB).length : Int) = some q := slc_drop (n := 3) (l := 239 :: 187 :: 191 :: q) (by simp)
   rw [hs, bS]
  ·refine no ?_ fun r hr => ?_
   ·rw [Bool.eq_false_iff]
    intro h
    simp only [List.isPrefixOf, Bool.and_true, Bool.and_eq_true, beq_iff_eq] at h
    exact hall ⟨h.1.symm, h.2.1.symm, h.2.2.symm⟩
   ·rw [hT]
    by_cases ha : a = 239
    ·rw [dT ha, cT]
     by_cases hb : b = 187
     ·rw [dT hb, cT, dF (fun h => hall ⟨ha, hb, h⟩), cF, hr]
     ·rw [dF hb, cF, hr]
    ·rw [dF ha, cF, hr]
def Pos (b : LB) (L : List Tk) (j : Nat) : Prop := (∀ k t, L[k]? = some t → ∃ i j', TokOk b i t j' ∧ i < b.length ∧ (k = 0 → i = 0) ∧ (∀ t', 0 < k → L[k - 1]? = some t' → ∃ i', TokOk b i' t' i)) ∧ (L = [] → j = 0) ∧ (∀ t, 0 < L.length → L[L.length - 1]? = some t → ∃ i, TokOk b i t j)
structure Agr (U V : LB) (n : Nat) : Prop where
 tk : U.take n = V.take n
 u : n ≤ U.length
 v : n ≤ V.length
 dec : ∀ j, j < n → decodeL (U.drop j) = decodeL (V.drop j)
theorem Agr.symm {U V : LB} {n : Nat} (A : Agr U V n) : Agr V U n := ⟨A.tk.symm, A.v, A.u, fun j h => (A.dec j h).symm⟩
theorem Agr.get {U V : LB} {n : Nat} (A : Agr U V n) {j : Nat} (h : j < n) : U[j]? = V[j]? := by
 have := congrArg (fun l : LB => l[j]?) A.tk
 simpa [List.getElem?_take, h] using this
theorem Agr.seg {U V : LB} {n : Nat} (A : Agr U V n) {a k : Nat} (h : a + k ≤ n) : (U.drop a).take k = (V.drop a).take k := by
 apply List.ext_getElem?
 intro x
 rw [List.getElem?_take, List.getElem?_take]
 split
 ·rw [List.getElem?_drop, List.getElem?_drop, A.get (by omega)]
 ·rfl
theorem Agr.here {U V : LB} {n : Nat} (A : Agr U V n) {j : Nat} {w : LB} (h : j + w.length ≤ n) : hereP U j w = hereP V j w := by
 have h1 := A.u
 have h2 := A.v
 unfold hereP
 rw [isPre_take, isPre_take, A.seg h, dT (by rw [List.length_drop]; omega), dT (by rw [List.length_drop]; omega)]
theorem Agr.sk {U V : LB} {n : Nat} (A : Agr U V n) (P : UInt8 → Bool) : ∀ (d j : Nat), j + d = n → Proofs.YtfokkdofcekdbaaGreatDoor.sk P U j < n → Proofs.YtfokkdofcekdbaaGreatDoor.sk P V j = Proofs.YtfokkdofcekdbaaGreatDoor.sk P U j
 | d, j, hd, h => by
  have h1 := A.u
  have h2 := A.v
  have hj : j < n := by
   have := (sk_le P U j (by omega)).1
   omega
  have hg : U[j]'(by omega) = V[j]'(by omega) := by
   have := A.get hj
   rw [List.getElem?_eq_getElem (by omega), List.getElem?_eq_getElem (by omega)] at this
   exact Option.some.inj this
  rw [sk_step (by omega : j < U.length)] at h ⊢
  rw [sk_step (by omega : j < V.length), hg]
  rw [hg] at h
  cases hp : P (V[j]'(by omega)) with
  | false => rfl
  | true =>
   rw [hp, if_pos rfl] at h
   rw [if_pos rfl, if_pos rfl]
   cases d with
   | zero => omega
   | succ d => exact Agr.sk A P d (j + 1) (by omega) h
def stopN (i k r : Int) : Bool := (r != 58) && (!partP r || ((k == i) && !startP r))
theorem name_step (b : LB) (i k : Nat) (hk : k < b.length) (hb : b.length ≤ 1073741824) (rec : Int → Option Int) : Fs_name_l0 ⟨b, (i : Int)⟩ rec (k : Int) = cond (stopN i k ((decodeL (b.drop k)).1 : Int)) (some (k : Int)) (rec ((k + (decodeL (b.drop k)).2 : Nat) : Int)) := by
 obtain ⟨d1, d2, _⟩ := dec_bytes b k hk
 unfold Fs_name_l0
 dsimp only
 rw [dT (by omega), cT, slc_drop (Nat.le_of_lt hk), bS, decodeRune_eq b k hk, bS]
 simp only [letJ, F_isPart, F_isStart, bS]
 have hgo : IntKind.wrap .i64 ((k : Int) + ((decodeL (b.drop k)).2 : Int)) = ((k + (decodeL (b.drop k)).2 : Nat) : Int) := by rw [w64 (by omega) (by omega)]; omega
 rw [hgo]
 unfold stopN
 cases ((decodeL (b.drop k)).1 : Int) != 58 with
 | false => rfl
 | true =>
  cases partP ((decodeL (b.drop k)).1 : Int) with
  | false => rfl
  | true =>
   cases ((k : Int) == (i : Int)) with
   | false => rfl
   | true => cases startP ((decodeL (b.drop k)).1 : Int) <;> rfl
theorem name_end (b : LB) (i : Nat) (rec : Int → Option Int) : Fs_name_l0 ⟨b, (i : Int)⟩ rec (b.length : Int) = some (b.length : Int) := by
 unfold Fs_name_l0
 dsimp only
 rw [dF (by omega), cF]
theorem name_eq (b : LB) (i j : Nat) (h : iter (Fs_name_l0 ⟨b, (i : Int)⟩) FUEL (i : Int) = some (j : Int)) (h1 : i ≤ j) (h2 : j ≤ b.length) :
  Fs_name ⟨b, (i : Int)⟩ = cond ((b.drop i).take (j - i) == ([] : LB)) (some (([], 23), ⟨b, (i : Int)⟩)) ((Fh_Split ((b.drop i).take (j - i))).bind fun x => cond (!x.2.2) (some (([], 24), ⟨b, (i : Int)⟩)) (some (((b.drop i).take (j - i), 0), ⟨b, (j : Int)⟩))) := by
 unfold Fs_name
 simp only [letJ]
 rw [h, bS]
 have hsl : slc b (i : Int) (j : Int) = some ((b.drop i).take (j - i)) := by
  unfold slc; rw [if_pos (by omega)]; simp only [Int.toNat_natCast]
 rw [hsl, bS]
theorem ixB_of {l : LB} {c : UInt8} {m : Nat} (h1 : l[m]? = some c) (h2 : ∀ k, k < m → l[k]? ≠ some c) : Lib.indexByte l c = (m : Int) := by
 by_cases hn : Lib.indexByte l c < 0
 ·have hge := Lib.indexByte_ge l c
  exact absurd h1 (Lib.indexByte_none (by omega) m)
 ·obtain ⟨o, e1, e2⟩ := ixB_nat l c hn
  obtain ⟨g1, g2⟩ := Lib.indexByte_some e1
  rw [e1]
  rcases Nat.lt_trichotomy o m with h | h | h
  ·exact absurd g1 (h2 o h)
  ·rw [h]
  ·exact absurd h1 (g2 m h)
theorem Agr.index {U V : LB} {n : Nat} (A : Agr U V n) {a m : Nat} {w : LB} (h : Lib.index (U.drop a) w = (m : Int)) (hm : a + m + w.length ≤ n) : Lib.index (V.drop a) w = (m : Int) := by
 have h1 := A.v
 have oc : ∀ k, k ≤ m → Lib.occAt (V.drop a) w k = Lib.occAt (U.drop a) w k := by
  intro k hk
  unfold Lib.occAt
  rw [List.drop_drop, List.drop_drop]
  exact (A.here (j := a + k) (w := w) (by omega)).symm
 rcases Lib.index_spec (U.drop a) w with ⟨g, _⟩ | ⟨i, g1, g2, g3, g4⟩
 ·omega
 ·have : i = m := by omega
  subst this
  refine Lib.index_first (by rw [List.length_drop]; omega) (by rw [oc i (Nat.le_refl _)]; exact g3) fun k hk => ?_
  rw [oc k (by omega)]
  exact g4 k hk
def quo (b : LB) (i : Nat) : (LB × Int) × TS :=
 if (hereP b i [39] = true ∨ hereP b i [34] = true) ∧ 0 ≤ Lib.indexByte (b.drop (i + 1)) (b.getD i 0) then (((b.drop (i + 1)).take (Lib.indexByte (b.drop (i + 1)) (b.getD i 0)).toNat, 0), ⟨b, ((i + ((Lib.indexByte (b.drop (i + 1)) (b.getD i 0)).toNat + 2) : Nat) : Int)⟩) else (([], 23), ⟨b, (i : Int)⟩)
theorem quoted_eq (b : LB) (i : Nat) (hi : i ≤ b.length) (hb : b.length ≤ 1073741824) : Fs_quoted ⟨b, (i : Int)⟩ = some (quo b i) := by
 have main : i < b.length → (hereP b i [39] = true ∨ hereP b i [34] = true) → ((slc b (IntKind.wrap .i64 ((i : Int) + (1 : Int))) (b.length : Int)).bind fun x7 =>
   (idx b (i : Int)).bind fun x8 =>
   (L_bIndexByte x7 (x8.toNat : Int)).bind fun x9 =>
   cond (decide (x9 < (0 : Int)))
   (some ((([] : LB), (23 : Int)), (⟨b, (i : Int)⟩ : TS)))
   ((slc x7 (0 : Int) x9).bind fun x11 =>
   some ((x11, (0 : Int)), (⟨b, (IntKind.wrap .i64 ((i : Int) + (IntKind.wrap .i64 (x9 + (2 : Int)))))⟩ : TS)))) = some (quo b i) := by
  intro hlt hq
  have hg : b.getD i 0 = b[i] := by simp [List.getD, hlt]
  unfold quo
  rw [w64 (x := (i : Int) + 1) (by omega) (by omega), show (i : Int) + 1 = ((i + 1 : Nat) : Int) by omega, slc_drop hlt, bS, idx_some hlt, bS, hg]
  unfold L_bIndexByte
  rw [nat_u8, bS]
  by_cases hn : Lib.indexByte (b.drop (i + 1)) b[i] < 0
  ·rw [dT hn, cT, if_neg (fun h => by omega)]
  ·obtain ⟨n, e1, e2⟩ := ixB_nat _ _ hn
   rw [dF hn, cF, if_pos ⟨hq, by omega⟩, e1, slc_take0 (Nat.le_of_lt e2), bS, Int.toNat_natCast]
   rw [List.length_drop] at e2
   rw [w64 (x := (n : Int) + 2) (by omega) (by omega), w64 (by omega) (by omega)]
   rfl
 unfold Fs_quoted
 dsimp only
 rw [here_eq b i _ hi, here_eq b i _ hi, bS]
 simp only [letJ]
 cases h1 : hereP b i [39] with
 | true =>
  have := hereP_len h1 hi
  rw [Bool.not_true, cF, cF]
  exact main (by simp at this; omega) (.inl h1)
 | false =>
  rw [Bool.not_false, cT, bS]
  cases h2 : hereP b i [34] with
  | true =>
   have := hereP_len h2 hi
   rw [Bool.not_true, cF]
   exact main (by simp at this; omega) (.inr h2)
  | false =>
   rw [Bool.not_false, cT]
   unfold quo
   rw [if_neg (fun h => by rw [h1, h2] at h; simp at h)]
theorem equals_eq (b : LB) (i : Nat) (hi : i ≤ b.length) (hb : b.length ≤ 1073741824) : Fs_equals ⟨b, (i : Int)⟩ = some (if hereP b (sk wsP b i) [61] = true then (0, ⟨b, ((sk wsP b (sk wsP b i + 1) : Nat) : Int)⟩) else (23, ⟨b, ((sk wsP b (sk wsP b i) : Nat) : Int)⟩)) := by
 obtain ⟨s1, s2⟩ := sk_le wsP b i hi
 unfold Fs_equals
 rw [spaces_eq b _ i hi hb, bS]
 dsimp only
 rw [sign_eq b _ _ s2 hb, bS]
 cases h : hereP b (sk wsP b i) [61] with
 | false =>
  rw [if_neg (by simp), if_neg (by simp)]
  dsimp only
  rw [spaces_eq b _ _ s2 hb, bS]
 | true =>
  have hl := hereP_len h s2
  rw [if_pos rfl, if_pos rfl]
  dsimp only
  rw [spaces_eq b _ _ hl hb, bS]
  rfl

def HdP (k : Nat) (c : UInt8) : Prop := c = 63 ∨ (k ≤ 0 ∧ c = 118) ∨ (k ≤ 1 ∧ c = 101) ∨ (k ≤ 2 ∧ c = 115)
abbrev tok0 (i : Int) : Tk := ⟨(0 : Int), i, ([] : LB), ([] : List TP), ([] : LB), (0 : Int)⟩
abbrev tokK (k i : Int) : Tk := ⟨k, i, ([] : LB), ([] : List TP), ([] : LB), (0 : Int)⟩
def tokRest (b : LB) (i : Nat) : Option (Int × TS × Tk) :=
 cond (hereP b i [60, 33, 45, 45])
  ((Fs_upTo ⟨b, (i : Int)⟩ (tokK 7 i) (4 : Int) ([45, 45] : LB)).bind fun x14 => cond (x14.1 != (0 : Int)) (some x14) ((Fs_sign x14.2.1 ([62] : LB)).bind fun x17 => some (x17.1, x17.2, x14.2.2)))
 (cond (hereP b i [60, 33, 91, 67, 68, 65, 84, 65, 91]) (Fs_upTo ⟨b, (i : Int)⟩ (tokK 6 i) (9 : Int) ([93, 93, 62] : LB))
 (cond (hereP b i [60, 33, 68, 79, 67, 84, 89, 80, 69]) (some (25, ⟨b, (i : Int)⟩, tok0 i))
 (cond (hereP b i [60, 33]) (some (23, ⟨b, (i : Int)⟩, tok0 i))
 (cond (hereP b i [60, 63]) (Fs_instr ⟨b, (i : Int)⟩ (tok0 i))
 (cond (hereP b i [60, 47]) (Fs_closing ⟨b, (i : Int)⟩ (tok0 i))
 (cond (hereP b i [60]) (Fs_tag ⟨b, (i : Int)⟩ (tok0 i)) (Fs_text ⟨b, (i : Int)⟩ (tok0 i))))))))
def declP (b : LB) (i : Nat) : Bool := decide (i = 0) && (hereP b 0 [60, 63, 120, 109, 108] && decide (5 < sk wsP b 5))
theorem bind_eta (o : Option (Int × TS × TK)) : (o.bind fun x => some (x.1, x.2.1, x.2.2)) = o := by cases o <;> rfl
theorem token_eq (b : LB) (i : Nat) (hi : i ≤ b.length) (hb : b.length ≤ 1073741824) : Fs_token ⟨b, (i : Int)⟩ (tok0 i) = cond (declP b i) (Fs_decl ⟨b, (0 : Int)⟩ (tok0 0)) (tokRest b i) := by
 have rest : ((Fs_here (⟨b, (i : Int)⟩ : TS) ([60, 33, 45, 45] : LB)).bind fun x12 =>
    cond x12
    ((Fs_upTo ⟨b, (i : Int)⟩ (⟨(7 : Int), (i : Int), ([] : LB), ([] : List TP), ([] : LB), (0 : Int)⟩ : TK) (4 : Int) ([45, 45] : LB)).bind fun x14 =>
    cond (x14.1 != (0 : Int))
     (some (x14.1, x14.2.1, x14.2.2))
     ((Fs_sign x14.2.1 ([62] : LB)).bind fun x17 =>
     some (x17.1, x17.2, x14.2.2)))
    ((Fs_here (⟨b, (i : Int)⟩ : TS) ([60, 33, 91, 67, 68, 65, 84, 65, 91] : LB)).bind fun x18 =>
    cond x18
     ((Fs_upTo ⟨b, (i : Int)⟩ (⟨(6 : Int), (i : Int), ([] : LB), ([] : List TP), ([] : LB), (0 : Int)⟩ : TK) (9 : Int) ([93, 93, 62] : LB)).bind fun x20 =>
     some (x20.1, x20.2.1, x20.2.2))
     ((Fs_here (⟨b, (i : Int)⟩ : TS) ([60, 33, 68, 79, 67, 84, 89, 80, 69] : LB)).bind fun x22 =>
     cond x22
     (some ((25 : Int), (⟨b, (i : Int)⟩ : TS), (⟨(0 : Int), (i : Int), ([] : LB), ([] : List TP), ([] : LB), (0 : Int)⟩ : TK)))
     ((Fs_here (⟨b, (i : Int)⟩ : TS) ([60, 33] : LB)).bind fun x24 =>
     cond x24
      (some ((23 : Int), (⟨b, (i : Int)⟩ : TS), (⟨(0 : Int), (i : Int), ([] : LB), ([] : List TP), ([] : LB), (0 : Int)⟩ : TK)))
      ((Fs_here (⟨b, (i : Int)⟩ : TS) ([60, 63] : LB)).bind fun x26 =>
      cond x26
      ((Fs_instr (⟨b, (i : Int)⟩ : TS) ⟨(0 : Int), (i : Int), ([] : LB), ([] : List TP), ([] : LB), (0 : Int)⟩).bind fun x28 =>
      some (x28.1, x28.2.1, x28.2.2))
      ((Fs_here (⟨b, (i : Int)⟩ : TS) ([60, 47] : LB)).bind fun x30 =>
      cond x30
       ((Fs_closing (⟨b, (i : Int)⟩ : TS) ⟨(0 : Int), (i : Int), ([] : LB), ([] : List TP), ([] : LB), (0 : Int)⟩).bind fun x32 =>
       some (x32.1, x32.2.1, x32.2.2))
       ((Fs_here (⟨b, (i : Int)⟩ : TS) ([60] : LB)).bind fun x34 =>
       cond x34
       ((Fs_tag (⟨b, (i : Int)⟩ : TS) ⟨(0 : Int), (i : Int), ([] : LB), ([] : List TP), ([] : LB), (0 : Int)⟩).bind fun x36 =>
       some (x36.1, x36.2.1, x36.2.2))
       ((Fs_text (⟨b, (i : Int)⟩ : TS) ⟨(0 : Int), (i : Int), ([] : LB), ([] : List TP), ([] : LB), (0 : Int)⟩).bind fun x38 =>
       some (x38.1, x38.2.1, x38.2.2))))))))) = tokRest b i := by
  simp only [here_eq b i _ hi, bS, bind_eta]
  rfl
 unfold Fs_token
 simp only [letJ]
 unfold declP
 by_cases h0 : i = 0
 ·subst h0
  rw [show (((0 : Nat) : Int) == (0 : Int)) = true from rfl, cT, here_eq b 0 _ hi, bS, dT (rfl : (0 : Nat) = 0), Bool.true_and]
  cases c0 : hereP b 0 [60, 63, 120, 109, 108] with
  | false => rw [cF, cF, Bool.false_and, cF]; exact rest
  | true =>
   have hl := hereP_len c0 hi
   have h5 : 5 ≤ b.length := by simpa using hl
   rw [cT, show (5 : Int) = ((5 : Nat) : Int) from rfl, spaces_eq b _ 5 h5 hb, bS, Bool.true_and]
   by_cases h5' : 5 < sk wsP b 5
   ·rw [dT (show (((5 : Nat) : Int) < ((sk wsP b 5 : Nat) : Int)) by omega), dT h5', cT, cT, bind_eta]; rfl
   ·rw [dF (show ¬ (((5 : Nat) : Int) < ((sk wsP b 5 : Nat) : Int)) by omega), dF h5', cF, cF]; exact rest
 ·rw [show ((i : Int) == (0 : Int)) = false by rw [beq_eq_false_iff_ne]; omega, cF, cF, dF h0, Bool.false_and, cF]
  exact rest
end Go.Proofs.YtfokkdofcekdbaaGreatDoor
