/- The law's own start: it is awake. No condition. -/
import Derived.Test.YtfokkdofcekdbaaGreatDoorPf
import Derived.KernelRfl
import Derived.Test.YtfokkdofcekdbaaGreatDoorEng25
import Derived.Test.YtfokkdofcekdbaaGreatDoorPl1
import Derived.Lib.MapLaws
import Derived.Lib.TrimUEq
import Derived.Lib.ValidLaws
import Derived.Lib.Index
import Derived.Laws.BitsAllLaws
import Derived.Lib.SlTrimSet
import Derived.Laws.Cover4
import Derived.Lib.IndexMore
import Derived.Lib.IndexLaws
set_option linter.unusedSimpArgs false
set_option linter.unusedVariables false
namespace Go.Proofs.YtfokkdofcekdbaaGreatDoor
theorem awake_t : F_lecternlaw03_awake = some true := by kernel_rfl
end Go.Proofs.YtfokkdofcekdbaaGreatDoor

set_option linter.unusedVariables false
namespace Go.Proofs.YtfokkdofcekdbaaGreatDoor
def bys (y : List Int) : List UInt8 := y.map fun n => UInt8.ofNat n.toNat
theorem bys_c {y : List Int} (o : ∀ n ∈ y, okI .u8 n) : (bys y).map c_u8 = y.map fun n => [D.int .u8 n] := by
 unfold bys
 rw [List.map_map]
 refine List.map_congr_left fun n hn => ?_
 have h := o n hn
 unfold okI at h
 have e1 : IntKind.min .u8 = 0 := by decide
 have e2 : IntKind.max .u8 = 255 := by decide
 rw [e1, e2] at h
 have h2 : (UInt8.ofNat n.toNat).toNat = n.toNat := by show n.toNat % 256 = n.toNat; omega
 show [D.int .u8 ((UInt8.ofNat n.toNat).toNat : Int)] = _
 rw [h2, Int.toNat_of_nonneg h.1]
theorem len_sumI (y : List Int) : (y.map fun _ => 1).sum = y.length := by
 induction y with
 | nil => rfl
 | cons a l ih => rw [List.map_cons, List.sum_cons, ih, List.length_cons]; omega
theorem bys_len (y : List Int) : (bys y).length = y.length := by unfold bys; rw [List.length_map]
end Go.Proofs.YtfokkdofcekdbaaGreatDoor

set_option linter.unusedSimpArgs false
set_option linter.unusedVariables false
set_option maxRecDepth 20000
namespace Go.Proofs.YtfokkdofcekdbaaGreatDoor
open Go.Lib (decodeL decodeN)
theorem getD_drop (p : List UInt8) (x k : Nat) : (p.drop x).getD k 0 = p.getD (x + k) 0 := by simp [List.getD, List.getElem?_drop]
theorem decN_facts (n b0 b1 b2 b3 : Nat) : (b0 < 128 → decodeN n b0 b1 b2 b3 = (b0, 1)) ∧ (2 ≤ (decodeN n b0 b1 b2 b3).2 → 128 ≤ b1) ∧ (3 ≤ (decodeN n b0 b1 b2 b3).2 → 128 ≤ b2) ∧ (4 ≤ (decodeN n b0 b1 b2 b3).2 → 128 ≤ b3) ∧ (decodeN n b0 b1 b2 b3).2 ≤ 4 := by
 unfold decodeN
 repeat' split
 all_goals refine ⟨fun h => ?_, fun h => ?_, fun h => ?_, fun h => ?_, ?_⟩
 all_goals first | rfl | omega | (simp only at *; omega)
theorem drop_ne {α : Type} {l : List α} {i : Nat} (h : i < l.length) : l.drop i = l[i] :: l.drop (i + 1) := List.drop_eq_getElem_cons h
theorem dec_bytes (p : List UInt8) (x : Nat) (hx : x < p.length) : 1 ≤ (decodeL (p.drop x)).2 ∧ x + (decodeL (p.drop x)).2 ≤ p.length ∧ ((p.getD x 0).toNat < 128 → decodeL (p.drop x) = ((p.getD x 0).toNat, 1)) ∧ ∀ k, 1 ≤ k → k < (decodeL (p.drop x)).2 → 128 ≤ (p.getD (x + k) 0).toNat := by
 have hne : p.drop x ≠ [] := by intro h; have := congrArg List.length h; simp at this; omega
 have h1 := Lib.decodeL_width (p.drop x)
 have h2 := Lib.decodeL_le (p.drop x) hne
 have e := Lib.decodeL_N (p.drop x)
 simp only [getD_drop] at e
 have f := decN_facts (p.drop x).length (p.getD (x + 0) 0).toNat (p.getD (x + 1) 0).toNat (p.getD (x + 2) 0).toNat (p.getD (x + 3) 0).toNat
 rw [← e] at f
 obtain ⟨f0, f1, f2, f3, f4⟩ := f
 rw [List.length_drop] at h2
 refine ⟨h1, by omega, fun h => f0 h, fun k hk1 hk2 => ?_⟩
 match k, hk1, hk2 with
 | 1, _, hk => exact f1 (by omega)
 | 2, _, hk => exact f2 (by omega)
 | 3, _, hk => exact f3 (by omega)
 | k + 4, _, hk => omega
theorem dec_at (p : List UInt8) (x : Nat) : (rnS p x = ((decodeL (p.drop x)).1 : Int)) ∧ wdS p x = (decodeL (p.drop x)).2 := by
 have := Lib.decodeL_drop ⟨p.toArray⟩ x
 simp only at this
 unfold rnS wdS
 rw [← this]
 exact ⟨rfl, rfl⟩
def badR (d : Nat × Nat) : Bool := decide (d.1 = 65533 ∧ d.2 = 1)
def inP (r : Int) : List T_char_span → Bool
 | [] => false
 | s :: l => if r ≤ s.hi then decide (s.lo ≤ r) else inP r l
theorem F_in (r : Int) (l : List T_char_span) (hl : l.length ≤ 9223372036854775807) : F_char_in r l = some (inP r l) := by
 unfold F_char_in
 simp only [letJ]
 obtain ⟨o, h1, h2⟩ := iter_spec (b := F_char_in_l0 r l) (fun i x => x = (i : Int) ∧ inP r l = inP r (l.drop i)) (fun o => match o with | .inl _ => inP r l = false | .inr b => inP r l = b) l.length (x0 := (0 : Int)) ⟨rfl, by simp⟩
  (fun i x rec hi ⟨hx, hI⟩ => by
   subst hx
   rw [drop_ne hi, inP] at hI
   unfold F_char_in_l0
   rw [decide_eq_true (by omega), cond_true, idx_some hi, Option.bind_some, w64 (by omega) (by omega)]
   by_cases c : r ≤ l[i].hi
   ·rw [if_pos c] at hI
    rw [decide_eq_true c]
    exact .inr ⟨.inr _, rfl, hI⟩
   ·rw [if_neg c] at hI
    rw [decide_eq_false c]
    exact .inl ⟨_, rfl, rfl, hI⟩)
  (fun x rec ⟨hx, hI⟩ => ⟨.inl (), by
   subst hx
   unfold F_char_in_l0
   rw [decide_eq_false (by omega), cond_false], by show inP r l = false; rw [hI, List.drop_length]; rfl⟩) (n := FUEL) (by unfold FUEL; omega)
 rw [h1, Option.bind_some]
 cases o with
 | inl u => simp only at h2; rw [h2]
 | inr b => simp only at h2; rw [h2]
def srt : List T_char_span → Bool
 | [] => true
 | s :: l => l.all (fun t => decide (s.hi < t.lo)) && srt l
theorem inP_any (r : Int) : ∀ l, srt l = true → inP r l = l.any fun s => decide (s.lo ≤ r ∧ r ≤ s.hi)
 | [], _ => rfl
 | s :: l, h => by
  simp only [srt, Bool.and_eq_true, List.all_eq_true, decide_eq_true_eq] at h
  simp only [inP, List.any_cons]
  by_cases c : r ≤ s.hi
  ·rw [if_pos c]
   have : (l.any fun s => decide (s.lo ≤ r ∧ r ≤ s.hi)) = false := by
    rw [List.any_eq_false]
    intro t ht
    have := h.1 t ht
    simp only [decide_eq_true_eq]; omega
   rw [this, Bool.or_false]
   by_cases c2 : s.lo ≤ r <;> simp [c, c2]
  ·rw [if_neg c, inP_any r l h.2, decide_eq_false (fun hh => c hh.2), Bool.false_or]
def charP (r : Int) : Bool := decide (r = 9 ∨ r = 10 ∨ r = 13 ∨ (32 ≤ r ∧ r ≤ 55295) ∨ (57344 ≤ r ∧ r ≤ 65533) ∨ (65536 ≤ r ∧ r ≤ 1114111))
def startP (r : Int) : Bool := decide ((65 ≤ r ∧ r ≤ 90) ∨ r = 95 ∨ (97 ≤ r ∧ r ≤ 122) ∨ (192 ≤ r ∧ r ≤ 214) ∨ (216 ≤ r ∧ r ≤ 246) ∨ (248 ≤ r ∧ r ≤ 767) ∨ (880 ≤ r ∧ r ≤ 893) ∨ (895 ≤ r ∧ r ≤ 8191) ∨ (8204 ≤ r ∧ r ≤ 8205) ∨ (8304 ≤ r ∧ r ≤ 8591) ∨ (11264 ≤ r ∧ r ≤ 12271) ∨ (12289 ≤ r ∧ r ≤ 55295) ∨ (63744 ≤ r ∧ r ≤ 64975) ∨ (65008 ≤ r ∧ r ≤ 65533) ∨ (65536 ≤ r ∧ r ≤ 983039))
def partP (r : Int) : Bool := startP r || decide (r = 45 ∨ r = 46 ∨ (48 ≤ r ∧ r ≤ 57) ∨ r = 183 ∨ (768 ≤ r ∧ r ≤ 879) ∨ (8255 ≤ r ∧ r ≤ 8256))
theorem in_eq (r : Int) (k : Bool → Option Bool) (l : List T_char_span) (hl : l.length ≤ 9223372036854775807) : (F_char_in r l).bind k = k (inP r l) := by rw [F_in r l hl]; rfl
theorem F_isChar (r : Int) : F_char_IsChar r = some (charP r) := by
 unfold F_char_IsChar charP
 simp only [letJ]
 by_cases c : r = 9 ∨ r = 10 ∨ r = 13
 ·have e : (((r == (9 : Int)) || (r == (10 : Int))) || (r == (13 : Int))) = true := by simp only [Bool.or_eq_true, beq_iff_eq]; omega
  rw [e, cond_true, decide_eq_true (by omega)]
 ·have e : (((r == (9 : Int)) || (r == (10 : Int))) || (r == (13 : Int))) = false := by simp only [Bool.or_eq_false_iff, beq_eq_false_iff_ne]; omega
  rw [e, cond_false, in_eq _ _ _ (by decide)]
  congr 1
  rw [inP_any _ _ (by decide), Bool.eq_iff_iff]
  simp only [List.any_cons, List.any_nil, Bool.or_eq_true, decide_eq_true_eq, Bool.false_eq_true, or_false]
  omega
theorem F_isStart (r : Int) : F_char_IsStart r = some (startP r) := by
 unfold F_char_IsStart startP
 by_cases c : r < 128
 ·rw [decide_eq_true c, cond_true]
  congr 1
  rw [Bool.eq_iff_iff]
  simp only [Bool.or_eq_true, Bool.and_eq_true, beq_iff_eq, decide_eq_true_eq]
  omega
 ·rw [decide_eq_false c, cond_false, in_eq _ _ _ (by decide)]
  congr 1
  rw [inP_any _ _ (by decide), Bool.eq_iff_iff]
  simp only [List.any_cons, List.any_nil, Bool.or_eq_true, decide_eq_true_eq, Bool.false_eq_true, or_false]
  omega
theorem F_isPart (r : Int) : F_char_IsPart r = some (partP r) := by
 unfold F_char_IsPart partP
 rw [F_isStart, Option.bind_some]
 simp only [letJ]
 by_cases c : startP r = true ∨ r = 45 ∨ r = 46 ∨ (48 ≤ r ∧ r ≤ 57) ∨ r = 183
 ·have e : ((((startP r || (r == (45 : Int))) || (r == (46 : Int))) || ((decide ((48 : Int) ≤ r)) && (decide (r ≤ (57 : Int))))) || (r == (183 : Int))) = true := by
   simp only [Bool.or_eq_true, Bool.and_eq_true, beq_iff_eq, decide_eq_true_eq]
   rcases c with c | c
   ·simp [c]
   ·omega
  rw [e, cond_true]
  congr 1
  rcases c with c | c
  ·simp [c]
  ·rw [decide_eq_true (by omega), Bool.or_true]
 ·have hs : startP r = false := by simpa using fun h => c (.inl h)
  have e : ((((startP r || (r == (45 : Int))) || (r == (46 : Int))) || ((decide ((48 : Int) ≤ r)) && (decide (r ≤ (57 : Int))))) || (r == (183 : Int))) = false := by
   rw [Bool.eq_false_iff]
   simp only [ne_eq, Bool.or_eq_true, Bool.and_eq_true, beq_iff_eq, decide_eq_true_eq, hs, Bool.false_eq_true, false_or]
   intro h; apply c; right; omega
  rw [e, cond_false, in_eq _ _ _ (by decide)]
  congr 1
  rw [hs, Bool.false_or]
  rw [inP_any _ _ (by decide), Bool.eq_iff_iff]
  simp only [List.any_cons, List.any_nil, Bool.or_eq_true, decide_eq_true_eq, Bool.false_eq_true, or_false]
  omega
theorem decN_two (n b0 b1 b2 b3 : Nat) : (decodeN n b0 b1 b2 b3).2 = 2 → (decodeN n b0 b1 b2 b3).1 ≤ 2047 := by
 unfold decodeN
 repeat' split
 all_goals first | (intro h; simp only at h; omega) | (intro _; simp only; omega)
theorem badR_iff (l : List UInt8) (x : Nat) (hx : x < l.length) : ((((decodeL (l.drop x)).1 : Int) == (65533 : Int)) && decide (((decodeL (l.drop x)).2 : Int) < (3 : Int))) = badR (decodeL (l.drop x)) := by
 obtain ⟨d1, _⟩ := dec_bytes l x hx
 have e := Lib.decodeL_N (l.drop x)
 have h2 := decN_two (l.drop x).length ((l.drop x).getD 0 0).toNat ((l.drop x).getD 1 0).toNat ((l.drop x).getD 2 0).toNat ((l.drop x).getD 3 0).toNat
 rw [← e] at h2
 unfold badR
 rw [Bool.eq_iff_iff]
 simp only [Bool.and_eq_true, beq_iff_eq, decide_eq_true_eq]
 omega
theorem F_next (p : List UInt8) (x : Nat) (hx : x < p.length) (hl : p.length ≤ 1073741824) : F_char_Next p (x : Int) = some (if badR (decodeL (p.drop x)) then (0, 0, 20) else if charP (decodeL (p.drop x)).1 then (((decodeL (p.drop x)).1 : Int), ((x + (decodeL (p.drop x)).2 : Nat) : Int), 0) else (0, 0, 21)) := by
 obtain ⟨d1, d2, d3, d4⟩ := dec_bytes p x hx
 unfold F_char_Next
 rw [decide_eq_false (by omega), decide_eq_false (by omega)]
 simp only [Bool.or_self, cond_false]
 have hs : slc p (x : Int) (p.length : Int) = some (p.drop x) := by
  unfold slc; rw [if_pos (by omega)]; simp only [Int.toNat_natCast]; rw [List.take_of_length_le (by simp)]
 rw [hs, Option.bind_some]
 have hne : p.drop x ≠ [] := by intro h; have := congrArg List.length h; simp at this; omega
 have hd : L_DecodeRune (p.drop x) = some (((decodeL (p.drop x)).1 : Int), ((decodeL (p.drop x)).2 : Int)) := by
  unfold L_DecodeRune Lib.decodeGo
  rw [if_neg hne, if_neg (by
   show ¬ ((p.drop x).toArray.size = 0)
   simp; omega)]
  rfl
 rw [hd, Option.bind_some]
 simp only [badR_iff p x hx, F_isChar, Option.bind_some]
 cases badR (decodeL (p.drop x))
 ·cases charP ((decodeL (p.drop x)).1 : Int)
  ·rfl
  ·simp only [cond_false, Bool.not_true, Bool.false_eq_true, if_false, if_true]
   rw [w64 (by omega) (by omega)]; rfl
 ·rfl
def okN (l : List UInt8) : Nat → Nat → Bool
 | 0, _ => true
 | n + 1, j => if j < l.length then !badR (decodeL (l.drop j)) && (partP (decodeL (l.drop j)).1 && ((!decide (j = 0) || startP (decodeL (l.drop j)).1) && okN l n (j + (decodeL (l.drop j)).2))) else true
theorem okN_valid (l : List UInt8) : ∀ n j, l.length ≤ j + n → okN l n j = true → Lib.validD (l.drop j) = true
 | 0, j, h, _ => by rw [List.drop_of_length_le (by omega)]; rfl
 | n + 1, j, h, hok => by
  by_cases hj : j < l.length
  ·obtain ⟨d1, d2, d3, d4⟩ := dec_bytes l j hj
   simp only [okN, if_pos hj, Bool.and_eq_true, Bool.not_eq_true'] at hok
   have hne : l.drop j ≠ [] := by intro h; have := congrArg List.length h; simp at this; omega
   have hb := hok.1
   unfold badR at hb
   rw [Lib.validD_step _ hne, if_neg (of_decide_eq_false hb), List.drop_drop]
   exact okN_valid l n _ (by omega) hok.2.2.2
  ·rw [List.drop_of_length_le (by omega)]; rfl
def nameP (l : List UInt8) : Bool := !(decide (l = []) || decide (100 < l.length)) && okN l l.length 0
theorem F_nameC (l : List UInt8) : F_char_Name l = some (nameP l) := by
 unfold F_char_Name nameP
 simp only [letJ]
 by_cases c : l = [] ∨ 100 < l.length
 ·have e1 : ((l == ([] : List UInt8)) || decide ((100 : Int) < (l.length : Int))) = true := by
   simp only [Bool.or_eq_true, beq_iff_eq, decide_eq_true_eq]
   rcases c with rfl | c
   ·left; rfl
   ·right; omega
  have e2 : (decide (l = []) || decide (100 < l.length)) = true := by simpa using c
  rw [e1, e2]; rfl
 ·have hl : l.length ≤ 100 := by omega
  have hne : 0 < l.length := List.length_pos_iff.2 fun h => c (.inl h)
  have e1 : ((l == ([] : List UInt8)) || decide ((100 : Int) < (l.length : Int))) = false := by
   simp only [Bool.or_eq_false_iff, beq_eq_false_iff_ne, decide_eq_false_iff_not]
   exact ⟨fun h => c (.inl h), by omega⟩
  have e2 : (decide (l = []) || decide (100 < l.length)) = false := by
   simp only [Bool.or_eq_false_iff, decide_eq_false_iff_not]
   exact ⟨fun h => c (.inl h), by omega⟩
  rw [e1, e2, cond_false, Bool.not_false, Bool.true_and]
  have hv : L_ValidString l = some (Lib.validD l) := by unfold L_ValidString; rw [if_pos (by omega)]
  rw [hv, Option.bind_some]
  cases hval : Lib.validD l
  ·have : okN l l.length 0 = false := by
    cases hok : okN l l.length 0
    ·rfl
    ·have := okN_valid l l.length 0 (by omega) hok
     rw [List.drop_zero, hval] at this; cases this
   rw [this]; rfl
  simp only [Bool.not_true, cond_false]
  obtain ⟨o, h1, h2⟩ := iter_spec (b := F_char_Name_l0 l) (fun i x => i ≤ x ∧ x ≤ l.length ∧ okN l l.length 0 = okN l (l.length - i) x ∧ Lib.validD (l.drop x) = true) (fun o => match o with | .inl _ => okN l l.length 0 = true | .inr b => b = false ∧ okN l l.length 0 = false) l.length (x0 := (0 : Nat)) ⟨Nat.le_refl _, Nat.zero_le _, rfl, by simpa using hval⟩
   (fun i j rec hi ⟨hij, hjl, hI, hV⟩ => by
    have es : l.length - i = (l.length - (i + 1)) + 1 := by omega
    rw [es, okN] at hI
    unfold F_char_Name_l0
    by_cases hj : j < l.length
    ·obtain ⟨d1, d2, d3, d4⟩ := dec_bytes l j hj
     obtain ⟨r1, r2⟩ := dec_at l j
     have hne : l.drop j ≠ [] := by intro h; have := congrArg List.length h; simp at this; omega
     rw [Lib.validD_step _ hne] at hV
     have hb : badR (decodeL (l.drop j)) = false := by
      unfold badR
      apply decide_eq_false
      intro h; rw [if_pos h] at hV; cases hV
     rw [if_neg (of_decide_eq_false hb), List.drop_drop] at hV
     rw [if_pos hj, hb] at hI
     simp only [letJ]
     rw [decide_eq_true hj, cond_true]
     simp only [r1, r2, F_isPart, F_isStart, Option.bind_some]
     have ez : (((j : Nat) : Int) == (0 : Int)) = decide (j = 0) := by
      rw [Bool.eq_iff_iff]; simp only [beq_iff_eq, decide_eq_true_eq]; omega
     rw [ez]
     cases hp : partP ((decodeL (l.drop j)).1 : Int)
     ·rw [hp] at hI
      refine .inr ⟨.inr false, ?_, rfl, by simpa using hI⟩
      cases decide (j = 0) <;> cases startP ((decodeL (l.drop j)).1 : Int) <;> rfl
     ·rw [hp] at hI
      cases hd0 : decide (j = 0)
      ·rw [hd0] at hI
       exact .inl ⟨j + (decodeL (l.drop j)).2, rfl, by omega, d2, by simpa using hI, hV⟩
      ·rw [hd0] at hI
       cases hs : startP ((decodeL (l.drop j)).1 : Int)
       ·rw [hs] at hI
        exact .inr ⟨.inr false, rfl, rfl, by simpa using hI⟩
       ·rw [hs] at hI
        exact .inl ⟨j + (decodeL (l.drop j)).2, rfl, by omega, d2, by simpa using hI, hV⟩
    ·rw [if_neg hj] at hI
     rw [decide_eq_false hj, cond_false]
     exact .inr ⟨.inl (), rfl, hI⟩)
   (fun j rec ⟨hij, hjl, hI, hV⟩ => ⟨.inl (), by
    unfold F_char_Name_l0
    rw [decide_eq_false (by omega), cond_false], by show okN l l.length 0 = true; rw [hI, Nat.sub_self]; rfl⟩) (n := FUEL) (by unfold FUEL; omega)
  rw [h1, Option.bind_some]
  cases o with
  | inl u => simp only at h2; rw [h2]
  | inr b => obtain ⟨rfl, h3⟩ := h2; rw [h3]
def sk (P : UInt8 → Bool) (s : List UInt8) (i : Nat) : Nat := i + ((s.drop i).takeWhile P).length
theorem sk_le (P : UInt8 → Bool) (s : List UInt8) (i : Nat) (h : i ≤ s.length) : i ≤ sk P s i ∧ sk P s i ≤ s.length := by
 unfold sk
 have := (List.takeWhile_sublist P (l := s.drop i)).length_le
 rw [List.length_drop] at this
 omega
theorem sk_end (P : UInt8 → Bool) (s : List UInt8) : sk P s s.length = s.length := by simp [sk]
theorem sk_step {P : UInt8 → Bool} {s : List UInt8} {i : Nat} (h : i < s.length) : sk P s i = if P s[i] = true then sk P s (i + 1) else i := by
 unfold sk
 rw [List.drop_eq_getElem_cons h, List.takeWhile_cons]
 split
 ·rw [List.length_cons]; omega
 ·rfl
theorem scan_loop {b : (Int → Option Int) → Int → Option Int} (P : UInt8 → Bool) (s : List UInt8)
  (hb : ∀ (rec : Int → Option Int) (i : Nat) (h : i < s.length), b rec (i : Int) = cond (P s[i]) (rec ((i + 1 : Nat) : Int)) (some (i : Int)))
  (he : ∀ rec : Int → Option Int, b rec (s.length : Int) = some (s.length : Int)) :
  ∀ (n j i : Nat), i + j = s.length → j < n → iter b n (i : Int) = some ((sk P s i : Nat) : Int)
 | 0, j, i, _, h => by omega
 | n + 1, 0, i, e, h => by
  have : i = s.length := by omega
  subst this
  show b (iter b n) _ = _
  rw [he, sk_end]
 | n + 1, j + 1, i, e, h => by
  have hi : i < s.length := by omega
  show b (iter b n) _ = _
  rw [hb _ i hi, sk_step hi]
  cases hP : P s[i] with
  | true => rw [cond_true, if_pos rfl]; exact scan_loop P s hb he n j (i + 1) (by omega) (by omega)
  | false => rw [cond_false, if_neg (by simp)]
theorem all_u8 {p : UInt8 → Bool} (h : (List.range 256).all (fun n => p (UInt8.ofNat n)) = true) (c : UInt8) : p c = true := by
 rw [List.all_eq_true] at h
 have := h c.toNat (List.mem_range.2 c.toNat_lt)
 simpa using this
theorem nat_u8 (c : UInt8) : ((c.toNat : Int)).toNat.toUInt8 = c := by simp
theorem iter_succ {σ ρ : Type} (b : (σ → Option ρ) → σ → Option ρ) (n : Nat) (x : σ) : iter b (n + 1) x = b (iter b n) x := rfl
theorem iter_two {σ τ ρ ψ : Type} {b : (σ → Option ρ) → σ → Option ρ} {c : (τ → Option ψ) → τ → Option ψ} (μ : σ → Nat) (I : σ → τ → Prop) (R : ρ → ψ → Prop)
  (step : ∀ x y, I x y → (∃ x' y', (∀ rec, b rec x = rec x') ∧ (∀ rec, c rec y = rec y') ∧ I x' y' ∧ μ x' < μ x) ∨ (∃ o q, (∀ rec, b rec x = some o) ∧ (∀ rec, c rec y = some q) ∧ R o q)) :
  ∀ (n m : Nat) (x : σ) (y : τ), I x y → μ x < n → μ x < m → ∃ o q, iter b n x = some o ∧ iter c m y = some q ∧ R o q
 | 0, _, x, y, _, h, _ => by omega
 | _ + 1, 0, x, y, _, _, h => by omega
 | n + 1, m + 1, x, y, hI, h1, h2 => by
  rcases step x y hI with ⟨x', y', e1, e2, hI', hm⟩ | ⟨o, q, e1, e2, hR⟩
  ·obtain ⟨o, q, g1, g2, hR⟩ := iter_two μ I R step n m x' y' hI' (by omega) (by omega)
   exact ⟨o, q, by show b (iter b n) x = _; rw [e1, g1], by show c (iter c m) y = _; rw [e2, g2], hR⟩
  ·exact ⟨o, q, e1 _, e2 _, hR⟩
end Go.Proofs.YtfokkdofcekdbaaGreatDoor
namespace Go.Proofs.YtfokkdofcekdbaaGreatDoor
open Go.Lib (decodeL decodeN)
def readN (n b0 b1 b2 b3 : Nat) : Int × Int :=
 if b0 < 128 then (b0, 1)
 else if 192 ≤ b0 ∧ b0 < 224 then
  (if n < 2 then (0, 0) else if b1 < 128 ∨ 191 < b1 then (0, 0) else
   if (64 * ((b0 : Int) - 192) + b1 - 128 < 128 ∨ 1114111 < 64 * ((b0 : Int) - 192) + b1 - 128) ∨ (55296 ≤ 64 * ((b0 : Int) - 192) + b1 - 128 ∧ 64 * ((b0 : Int) - 192) + b1 - 128 ≤ 57343) then (0, 0) else (64 * ((b0 : Int) - 192) + b1 - 128, 2))
 else if 224 ≤ b0 ∧ b0 < 240 then
  (if n < 3 then (0, 0) else if b1 < 128 ∨ 191 < b1 then (0, 0) else if b2 < 128 ∨ 191 < b2 then (0, 0) else
   if (64 * (64 * ((b0 : Int) - 224) + b1 - 128) + b2 - 128 < 2048 ∨ 1114111 < 64 * (64 * ((b0 : Int) - 224) + b1 - 128) + b2 - 128) ∨ (55296 ≤ 64 * (64 * ((b0 : Int) - 224) + b1 - 128) + b2 - 128 ∧ 64 * (64 * ((b0 : Int) - 224) + b1 - 128) + b2 - 128 ≤ 57343) then (0, 0) else (64 * (64 * ((b0 : Int) - 224) + b1 - 128) + b2 - 128, 3))
 else if 240 ≤ b0 ∧ b0 < 248 then
  (if n < 4 then (0, 0) else if b1 < 128 ∨ 191 < b1 then (0, 0) else if b2 < 128 ∨ 191 < b2 then (0, 0) else if b3 < 128 ∨ 191 < b3 then (0, 0) else
   if (64 * (64 * (64 * ((b0 : Int) - 240) + b1 - 128) + b2 - 128) + b3 - 128 < 65536 ∨ 1114111 < 64 * (64 * (64 * ((b0 : Int) - 240) + b1 - 128) + b2 - 128) + b3 - 128) ∨ (55296 ≤ 64 * (64 * (64 * ((b0 : Int) - 240) + b1 - 128) + b2 - 128) + b3 - 128 ∧ 64 * (64 * (64 * ((b0 : Int) - 240) + b1 - 128) + b2 - 128) + b3 - 128 ≤ 57343) then (0, 0) else (64 * (64 * (64 * ((b0 : Int) - 240) + b1 - 128) + b2 - 128) + b3 - 128, 4))
 else (0, 0)
theorem readN_eq (n b0 b1 b2 b3 : Nat) (hn : 1 ≤ n) (h0 : b0 < 256) (h1 : b1 < 256) (h2 : b2 < 256) (h3 : b3 < 256) :
  readN n b0 b1 b2 b3 = if badR (decodeN n b0 b1 b2 b3) then (0, 0) else (((decodeN n b0 b1 b2 b3).1 : Int), ((decodeN n b0 b1 b2 b3).2 : Int)) := by
 have key : (decodeN n b0 b1 b2 b3).1 = 65533 ∧ (decodeN n b0 b1 b2 b3).2 = 1 ∧ readN n b0 b1 b2 b3 = (0, 0) ∨ ((decodeN n b0 b1 b2 b3).2 ≠ 1 ∨ (decodeN n b0 b1 b2 b3).1 ≠ 65533) ∧ readN n b0 b1 b2 b3 = (((decodeN n b0 b1 b2 b3).1 : Int), ((decodeN n b0 b1 b2 b3).2 : Int)) := by
  by_cases c0 : b0 < 128
  ·right
   have hD : decodeN n b0 b1 b2 b3 = (b0, 1) := by unfold decodeN; rw [if_pos c0]
   have hR : readN n b0 b1 b2 b3 = ((b0 : Int), 1) := by unfold readN; rw [if_pos c0]
   rw [hD, hR]; exact ⟨.inr (by simp only; omega), rfl⟩
  by_cases c1 : b0 < 192 ∨ 248 ≤ b0
  ·
   left
   have hD : decodeN n b0 b1 b2 b3 = (65533, 1) := by unfold decodeN; rw [if_neg (show ¬ (b0 < 128) by omega), if_neg (show ¬ (b0 / 32 = 6 ∧ (1 < n ∧ b1 / 64 = 2)) by omega), if_neg (show ¬ (b0 / 16 = 14 ∧ (1 < n ∧ b1 / 64 = 2) ∧ (2 < n ∧ b2 / 64 = 2)) by omega), if_neg (show ¬ (b0 / 8 = 30 ∧ (1 < n ∧ b1 / 64 = 2) ∧ (2 < n ∧ b2 / 64 = 2) ∧ (3 < n ∧ b3 / 64 = 2)) by omega)]
   have hR : readN n b0 b1 b2 b3 = (0, 0) := by unfold readN; rw [if_neg (show ¬ (b0 < 128) by omega), if_neg (show ¬ (192 ≤ b0 ∧ b0 < 224) by omega), if_neg (show ¬ (224 ≤ b0 ∧ b0 < 240) by omega), if_neg (show ¬ (240 ≤ b0 ∧ b0 < 248) by omega)]
   rw [hD, hR]; exact ⟨rfl, rfl, rfl⟩
  by_cases c2 : b0 < 224
  ·
   by_cases g : b0 / 32 = 6 ∧ (1 < n ∧ b1 / 64 = 2)
   ·
    by_cases g2 : b0 % 32 * 64 + b1 % 64 ≥ 128
    ·
     right
     have hD : decodeN n b0 b1 b2 b3 = (b0 % 32 * 64 + b1 % 64, 2) := by unfold decodeN; rw [if_neg (show ¬ (b0 < 128) by omega), if_pos g, if_pos g2]
     have hR : readN n b0 b1 b2 b3 = (64 * ((b0 : Int) - 192) + b1 - 128, 2) := by unfold readN; rw [if_neg (show ¬ (b0 < 128) by omega), if_pos (show 192 ≤ b0 ∧ b0 < 224 by omega), if_neg (show ¬ (n < 2) by omega), if_neg (show ¬ (b1 < 128 ∨ 191 < b1) by omega), if_neg (show ¬ ((64 * ((b0 : Int) - 192) + b1 - 128 < 128 ∨ 1114111 < 64 * ((b0 : Int) - 192) + b1 - 128) ∨ (55296 ≤ 64 * ((b0 : Int) - 192) + b1 - 128 ∧ 64 * ((b0 : Int) - 192) + b1 - 128 ≤ 57343)) by omega)]
     rw [hD, hR]; exact ⟨.inl (by simp only; omega), by simp only [Prod.mk.injEq]; omega⟩
    ·
     left
     have hD : decodeN n b0 b1 b2 b3 = (65533, 1) := by unfold decodeN; rw [if_neg (show ¬ (b0 < 128) by omega), if_pos g, if_neg g2]
     have hR : readN n b0 b1 b2 b3 = (0, 0) := by unfold readN; rw [if_neg (show ¬ (b0 < 128) by omega), if_pos (show 192 ≤ b0 ∧ b0 < 224 by omega), if_neg (show ¬ (n < 2) by omega), if_neg (show ¬ (b1 < 128 ∨ 191 < b1) by omega), if_pos (show (64 * ((b0 : Int) - 192) + b1 - 128 < 128 ∨ 1114111 < 64 * ((b0 : Int) - 192) + b1 - 128) ∨ (55296 ≤ 64 * ((b0 : Int) - 192) + b1 - 128 ∧ 64 * ((b0 : Int) - 192) + b1 - 128 ≤ 57343) by omega)]
     rw [hD, hR]; exact ⟨rfl, rfl, rfl⟩
   ·
    by_cases g3 : n < 2
    ·
     left
     have hD : decodeN n b0 b1 b2 b3 = (65533, 1) := by unfold decodeN; rw [if_neg (show ¬ (b0 < 128) by omega), if_neg g, if_neg (show ¬ (b0 / 16 = 14 ∧ (1 < n ∧ b1 / 64 = 2) ∧ (2 < n ∧ b2 / 64 = 2)) by omega), if_neg (show ¬ (b0 / 8 = 30 ∧ (1 < n ∧ b1 / 64 = 2) ∧ (2 < n ∧ b2 / 64 = 2) ∧ (3 < n ∧ b3 / 64 = 2)) by omega)]
     have hR : readN n b0 b1 b2 b3 = (0, 0) := by unfold readN; rw [if_neg (show ¬ (b0 < 128) by omega), if_pos (show 192 ≤ b0 ∧ b0 < 224 by omega), if_pos g3]
     rw [hD, hR]; exact ⟨rfl, rfl, rfl⟩
    have f1 : b1 < 128 ∨ 191 < b1 := by omega
    left
    have hD : decodeN n b0 b1 b2 b3 = (65533, 1) := by unfold decodeN; rw [if_neg (show ¬ (b0 < 128) by omega), if_neg g, if_neg (show ¬ (b0 / 16 = 14 ∧ (1 < n ∧ b1 / 64 = 2) ∧ (2 < n ∧ b2 / 64 = 2)) by omega), if_neg (show ¬ (b0 / 8 = 30 ∧ (1 < n ∧ b1 / 64 = 2) ∧ (2 < n ∧ b2 / 64 = 2) ∧ (3 < n ∧ b3 / 64 = 2)) by omega)]
    have hR : readN n b0 b1 b2 b3 = (0, 0) := by unfold readN; rw [if_neg (show ¬ (b0 < 128) by omega), if_pos (show 192 ≤ b0 ∧ b0 < 224 by omega), if_neg g3, if_pos f1]
    rw [hD, hR]; exact ⟨rfl, rfl, rfl⟩
  by_cases c3 : b0 < 240
  ·
   by_cases g : b0 / 16 = 14 ∧ (1 < n ∧ b1 / 64 = 2) ∧ (2 < n ∧ b2 / 64 = 2)
   ·
    by_cases g2 : b0 % 16 * 4096 + b1 % 64 * 64 + b2 % 64 ≥ 2048 ∧ (b0 % 16 * 4096 + b1 % 64 * 64 + b2 % 64 < 55296 ∨ (57344 ≤ b0 % 16 * 4096 + b1 % 64 * 64 + b2 % 64 ∧ b0 % 16 * 4096 + b1 % 64 * 64 + b2 % 64 ≤ 1114111))
    ·
     right
     have hD : decodeN n b0 b1 b2 b3 = (b0 % 16 * 4096 + b1 % 64 * 64 + b2 % 64, 3) := by unfold decodeN; rw [if_neg (show ¬ (b0 < 128) by omega), if_neg (show ¬ (b0 / 32 = 6 ∧ (1 < n ∧ b1 / 64 = 2)) by omega), if_pos g, if_pos g2]
     have hR : readN n b0 b1 b2 b3 = (64 * (64 * ((b0 : Int) - 224) + b1 - 128) + b2 - 128, 3) := by unfold readN; rw [if_neg (show ¬ (b0 < 128) by omega), if_neg (show ¬ (192 ≤ b0 ∧ b0 < 224) by omega), if_pos (show 224 ≤ b0 ∧ b0 < 240 by omega), if_neg (show ¬ (n < 3) by omega), if_neg (show ¬ (b1 < 128 ∨ 191 < b1) by omega), if_neg (show ¬ (b2 < 128 ∨ 191 < b2) by omega), if_neg (show ¬ ((64 * (64 * ((b0 : Int) - 224) + b1 - 128) + b2 - 128 < 2048 ∨ 1114111 < 64 * (64 * ((b0 : Int) - 224) + b1 - 128) + b2 - 128) ∨ (55296 ≤ 64 * (64 * ((b0 : Int) - 224) + b1 - 128) + b2 - 128 ∧ 64 * (64 * ((b0 : Int) - 224) + b1 - 128) + b2 - 128 ≤ 57343)) by omega)]
     rw [hD, hR]; exact ⟨.inl (by simp only; omega), by simp only [Prod.mk.injEq]; omega⟩
    ·
     left
     have hD : decodeN n b0 b1 b2 b3 = (65533, 1) := by unfold decodeN; rw [if_neg (show ¬ (b0 < 128) by omega), if_neg (show ¬ (b0 / 32 = 6 ∧ (1 < n ∧ b1 / 64 = 2)) by omega), if_pos g, if_neg g2]
     have hR : readN n b0 b1 b2 b3 = (0, 0) := by unfold readN; rw [if_neg (show ¬ (b0 < 128) by omega), if_neg (show ¬ (192 ≤ b0 ∧ b0 < 224) by omega), if_pos (show 224 ≤ b0 ∧ b0 < 240 by omega), if_neg (show ¬ (n < 3) by omega), if_neg (show ¬ (b1 < 128 ∨ 191 < b1) by omega), if_neg (show ¬ (b2 < 128 ∨ 191 < b2) by omega), if_pos (show (64 * (64 * ((b0 : Int) - 224) + b1 - 128) + b2 - 128 < 2048 ∨ 1114111 < 64 * (64 * ((b0 : Int) - 224) + b1 - 128) + b2 - 128) ∨ (55296 ≤ 64 * (64 * ((b0 : Int) - 224) + b1 - 128) + b2 - 128 ∧ 64 * (64 * ((b0 : Int) - 224) + b1 - 128) + b2 - 128 ≤ 57343) by omega)]
     rw [hD, hR]; exact ⟨rfl, rfl, rfl⟩
   ·
    by_cases g3 : n < 3
    ·
     left
     have hD : decodeN n b0 b1 b2 b3 = (65533, 1) := by unfold decodeN; rw [if_neg (show ¬ (b0 < 128) by omega), if_neg (show ¬ (b0 / 32 = 6 ∧ (1 < n ∧ b1 / 64 = 2)) by omega), if_neg g, if_neg (show ¬ (b0 / 8 = 30 ∧ (1 < n ∧ b1 / 64 = 2) ∧ (2 < n ∧ b2 / 64 = 2) ∧ (3 < n ∧ b3 / 64 = 2)) by omega)]
     have hR : readN n b0 b1 b2 b3 = (0, 0) := by unfold readN; rw [if_neg (show ¬ (b0 < 128) by omega), if_neg (show ¬ (192 ≤ b0 ∧ b0 < 224) by omega), if_pos (show 224 ≤ b0 ∧ b0 < 240 by omega), if_pos g3]
     rw [hD, hR]; exact ⟨rfl, rfl, rfl⟩
    by_cases f1 : b1 < 128 ∨ 191 < b1
    ·
     left
     have hD : decodeN n b0 b1 b2 b3 = (65533, 1) := by unfold decodeN; rw [if_neg (show ¬ (b0 < 128) by omega), if_neg (show ¬ (b0 / 32 = 6 ∧ (1 < n ∧ b1 / 64 = 2)) by omega), if_neg g, if_neg (show ¬ (b0 / 8 = 30 ∧ (1 < n ∧ b1 / 64 = 2) ∧ (2 < n ∧ b2 / 64 = 2) ∧ (3 < n ∧ b3 / 64 = 2)) by omega)]
     have hR : readN n b0 b1 b2 b3 = (0, 0) := by unfold readN; rw [if_neg (show ¬ (b0 < 128) by omega), if_neg (show ¬ (192 ≤ b0 ∧ b0 < 224) by omega), if_pos (show 224 ≤ b0 ∧ b0 < 240 by omega), if_neg g3, if_pos f1]
     rw [hD, hR]; exact ⟨rfl, rfl, rfl⟩
    have f2 : b2 < 128 ∨ 191 < b2 := by omega
    left
    have hD : decodeN n b0 b1 b2 b3 = (65533, 1) := by unfold decodeN; rw [if_neg (show ¬ (b0 < 128) by omega), if_neg (show ¬ (b0 / 32 = 6 ∧ (1 < n ∧ b1 / 64 = 2)) by omega), if_neg g, if_neg (show ¬ (b0 / 8 = 30 ∧ (1 < n ∧ b1 / 64 = 2) ∧ (2 < n ∧ b2 / 64 = 2) ∧ (3 < n ∧ b3 / 64 = 2)) by omega)]
    have hR : readN n b0 b1 b2 b3 = (0, 0) := by unfold readN; rw [if_neg (show ¬ (b0 < 128) by omega), if_neg (show ¬ (192 ≤ b0 ∧ b0 < 224) by omega), if_pos (show 224 ≤ b0 ∧ b0 < 240 by omega), if_neg g3, if_neg f1, if_pos f2]
    rw [hD, hR]; exact ⟨rfl, rfl, rfl⟩
  by_cases c4 : b0 < 248
  ·
   by_cases g : b0 / 8 = 30 ∧ (1 < n ∧ b1 / 64 = 2) ∧ (2 < n ∧ b2 / 64 = 2) ∧ (3 < n ∧ b3 / 64 = 2)
   ·
    by_cases g2 : b0 % 8 * 262144 + b1 % 64 * 4096 + b2 % 64 * 64 + b3 % 64 ≥ 65536 ∧ (b0 % 8 * 262144 + b1 % 64 * 4096 + b2 % 64 * 64 + b3 % 64 < 55296 ∨ (57344 ≤ b0 % 8 * 262144 + b1 % 64 * 4096 + b2 % 64 * 64 + b3 % 64 ∧ b0 % 8 * 262144 + b1 % 64 * 4096 + b2 % 64 * 64 + b3 % 64 ≤ 1114111))
    ·
     right
     have hD : decodeN n b0 b1 b2 b3 = (b0 % 8 * 262144 + b1 % 64 * 4096 + b2 % 64 * 64 + b3 % 64, 4) := by unfold decodeN; rw [if_neg (show ¬ (b0 < 128) by omega), if_neg (show ¬ (b0 / 32 = 6 ∧ (1 < n ∧ b1 / 64 = 2)) by omega), if_neg (show ¬ (b0 / 16 = 14 ∧ (1 < n ∧ b1 / 64 = 2) ∧ (2 < n ∧ b2 / 64 = 2)) by omega), if_pos g, if_pos g2]
     have hR : readN n b0 b1 b2 b3 = (64 * (64 * (64 * ((b0 : Int) - 240) + b1 - 128) + b2 - 128) + b3 - 128, 4) := by unfold readN; rw [if_neg (show ¬ (b0 < 128) by omega), if_neg (show ¬ (192 ≤ b0 ∧ b0 < 224) by omega), if_neg (show ¬ (224 ≤ b0 ∧ b0 < 240) by omega), if_pos (show 240 ≤ b0 ∧ b0 < 248 by omega), if_neg (show ¬ (n < 4) by omega), if_neg (show ¬ (b1 < 128 ∨ 191 < b1) by omega), if_neg (show ¬ (b2 < 128 ∨ 191 < b2) by omega), if_neg (show ¬ (b3 < 128 ∨ 191 < b3) by omega), if_neg (show ¬ ((64 * (64 * (64 * ((b0 : Int) - 240) + b1 - 128) + b2 - 128) + b3 - 128 < 65536 ∨ 1114111 < 64 * (64 * (64 * ((b0 : Int) - 240) + b1 - 128) + b2 - 128) + b3 - 128) ∨ (55296 ≤ 64 * (64 * (64 * ((b0 : Int) - 240) + b1 - 128) + b2 - 128) + b3 - 128 ∧ 64 * (64 * (64 * ((b0 : Int) - 240) + b1 - 128) + b2 - 128) + b3 - 128 ≤ 57343)) by omega)]
     rw [hD, hR]; exact ⟨.inl (by simp only; omega), by simp only [Prod.mk.injEq]; omega⟩
    ·
     left
     have hD : decodeN n b0 b1 b2 b3 = (65533, 1) := by unfold decodeN; rw [if_neg (show ¬ (b0 < 128) by omega), if_neg (show ¬ (b0 / 32 = 6 ∧ (1 < n ∧ b1 / 64 = 2)) by omega), if_neg (show ¬ (b0 / 16 = 14 ∧ (1 < n ∧ b1 / 64 = 2) ∧ (2 < n ∧ b2 / 64 = 2)) by omega), if_pos g, if_neg g2]
     have hR : readN n b0 b1 b2 b3 = (0, 0) := by unfold readN; rw [if_neg (show ¬ (b0 < 128) by omega), if_neg (show ¬ (192 ≤ b0 ∧ b0 < 224) by omega), if_neg (show ¬ (224 ≤ b0 ∧ b0 < 240) by omega), if_pos (show 240 ≤ b0 ∧ b0 < 248 by omega), if_neg (show ¬ (n < 4) by omega), if_neg (show ¬ (b1 < 128 ∨ 191 < b1) by omega), if_neg (show ¬ (b2 < 128 ∨ 191 < b2) by omega), if_neg (show ¬ (b3 < 128 ∨ 191 < b3) by omega), if_pos (show (64 * (64 * (64 * ((b0 : Int) - 240) + b1 - 128) + b2 - 128) + b3 - 128 < 65536 ∨ 1114111 < 64 * (64 * (64 * ((b0 : Int) - 240) + b1 - 128) + b2 - 128) + b3 - 128) ∨ (55296 ≤ 64 * (64 * (64 * ((b0 : Int) - 240) + b1 - 128) + b2 - 128) + b3 - 128 ∧ 64 * (64 * (64 * ((b0 : Int) - 240) + b1 - 128) + b2 - 128) + b3 - 128 ≤ 57343) by omega)]
     rw [hD, hR]; exact ⟨rfl, rfl, rfl⟩
   ·
    by_cases g3 : n < 4
    ·
     left
     have hD : decodeN n b0 b1 b2 b3 = (65533, 1) := by unfold decodeN; rw [if_neg (show ¬ (b0 < 128) by omega), if_neg (show ¬ (b0 / 32 = 6 ∧ (1 < n ∧ b1 / 64 = 2)) by omega), if_neg (show ¬ (b0 / 16 = 14 ∧ (1 < n ∧ b1 / 64 = 2) ∧ (2 < n ∧ b2 / 64 = 2)) by omega), if_neg g]
     have hR : readN n b0 b1 b2 b3 = (0, 0) := by unfold readN; rw [if_neg (show ¬ (b0 < 128) by omega), if_neg (show ¬ (192 ≤ b0 ∧ b0 < 224) by omega), if_neg (show ¬ (224 ≤ b0 ∧ b0 < 240) by omega), if_pos (show 240 ≤ b0 ∧ b0 < 248 by omega), if_pos g3]
     rw [hD, hR]; exact ⟨rfl, rfl, rfl⟩
    by_cases f1 : b1 < 128 ∨ 191 < b1
    ·
     left
     have hD : decodeN n b0 b1 b2 b3 = (65533, 1) := by unfold decodeN; rw [if_neg (show ¬ (b0 < 128) by omega), if_neg (show ¬ (b0 / 32 = 6 ∧ (1 < n ∧ b1 / 64 = 2)) by omega), if_neg (show ¬ (b0 / 16 = 14 ∧ (1 < n ∧ b1 / 64 = 2) ∧ (2 < n ∧ b2 / 64 = 2)) by omega), if_neg g]
     have hR : readN n b0 b1 b2 b3 = (0, 0) := by unfold readN; rw [if_neg (show ¬ (b0 < 128) by omega), if_neg (show ¬ (192 ≤ b0 ∧ b0 < 224) by omega), if_neg (show ¬ (224 ≤ b0 ∧ b0 < 240) by omega), if_pos (show 240 ≤ b0 ∧ b0 < 248 by omega), if_neg g3, if_pos f1]
     rw [hD, hR]; exact ⟨rfl, rfl, rfl⟩
    by_cases f2 : b2 < 128 ∨ 191 < b2
    ·
     left
     have hD : decodeN n b0 b1 b2 b3 = (65533, 1) := by unfold decodeN; rw [if_neg (show ¬ (b0 < 128) by omega), if_neg (show ¬ (b0 / 32 = 6 ∧ (1 < n ∧ b1 / 64 = 2)) by omega), if_neg (show ¬ (b0 / 16 = 14 ∧ (1 < n ∧ b1 / 64 = 2) ∧ (2 < n ∧ b2 / 64 = 2)) by omega), if_neg g]
     have hR : readN n b0 b1 b2 b3 = (0, 0) := by unfold readN; rw [if_neg (show ¬ (b0 < 128) by omega), if_neg (show ¬ (192 ≤ b0 ∧ b0 < 224) by omega), if_neg (show ¬ (224 ≤ b0 ∧ b0 < 240) by omega), if_pos (show 240 ≤ b0 ∧ b0 < 248 by omega), if_neg g3, if_neg f1, if_pos f2]
     rw [hD, hR]; exact ⟨rfl, rfl, rfl⟩
    have f3 : b3 < 128 ∨ 191 < b3 := by omega
    left
    have hD : decodeN n b0 b1 b2 b3 = (65533, 1) := by unfold decodeN; rw [if_neg (show ¬ (b0 < 128) by omega), if_neg (show ¬ (b0 / 32 = 6 ∧ (1 < n ∧ b1 / 64 = 2)) by omega), if_neg (show ¬ (b0 / 16 = 14 ∧ (1 < n ∧ b1 / 64 = 2) ∧ (2 < n ∧ b2 / 64 = 2)) by omega), if_neg g]
    have hR : readN n b0 b1 b2 b3 = (0, 0) := by unfold readN; rw [if_neg (show ¬ (b0 < 128) by omega), if_neg (show ¬ (192 ≤ b0 ∧ b0 < 224) by omega), if_neg (show ¬ (224 ≤ b0 ∧ b0 < 240) by omega), if_pos (show 240 ≤ b0 ∧ b0 < 248 by omega), if_neg g3, if_neg f1, if_neg f2, if_pos f3]
    rw [hD, hR]; exact ⟨rfl, rfl, rfl⟩
  exact absurd c4 (by omega)
 unfold badR
 rcases key with ⟨k1, k2, k3⟩ | ⟨k1, k2⟩
 ·rw [decide_eq_true ⟨k1, k2⟩, k3]; rfl
 ·rw [decide_eq_false (by omega), k2]; rfl
open Go.Lib (decodeL decodeN)
abbrev bt (l : List UInt8) (k : Nat) : Nat := (l.getD k 0).toNat
theorem bt_lt (l : List UInt8) (k : Nat) : bt l k < 256 := (l.getD k 0).toNat_lt
theorem idx_bt {l : List UInt8} {k : Nat} (h : k < l.length) : idx l (k : Int) = some (l.getD k 0) := by
 rw [idx_some h]; simp [List.getD, h]
theorem loop_step (l : List UInt8) (i k : Nat) (n : Int) (rec : Int × Int → Option (Int ⊕ (Int × Int))) (r : Int) (hk : (k : Int) < n) (hik : i + k < l.length) (hl : l.length ≤ 1073741824) (hr0 : 0 ≤ r) (hr1 : r ≤ 1073741824) :
  F_lecternref01_Read_l0 l (i : Int) n rec (r, (k : Int)) = if bt l (i + k) < 128 ∨ 191 < bt l (i + k) then some (.inr ((0 : Int), (0 : Int))) else rec (64 * r + (bt l (i + k) : Int) - 128, ((k + 1 : Nat) : Int)) := by
 have hb := bt_lt l (i + k)
 unfold F_lecternref01_Read_l0
 simp only
 rw [decide_eq_true hk, cond_true, w64 (x := (i : Int) + (k : Int)) (by omega) (by omega), show ((i : Int) + (k : Int)) = ((i + k : Nat) : Int) by omega, idx_bt hik, Option.bind_some]
 have e : (((l.getD (i + k) 0).toNat : Nat) : Int) = (bt l (i + k) : Int) := rfl
 rw [e, w64 (x := (bt l (i + k) : Int)) (by omega) (by omega)]
 by_cases c : bt l (i + k) < 128 ∨ 191 < bt l (i + k)
 ·rw [if_pos c]
  have : (decide ((bt l (i + k) : Int) < (128 : Int)) || decide ((191 : Int) < (bt l (i + k) : Int))) = true := by simp only [Bool.or_eq_true, decide_eq_true_eq]; omega
  rw [this, cond_true]
 ·rw [if_neg c]
  have : (decide ((bt l (i + k) : Int) < (128 : Int)) || decide ((191 : Int) < (bt l (i + k) : Int))) = false := by simp only [Bool.or_eq_false_iff, decide_eq_false_iff_not]; omega
  rw [this, cond_false, w64 (x := (64 : Int) * r) (by omega) (by omega), w64 (x := (64 : Int) * r + (bt l (i + k) : Int)) (by omega) (by omega), w64 (x := (64 : Int) * r + (bt l (i + k) : Int) - 128) (by omega) (by omega), w64 (x := (k : Int) + 1) (by omega) (by omega)]; rfl
theorem loop_end (l : List UInt8) (i : Int) (n : Int) (rec : Int × Int → Option (Int ⊕ (Int × Int))) (r : Int) : F_lecternref01_Read_l0 l i n rec (r, n) = some (.inl r) := by
 unfold F_lecternref01_Read_l0
 simp only
 rw [decide_eq_false (by omega), cond_false]
theorem loop2 (l : List UInt8) (i : Nat) (r : Int) (hik : i + 2 ≤ l.length) (hl : l.length ≤ 1073741824) (hr0 : 0 ≤ r) (hr1 : r ≤ 1000) :
  iter (F_lecternref01_Read_l0 l (i : Int) 2) FUEL (r, 1) = some (if bt l (i + 1) < 128 ∨ 191 < bt l (i + 1) then .inr (0, 0) else .inl (64 * r + (bt l (i + 1) : Int) - 128)) := by
 have key : ∀ N, iter (F_lecternref01_Read_l0 l (i : Int) 2) (N + 2) (r, ((1 : Nat) : Int)) = some (if bt l (i + 1) < 128 ∨ 191 < bt l (i + 1) then .inr (0, 0) else .inl (64 * r + (bt l (i + 1) : Int) - 128)) := fun N => by
  show F_lecternref01_Read_l0 l (i : Int) 2 (iter _ (N + 1)) (r, ((1 : Nat) : Int)) = _
  rw [loop_step l i 1 2 _ r (by omega) (by omega) hl hr0 (by omega)]
  split
  ·rfl
  ·show F_lecternref01_Read_l0 l (i : Int) 2 (iter _ N) (_, 2) = _
   rw [loop_end]
 rw [show FUEL = 18446744073709551614 + 2 from rfl]; exact key _
theorem loop3 (l : List UInt8) (i : Nat) (r : Int) (hik : i + 3 ≤ l.length) (hl : l.length ≤ 1073741824) (hr0 : 0 ≤ r) (hr1 : r ≤ 1000) :
  iter (F_lecternref01_Read_l0 l (i : Int) 3) FUEL (r, 1) = some (if bt l (i + 1) < 128 ∨ 191 < bt l (i + 1) then .inr (0, 0) else if bt l (i + 2) < 128 ∨ 191 < bt l (i + 2) then .inr (0, 0) else .inl (64 * (64 * r + (bt l (i + 1) : Int) - 128) + (bt l (i + 2) : Int) - 128)) := by
 have h1 := bt_lt l (i + 1)
 have key : ∀ N, iter (F_lecternref01_Read_l0 l (i : Int) 3) (N + 3) (r, ((1 : Nat) : Int)) = some (if bt l (i + 1) < 128 ∨ 191 < bt l (i + 1) then .inr (0, 0) else if bt l (i + 2) < 128 ∨ 191 < bt l (i + 2) then .inr (0, 0) else .inl (64 * (64 * r + (bt l (i + 1) : Int) - 128) + (bt l (i + 2) : Int) - 128)) := fun N => by
  show F_lecternref01_Read_l0 l (i : Int) 3 (iter _ (N + 2)) (r, ((1 : Nat) : Int)) = _
  rw [loop_step l i 1 3 _ r (by omega) (by omega) hl hr0 (by omega)]
  split
  ·rfl
  ·rename_i c
   show F_lecternref01_Read_l0 l (i : Int) 3 (iter _ (N + 1)) (_, ((2 : Nat) : Int)) = _
   rw [loop_step l i 2 3 _ _ (by omega) (by omega) hl (by omega) (by omega)]
   split
   ·rfl
   ·show F_lecternref01_Read_l0 l (i : Int) 3 (iter _ N) (_, 3) = _
    rw [loop_end]
 rw [show FUEL = 18446744073709551613 + 3 from rfl]; exact key _
theorem loop4 (l : List UInt8) (i : Nat) (r : Int) (hik : i + 4 ≤ l.length) (hl : l.length ≤ 1073741824) (hr0 : 0 ≤ r) (hr1 : r ≤ 1000) :
  iter (F_lecternref01_Read_l0 l (i : Int) 4) FUEL (r, 1) = some (if bt l (i + 1) < 128 ∨ 191 < bt l (i + 1) then .inr (0, 0) else if bt l (i + 2) < 128 ∨ 191 < bt l (i + 2) then .inr (0, 0) else if bt l (i + 3) < 128 ∨ 191 < bt l (i + 3) then .inr (0, 0) else .inl (64 * (64 * (64 * r + (bt l (i + 1) : Int) - 128) + (bt l (i + 2) : Int) - 128) + (bt l (i + 3) : Int) - 128)) := by
 have h1 := bt_lt l (i + 1)
 have h2 := bt_lt l (i + 2)
 have key : ∀ N, iter (F_lecternref01_Read_l0 l (i : Int) 4) (N + 4) (r, ((1 : Nat) : Int)) = some (if bt l (i + 1) < 128 ∨ 191 < bt l (i + 1) then .inr (0, 0) else if bt l (i + 2) < 128 ∨ 191 < bt l (i + 2) then .inr (0, 0) else if bt l (i + 3) < 128 ∨ 191 < bt l (i + 3) then .inr (0, 0) else .inl (64 * (64 * (64 * r + (bt l (i + 1) : Int) - 128) + (bt l (i + 2) : Int) - 128) + (bt l (i + 3) : Int) - 128)) := fun N => by
  show F_lecternref01_Read_l0 l (i : Int) 4 (iter _ (N + 3)) (r, ((1 : Nat) : Int)) = _
  rw [loop_step l i 1 4 _ r (by omega) (by omega) hl hr0 (by omega)]
  split
  ·rfl
  ·rename_i c
   show F_lecternref01_Read_l0 l (i : Int) 4 (iter _ (N + 2)) (_, ((2 : Nat) : Int)) = _
   rw [loop_step l i 2 4 _ _ (by omega) (by omega) hl (by omega) (by omega)]
   split
   ·rfl
   ·rename_i c2
    show F_lecternref01_Read_l0 l (i : Int) 4 (iter _ (N + 1)) (_, ((3 : Nat) : Int)) = _
    rw [loop_step l i 3 4 _ _ (by omega) (by omega) hl (by omega) (by omega)]
    split
    ·rfl
    ·show F_lecternref01_Read_l0 l (i : Int) 4 (iter _ N) (_, 4) = _
     rw [loop_end]
 rw [show FUEL = 18446744073709551612 + 4 from rfl]; exact key _
theorem bad3 {r least : Int} : (((decide (r < least)) || (decide ((1114111 : Int) < r))) || ((decide ((55296 : Int) ≤ r)) && (decide (r ≤ (57343 : Int))))) = decide ((r < least ∨ 1114111 < r) ∨ (55296 ≤ r ∧ r ≤ 57343)) := by
 simp only [Bool.decide_or, Bool.decide_and]
theorem F_readN (l : List UInt8) (i : Nat) (hi : i < l.length) (hl : l.length ≤ 1073741824) : F_lecternref01_Read l (i : Int) = some (readN (l.length - i) (bt l i) (bt l (i + 1)) (bt l (i + 2)) (bt l (i + 3))) := by
 have h0 := bt_lt l i
 unfold F_lecternref01_Read
 rw [idx_bt hi, Option.bind_some]
 have e : (((l.getD i 0).toNat : Nat) : Int) = (bt l i : Int) := rfl
 simp only [e, letJ, bad3]
 rw [w64 (x := (bt l i : Int)) (by omega) (by omega)]
 unfold readN
 by_cases c0 : bt l i < 128
 ·rw [if_pos c0, decide_eq_true (by omega), cond_true]
 rw [if_neg c0, decide_eq_false (show ¬ ((bt l i : Int) < 128) by omega), cond_false]
 by_cases c2 : 192 ≤ bt l i ∧ bt l i < 224
 ·rw [if_pos c2, decide_eq_true (show (192 : Int) ≤ (bt l i : Int) by omega), decide_eq_true (show (bt l i : Int) < 224 by omega), Bool.and_self, cond_true, w64 (x := (i : Int) + 2) (by omega) (by omega)]
  by_cases g : l.length - i < 2
  ·rw [if_pos g, decide_eq_true (show (l.length : Int) < (i : Int) + 2 by omega), cond_true]
  ·rw [if_neg g, decide_eq_false (show ¬ ((l.length : Int) < (i : Int) + 2) by omega), cond_false, w64 (x := (bt l i : Int) - 192) (by omega) (by omega), loop2 l i _ (by omega) hl (by omega) (by omega), Option.bind_some]
   by_cases f1 : bt l (i + 1) < 128 ∨ 191 < bt l (i + 1)
   ·rw [if_pos f1, if_pos f1]
   ·rw [if_neg f1, if_neg f1]
    simp only
    split
    ·rename_i hh; rw [decide_eq_true hh, cond_true]
    ·rename_i hh; rw [decide_eq_false hh, cond_false]
 rw [if_neg c2, show (decide ((192 : Int) ≤ (bt l i : Int)) && decide ((bt l i : Int) < 224)) = false by simp only [Bool.and_eq_false_iff, decide_eq_false_iff_not]; omega, cond_false]
 by_cases c3 : 224 ≤ bt l i ∧ bt l i < 240
 ·rw [if_pos c3, decide_eq_true (show (224 : Int) ≤ (bt l i : Int) by omega), decide_eq_true (show (bt l i : Int) < 240 by omega), Bool.and_self, cond_true, w64 (x := (i : Int) + 3) (by omega) (by omega)]
  by_cases g : l.length - i < 3
  ·rw [if_pos g, decide_eq_true (show (l.length : Int) < (i : Int) + 3 by omega), cond_true]
  ·rw [if_neg g, decide_eq_false (show ¬ ((l.length : Int) < (i : Int) + 3) by omega), cond_false, w64 (x := (bt l i : Int) - 224) (by omega) (by omega), loop3 l i _ (by omega) hl (by omega) (by omega), Option.bind_some]
   by_cases f1 : bt l (i + 1) < 128 ∨ 191 < bt l (i + 1)
   ·rw [if_pos f1, if_pos f1]
   ·rw [if_neg f1, if_neg f1]
    by_cases f2 : bt l (i + 2) < 128 ∨ 191 < bt l (i + 2)
    ·rw [if_pos f2, if_pos f2]
    ·rw [if_neg f2, if_neg f2]
     simp only
     split
     ·rename_i hh; rw [decide_eq_true hh, cond_true]
     ·rename_i hh; rw [decide_eq_false hh, cond_false]
 rw [if_neg c3, show (decide ((224 : Int) ≤ (bt l i : Int)) && decide ((bt l i : Int) < 240)) = false by simp only [Bool.and_eq_false_iff, decide_eq_false_iff_not]; omega, cond_false]
 by_cases c4 : 240 ≤ bt l i ∧ bt l i < 248
 ·rw [if_pos c4, decide_eq_true (show (240 : Int) ≤ (bt l i : Int) by omega), decide_eq_true (show (bt l i : Int) < 248 by omega), Bool.and_self, cond_true, w64 (x := (i : Int) + 4) (by omega) (by omega)]
  by_cases g : l.length - i < 4
  ·rw [if_pos g, decide_eq_true (show (l.length : Int) < (i : Int) + 4 by omega), cond_true]
  ·rw [if_neg g, decide_eq_false (show ¬ ((l.length : Int) < (i : Int) + 4) by omega), cond_false, w64 (x := (bt l i : Int) - 240) (by omega) (by omega), loop4 l i _ (by omega) hl (by omega) (by omega), Option.bind_some]
   by_cases f1 : bt l (i + 1) < 128 ∨ 191 < bt l (i + 1)
   ·rw [if_pos f1, if_pos f1]
   ·rw [if_neg f1, if_neg f1]
    by_cases f2 : bt l (i + 2) < 128 ∨ 191 < bt l (i + 2)
    ·rw [if_pos f2, if_pos f2]
    ·rw [if_neg f2, if_neg f2]
     by_cases f3 : bt l (i + 3) < 128 ∨ 191 < bt l (i + 3)
     ·rw [if_pos f3, if_pos f3]
     ·rw [if_neg f3, if_neg f3]
      simp only
      split
      ·rename_i hh; rw [decide_eq_true hh, cond_true]
      ·rename_i hh; rw [decide_eq_false hh, cond_false]
 rw [if_neg c4, show (decide ((240 : Int) ≤ (bt l i : Int)) && decide ((bt l i : Int) < 248)) = false by simp only [Bool.and_eq_false_iff, decide_eq_false_iff_not]; omega, cond_false]
theorem F_read1 (l : List UInt8) (i : Nat) (hi : i < l.length) (hl : l.length ≤ 1073741824) : F_lecternref01_Read l (i : Int) = some (if badR (decodeL (l.drop i)) then (0, 0) else (((decodeL (l.drop i)).1 : Int), ((decodeL (l.drop i)).2 : Int))) := by
 rw [F_readN l i hi hl, readN_eq _ _ _ _ _ (by omega) (bt_lt _ _) (bt_lt _ _) (bt_lt _ _) (bt_lt _ _)]
 have e := Lib.decodeL_N (l.drop i)
 simp only [getD_drop, List.length_drop] at e
 rw [e]; rfl
end Go.Proofs.YtfokkdofcekdbaaGreatDoor
namespace Go.Proofs.YtfokkdofcekdbaaGreatDoor
open Go.Lib (decodeL decodeN)
theorem slc_drop {α : Type} {l : List α} {n : Nat} (h : n ≤ l.length) : slc l (n : Int) (l.length : Int) = some (l.drop n) := by
 unfold slc; rw [if_pos (by omega)]; simp only [Int.toNat_natCast]; rw [List.take_of_length_le (by simp)]
theorem slc_take0 {α : Type} {l : List α} {n : Nat} (h : n ≤ l.length) : slc l (0 : Int) (n : Int) = some (l.take n) := by
 unfold slc; rw [if_pos (by omega)]; simp
def hereP (b : List UInt8) (i : Nat) (w : List UInt8) : Bool := w.isPrefixOf (b.drop i)
theorem isPre_take (w l : List UInt8) : w.isPrefixOf l = (decide (w.length ≤ l.length) && (l.take w.length == w)) := by
 rw [Bool.eq_iff_iff, List.isPrefixOf_iff_prefix, Bool.and_eq_true, decide_eq_true_eq, beq_iff_eq, List.prefix_iff_eq_take]
 constructor
 ·intro h
  refine ⟨?_, h.symm⟩
  have := congrArg List.length h
  rw [List.length_take] at this; omega
 ·rintro ⟨_, h⟩; exact h.symm
theorem hasPrefix_eq (l w : List UInt8) : F_bytes_HasPrefix l w = some (w.isPrefixOf l) := by
 unfold F_bytes_HasPrefix F_bytes_Equal
 simp only [letJ]
 rw [isPre_take]
 by_cases h : w.length ≤ l.length
 ·rw [decide_eq_true (show (w.length : Int) ≤ (l.length : Int) by omega), cond_true, slc_take0 h, Option.bind_some, Option.bind_some, decide_eq_true h, Bool.true_and]
 ·rw [decide_eq_false (show ¬ (w.length : Int) ≤ (l.length : Int) by omega), cond_false, decide_eq_false h, Bool.false_and]
theorem here_eq (b : List UInt8) (i : Nat) (w : List UInt8) (hi : i ≤ b.length) : F_scan_scanner_here ⟨b, (i : Int)⟩ w = some (hereP b i w) := by
 unfold F_scan_scanner_here
 dsimp only
 rw [slc_drop hi, Option.bind_some, hasPrefix_eq, Option.bind_some]; rfl
theorem hereP_len {b : List UInt8} {i : Nat} {w : List UInt8} (h : hereP b i w = true) (hi : i ≤ b.length) : i + w.length ≤ b.length := by
 unfold hereP at h
 rw [isPre_take, Bool.and_eq_true, decide_eq_true_eq, List.length_drop] at h
 omega
theorem hereP_get {b : List UInt8} {i : Nat} {c : UInt8} {w : List UInt8} (h : hereP b i (c :: w) = true) : b[i]? = some c := by
 unfold hereP at h
 rw [List.isPrefixOf_iff_prefix] at h
 obtain ⟨r, hr⟩ := h
 have : (b.drop i)[0]? = some c := by rw [← hr]; rfl
 rwa [List.getElem?_drop, Nat.add_zero] at this
theorem hereP_one {b : List UInt8} {i : Nat} {c : UInt8} : hereP b i [c] = (b[i]? == some c) := by
 unfold hereP
 by_cases hi : i < b.length
 ·rw [List.drop_eq_getElem_cons hi, List.getElem?_eq_getElem hi]
  simp only [List.isPrefixOf, Bool.and_true]
  rw [Bool.eq_iff_iff, beq_iff_eq, beq_iff_eq, Option.some.injEq]
  exact ⟨fun h => h.symm, fun h => h.symm⟩
 ·rw [List.drop_eq_nil_of_le (by omega), List.getElem?_eq_none (by omega)]; rfl
def wsP (c : UInt8) : Bool := decide ((0 : Int) ≤ Lib.indexByte [32, 9, 10, 13] c)
theorem spaces_eq (b : List UInt8) (a : Int) (i : Nat) (hi : i ≤ b.length) (hb : b.length ≤ 1073741824) : F_scan_scanner_spaces ⟨b, a⟩ (i : Int) = some ((sk wsP b i : Nat) : Int) := by
 unfold F_scan_scanner_spaces
 simp only [letJ]
 have := scan_loop (b := F_scan_scanner_spaces_l0 ⟨b, a⟩) wsP b (fun rec i h => by
  unfold F_scan_scanner_spaces_l0
  simp only [letJ]
  rw [decide_eq_true (by omega), cond_true, idx_some h, Option.bind_some]
  unfold L_IndexByte
  rw [nat_u8, Option.bind_some, w64 (by omega) (by omega)]
  rfl) (fun rec => by
  unfold F_scan_scanner_spaces_l0
  simp only [letJ]
  rw [decide_eq_false (by omega), cond_false, cond_false]) FUEL (b.length - i) i (by omega) (by unfold FUEL; omega)
 rw [this, Option.bind_some]
theorem sign_eq (b : List UInt8) (i : Nat) (w : List UInt8) (hi : i ≤ b.length) (hb : b.length ≤ 1073741824) : F_scan_scanner_sign ⟨b, (i : Int)⟩ w = some (if hereP b i w = true then (0, ⟨b, ((i + w.length : Nat) : Int)⟩) else (23, ⟨b, (i : Int)⟩)) := by
 unfold F_scan_scanner_sign
 rw [here_eq b i w hi, Option.bind_some]
 cases h : hereP b i w with
 | false => rfl
 | true =>
  have := hereP_len h hi
  dsimp only
  rw [Bool.not_true, cond_false, if_pos rfl, w64 (by omega) (by omega)]; rfl
theorem equals_sp (b : List UInt8) (i : Nat) (hi : i ≤ b.length) (hb : b.length ≤ 1073741824) : ∃ (e : Int) (j : Nat), F_scan_scanner_equals ⟨b, (i : Int)⟩ = some (e, ⟨b, (j : Int)⟩) ∧ i ≤ j ∧ j ≤ b.length := by
 obtain ⟨s1, s2⟩ := sk_le wsP b i hi
 unfold F_scan_scanner_equals
 rw [spaces_eq b _ i hi hb, Option.bind_some]
 dsimp only
 rw [sign_eq b _ _ s2 hb, Option.bind_some]
 cases h : hereP b (sk wsP b i) [61] with
 | false =>
  obtain ⟨t1, t2⟩ := sk_le wsP b _ s2
  rw [if_neg (by simp)]
  dsimp only
  rw [spaces_eq b _ _ s2 hb, Option.bind_some]
  exact ⟨23, _, rfl, by omega, t2⟩
 | true =>
  have hl := hereP_len h s2
  obtain ⟨t1, t2⟩ := sk_le wsP b _ hl
  rw [if_pos rfl]
  dsimp only
  rw [spaces_eq b _ _ hl hb, Option.bind_some]
  exact ⟨0, _, rfl, by omega, t2⟩
theorem ixB_lt (l : List UInt8) (c : UInt8) (h : 0 ≤ Lib.indexByte l c) : Lib.indexByte l c < l.length := by
 induction l with
 | nil => simp [Lib.indexByte] at h
 | cons b l ih =>
  simp only [Lib.indexByte] at h ⊢
  split
  ·rw [List.length_cons]; omega
  ·rename_i hb
   rw [if_neg hb] at h
   split at h
   ·omega
   ·rename_i h1
    rw [if_neg h1]
    have h2 := Lib.indexByte_ge l c
    have h3 : Lib.indexByte l c ≠ -1 := by simpa using h1
    have := ih (by omega)
    rw [List.length_cons]; omega
theorem ixB_nat (l : List UInt8) (c : UInt8) (h : ¬ Lib.indexByte l c < 0) : ∃ n : Nat, Lib.indexByte l c = (n : Int) ∧ n < l.length := by
 have := ixB_lt l c (by omega)
 exact ⟨(Lib.indexByte l c).toNat, by omega, by omega⟩
theorem quoted_sp (b : List UInt8) (i : Nat) (hi : i ≤ b.length) (hb : b.length ≤ 1073741824) : ∃ (v : List UInt8) (e : Int) (j : Nat), F_scan_scanner_quoted ⟨b, (i : Int)⟩ = some ((v, e), ⟨b, (j : Int)⟩) ∧ i ≤ j ∧ j ≤ b.length ∧ v.length ≤ b.length ∧ (e = 0 → i < j) := by
 have none : ∃ (v : List UInt8) (e : Int) (j : Nat), (some ((([] : List UInt8), (23 : Int)), (⟨b, (i : Int)⟩ : T_scan_scanner)) : Option (((List UInt8) × Int) × T_scan_scanner)) = some ((v, e), ⟨b, (j : Int)⟩) ∧ i ≤ j ∧ j ≤ b.length ∧ v.length ≤ b.length ∧ (e = 0 → i < j) := ⟨[], 23, i, rfl, Nat.le_refl _, hi, Nat.zero_le _, fun h => by omega⟩
 have main : i < b.length → ∃ (v : List UInt8) (e : Int) (j : Nat), ((slc b (IntKind.wrap .i64 ((i : Int) + (1 : Int))) (b.length : Int)).bind fun x7 =>
   (idx b (i : Int)).bind fun x8 =>
   (L_bIndexByte x7 (x8.toNat : Int)).bind fun x9 =>
   cond (decide (x9 < (0 : Int)))
   (some ((([] : List UInt8), (23 : Int)), (⟨b, (i : Int)⟩ : T_scan_scanner)))
   ((slc x7 (0 : Int) x9).bind fun x11 =>
   some ((x11, (0 : Int)), (⟨b, (IntKind.wrap .i64 ((i : Int) + (IntKind.wrap .i64 (x9 + (2 : Int)))))⟩ : T_scan_scanner)))) = some ((v, e), ⟨b, (j : Int)⟩) ∧ i ≤ j ∧ j ≤ b.length ∧ v.length ≤ b.length ∧ (e = 0 → i < j) := by
  intro hlt
  rw [w64 (x := (i : Int) + 1) (by omega) (by omega), show (i : Int) + 1 = ((i + 1 : Nat) : Int) by omega, slc_drop hlt, Option.bind_some, idx_some hlt, Option.bind_some]
  unfold L_bIndexByte
  rw [nat_u8, Option.bind_some]
  by_cases hn : Lib.indexByte (b.drop (i + 1)) b[i] < 0
  ·rw [decide_eq_true hn, cond_true]; exact none
  ·obtain ⟨n, e1, e2⟩ := ixB_nat _ _ hn
   rw [decide_eq_false hn, cond_false, e1, slc_take0 (Nat.le_of_lt e2), Option.bind_some]
   rw [List.length_drop] at e2
   rw [w64 (x := (n : Int) + 2) (by omega) (by omega), w64 (by omega) (by omega)]
   refine ⟨_, 0, i + (n + 2), rfl, by omega, by omega, ?_, fun _ => by omega⟩
   rw [List.length_take, List.length_drop]; omega
 unfold F_scan_scanner_quoted
 dsimp only
 rw [here_eq b i _ hi, here_eq b i _ hi, Option.bind_some]
 simp only [letJ]
 cases h1 : hereP b i [39] with
 | true =>
  have := hereP_len h1 hi
  rw [Bool.not_true, cond_false, cond_false]
  exact main (by simp at this; omega)
 | false =>
  rw [Bool.not_false, cond_true, Option.bind_some]
  cases h2 : hereP b i [34] with
  | true =>
   have := hereP_len h2 hi
   rw [Bool.not_true, cond_false]
   exact main (by simp at this; omega)
  | false => rw [Bool.not_false, cond_true]; exact none
theorem decodeRune_eq (b : List UInt8) (i : Nat) (hi : i < b.length) : L_DecodeRune (b.drop i) = some (((decodeL (b.drop i)).1 : Int), ((decodeL (b.drop i)).2 : Int)) := by
 have hne : b.drop i ≠ [] := by intro h; have := congrArg List.length h; simp at this; omega
 unfold L_DecodeRune Lib.decodeGo
 rw [if_neg hne, if_neg (by
  show ¬ ((b.drop i).toArray.size = 0)
  simp; omega)]
 rfl
theorem split_some (q : List UInt8) (hq : q.length ≤ 1073741824) : ∃ r, F_char_Split q = some r := by
 unfold F_char_Split L_Cut
 rw [if_pos (by omega), Option.bind_some]
 simp only [letJ, F_nameC, Option.bind_some]
 cases (Lib.cut q [58]).2.2 <;> cases nameP q <;> cases nameP (Lib.cut q [58]).1 <;> cases nameP (Lib.cut q [58]).2.1 <;> exact ⟨_, rfl⟩
theorem name_sp (b : List UInt8) (i : Nat) (hi : i ≤ b.length) (hb : b.length ≤ 1073741824) : ∃ (v : List UInt8) (e : Int) (j : Nat), F_scan_scanner_name ⟨b, (i : Int)⟩ = some ((v, e), ⟨b, (j : Int)⟩) ∧ i ≤ j ∧ j ≤ b.length ∧ v.length ≤ b.length ∧ (e = 0 → v ≠ [] ∧ i < j) := by
 have key : ∃ o : Int, iter (F_scan_scanner_name_l0 ⟨b, (i : Int)⟩) FUEL (i : Int) = some o ∧ ∃ j : Nat, o = (j : Int) ∧ i ≤ j ∧ j ≤ b.length := by
  refine iter_spec (b := F_scan_scanner_name_l0 ⟨b, (i : Int)⟩) (fun k x => ∃ j : Nat, x = (j : Int) ∧ i + k ≤ j ∧ j ≤ b.length) _ (b.length - i) (x0 := (i : Int)) ⟨i, rfl, by omega, hi⟩ ?_ ?_ (n := FUEL) (by unfold FUEL; omega)
  ·rintro k x rec hk ⟨j, rfl, h1, h2⟩
   unfold F_scan_scanner_name_l0
   dsimp only
   by_cases hj : j < b.length
   ·obtain ⟨d1, d2, _⟩ := dec_bytes b j hj
    rw [decide_eq_true (by omega), cond_true, slc_drop h2, Option.bind_some, decodeRune_eq b j hj, Option.bind_some]
    simp only [letJ, F_isPart, F_isStart, Option.bind_some]
    have hgo : IntKind.wrap .i64 ((j : Int) + ((decodeL (b.drop j)).2 : Int)) = ((j + (decodeL (b.drop j)).2 : Nat) : Int) := by rw [w64 (by omega) (by omega)]; omega
    rw [hgo]
    have two : ∀ c : Bool, (∃ y, cond c (some (j : Int)) (rec ((j + (decodeL (b.drop j)).2 : Nat) : Int)) = rec y ∧ ∃ j' : Nat, y = (j' : Int) ∧ i + (k + 1) ≤ j' ∧ j' ≤ b.length) ∨ (∃ o, cond c (some (j : Int)) (rec ((j + (decodeL (b.drop j)).2 : Nat) : Int)) = some o ∧ ∃ j' : Nat, o = (j' : Int) ∧ i ≤ j' ∧ j' ≤ b.length) := by
     intro c
     cases c with
     | false => exact .inl ⟨_, rfl, _, rfl, by omega, d2⟩
     | true => exact .inr ⟨_, rfl, j, rfl, by omega, h2⟩
    cases ((decodeL (b.drop j)).1 : Int) != 58 with
    | false => exact two false
    | true =>
     cases partP ((decodeL (b.drop j)).1 : Int) with
     | false => exact two true
     | true =>
      cases ((j : Int) == (i : Int)) with
      | false => exact two false
      | true => exact two (!startP ((decodeL (b.drop j)).1 : Int))
   ·rw [decide_eq_false (by omega), cond_false]
    exact .inr ⟨_, rfl, j, rfl, by omega, h2⟩
  ·rintro x rec ⟨j, rfl, h1, h2⟩
   have : j = b.length := by omega
   subst this
   unfold F_scan_scanner_name_l0
   dsimp only
   rw [decide_eq_false (by omega), cond_false]
   exact ⟨_, rfl, _, rfl, hi, Nat.le_refl _⟩
 obtain ⟨o, e1, j, rfl, h1, h2⟩ := key
 unfold F_scan_scanner_name
 simp only [letJ]
 rw [e1, Option.bind_some]
 have hsl : slc b (i : Int) (j : Int) = some ((b.drop i).take (j - i)) := by
  unfold slc; rw [if_pos (by omega)]; simp only [Int.toNat_natCast]
 rw [hsl, Option.bind_some]
 have hlen : ((b.drop i).take (j - i)).length = j - i := by rw [List.length_take, List.length_drop]; omega
 generalize (b.drop i).take (j - i) = w at hlen
 by_cases hw : w = []
 ·rw [show (w == []) = true by simp [hw], cond_true]
  exact ⟨[], 23, i, rfl, Nat.le_refl _, hi, Nat.zero_le _, fun h => by omega⟩
 ·obtain ⟨r, hr⟩ := split_some w (by omega)
  rw [show (w == []) = false by simp [hw], cond_false, hr, Option.bind_some]
  cases r.2.2 with
  | false => exact ⟨[], 24, i, rfl, Nat.le_refl _, hi, Nat.zero_le _, fun h => by omega⟩
  | true =>
   have : 0 < w.length := List.length_pos_iff.2 hw
   exact ⟨w, 0, j, rfl, h1, h2, by omega, fun _ => ⟨hw, by omega⟩⟩
end Go.Proofs.YtfokkdofcekdbaaGreatDoor
namespace Go.Proofs.YtfokkdofcekdbaaGreatDoor
open Go.Lib (decodeL decodeN)
theorem iter_dec {σ ρ : Type} {b : (σ → Option ρ) → σ → Option ρ} (μ : σ → Nat) (I : σ → Prop) (R : ρ → Prop)
  (step : ∀ x, I x → (∃ y, (∀ rec, b rec x = rec y) ∧ I y ∧ μ y < μ x) ∨ (∃ o, (∀ rec, b rec x = some o) ∧ R o)) :
  ∀ (n : Nat) (x : σ), I x → μ x < n → ∃ o, iter b n x = some o ∧ R o
 | 0, x, _, h => by omega
 | n + 1, x, hI, h1 => by
  rcases step x hI with ⟨y, e1, hI', hm⟩ | ⟨o, e1, hR⟩
  ·obtain ⟨o, g1, hR⟩ := iter_dec μ I R step n y hI' (by omega)
   exact ⟨o, by show b (iter b n) x = _; rw [e1, g1], hR⟩
  ·exact ⟨o, e1 _, hR⟩
theorem eqf_l2 (p0 p1 : List UInt8) (h0 : p0.length ≤ 1073741824) (h1 : p1.length ≤ 1073741824) : ∃ o, iter (F_strings_EqualFold_l2 p0 p1) FUEL (0 : Int) = some o ∧
  (∀ a, o = .inr (.inl a) → ∃ (i : Nat) (g0 : i < p0.length) (g1 : i < p1.length), a = (i : Int) ∧ (128 : Int) ≤ ior .u8 (p0[i].toNat : Int) (p1[i].toNat : Int)) := by
 refine iter_dec (b := F_strings_EqualFold_l2 p0 p1) (fun x => p0.length - x.toNat) (fun x => ∃ i : Nat, x = (i : Int) ∧ i ≤ p0.length) _ ?_ FUEL (0 : Int) ⟨0, rfl, Nat.zero_le _⟩ (by unfold FUEL; omega)
 rintro _ ⟨i, rfl, hi⟩
 by_cases hlt : i < p0.length ∧ i < p1.length
 ·obtain ⟨g0, g1⟩ := hlt
  have hmin : decide ((i : Int) < (if (p1.length : Int) < (p0.length : Int) then (p1.length : Int) else (p0.length : Int))) = true := by
   apply decide_eq_true; split <;> omega
  have hb : ∀ rec, F_strings_EqualFold_l2 p0 p1 rec (i : Int) = cond (decide ((128 : Int) ≤ (ior .u8 (p0[i].toNat : Int) (p1[i].toNat : Int))))
    (some (.inr (.inl (i : Int)))) (cond ((p1[i].toNat : Int) == (p0[i].toNat : Int)) (rec ((i + 1 : Nat) : Int))
     (cond (decide ((p1[i].toNat : Int) < (p0[i].toNat : Int)))
      (cond (((decide ((65 : Int) ≤ (p1[i].toNat : Int))) && (decide ((p1[i].toNat : Int) ≤ (90 : Int)))) && ((p0[i].toNat : Int) == (IntKind.wrap .u8 ((IntKind.wrap .u8 ((p1[i].toNat : Int) + (97 : Int))) - (65 : Int))))) (rec ((i + 1 : Nat) : Int)) (some (.inr (.inr false))))
      (cond (((decide ((65 : Int) ≤ (p0[i].toNat : Int))) && (decide ((p0[i].toNat : Int) ≤ (90 : Int)))) && ((p1[i].toNat : Int) == (IntKind.wrap .u8 ((IntKind.wrap .u8 ((p0[i].toNat : Int) + (97 : Int))) - (65 : Int))))) (rec ((i + 1 : Nat) : Int)) (some (.inr (.inr false)))))) := by
   intro rec
   unfold F_strings_EqualFold_l2
   simp only [letJ]
   rw [hmin, cond_true, idx_some g0, Option.bind_some, idx_some g1, Option.bind_some, w64 (by omega) (by omega)]
   rfl
  have go : ∃ y : Int, y = ((i + 1 : Nat) : Int) ∧ (∃ i : Nat, y = (i : Int) ∧ i ≤ p0.length) ∧ p0.length - y.toNat < p0.length - ((i : Nat) : Int).toNat := ⟨_, rfl, ⟨_, rfl, g0⟩, by omega⟩
  obtain ⟨y, hy, hI, hm⟩ := go
  cases c1 : decide ((128 : Int) ≤ (ior .u8 (p0[i].toNat : Int) (p1[i].toNat : Int))) with
  | true =>
   right
   exact ⟨.inr (.inl (i : Int)), fun rec => by rw [hb, c1, cond_true], fun a ha => by
    injection ha with ha; injection ha with ha
    exact ⟨i, g0, g1, ha.symm, of_decide_eq_true c1⟩⟩
  | false =>
   have fin : ∀ o : Unit ⊕ Int ⊕ Bool, o = .inr (.inr false) → ∀ a, o = .inr (.inl a) → ∃ (i : Nat) (g0 : i < p0.length) (g1 : i < p1.length), a = (i : Int) ∧ (128 : Int) ≤ ior .u8 (p0[i].toNat : Int) (p1[i].toNat : Int) := by
    rintro o rfl a ha; cases ha
   cases c2 : ((p1[i].toNat : Int) == (p0[i].toNat : Int)) with
   | true => exact .inl ⟨y, fun rec => by rw [hb, c1, cond_false, c2, cond_true, hy], hI, hm⟩
   | false =>
    cases c3 : decide ((p1[i].toNat : Int) < (p0[i].toNat : Int)) with
    | true =>
     cases c4 : (((decide ((65 : Int) ≤ (p1[i].toNat : Int))) && (decide ((p1[i].toNat : Int) ≤ (90 : Int)))) && ((p0[i].toNat : Int) == (IntKind.wrap .u8 ((IntKind.wrap .u8 ((p1[i].toNat : Int) + (97 : Int))) - (65 : Int))))) with
     | true => exact .inl ⟨y, fun rec => by rw [hb, c1, cond_false, c2, cond_false, c3, cond_true, c4, cond_true, hy], hI, hm⟩
     | false => exact .inr ⟨_, fun rec => by rw [hb, c1, cond_false, c2, cond_false, c3, cond_true, c4, cond_false], fin _ rfl⟩
    | false =>
     cases c4 : (((decide ((65 : Int) ≤ (p0[i].toNat : Int))) && (decide ((p0[i].toNat : Int) ≤ (90 : Int)))) && ((p1[i].toNat : Int) == (IntKind.wrap .u8 ((IntKind.wrap .u8 ((p0[i].toNat : Int) + (97 : Int))) - (65 : Int))))) with
     | true => exact .inl ⟨y, fun rec => by rw [hb, c1, cond_false, c2, cond_false, c3, cond_false, c4, cond_true, hy], hI, hm⟩
     | false => exact .inr ⟨_, fun rec => by rw [hb, c1, cond_false, c2, cond_false, c3, cond_false, c4, cond_false], fin _ rfl⟩
 ·right
  have hmin : decide ((i : Int) < (if (p1.length : Int) < (p0.length : Int) then (p1.length : Int) else (p0.length : Int))) = false := by
   apply decide_eq_false; split <;> omega
  exact ⟨.inl (), fun rec => by unfold F_strings_EqualFold_l2; rw [hmin, cond_false], fun a ha => by cases ha⟩
theorem eqf_l1 (c rn : Int) (hc : c = 120 ∨ c = 109 ∨ c = 108) (hr : 128 ≤ rn) : iter (F_strings_EqualFold_l1 c rn) FUEL (c - 32) = some c := by
 obtain ⟨m, hm⟩ : ∃ m, FUEL = m + 1 + 1 := ⟨FUEL - 2, by unfold FUEL; rfl⟩
 rw [hm, iter_succ]
 unfold F_strings_EqualFold_l1
 have h1 : ((c - 32 != c) && decide (c - 32 < rn)) = true := by simp; omega
 rw [h1, cond_true]
 have h2 : L_SimpleFold (c - 32) = some c := by
  rcases hc with rfl | rfl | rfl <;> rfl
 rw [h2, Option.bind_some]
 show iter (F_strings_EqualFold_l1 c rn) (m + 1) c = some c
 rw [iter_succ]
 unfold F_strings_EqualFold_l1
 have h3 : ((c != c) && decide (c < rn)) = false := by simp
 rw [h3, cond_false]
def xmlS (l : List UInt8) : Prop := l = [120, 109, 108] ∨ l = [109, 108] ∨ l = [108] ∨ l = []
theorem eqf_l0 (s : List UInt8) (hs : s.length ≤ 1073741824) (l : List UInt8) (hl : xmlS l) : ∃ o, iter (F_strings_EqualFold_l0 s) FUEL (l, (0 : Nat)) = some o ∧ True := by
 refine iter_dec (b := F_strings_EqualFold_l0 s) (fun x => s.length - x.2) (fun x => xmlS x.1) _ ?_ FUEL (l, (0 : Nat)) hl (by unfold FUEL; dsimp only; omega)
 rintro ⟨a, p⟩ hx
 dsimp only at hx ⊢
 by_cases hp : p < s.length
 ·obtain ⟨r1, r2⟩ := dec_at s p
  obtain ⟨d1, d2, _⟩ := dec_bytes s p hp
  have hw : s.length - (p + wdS s p) < s.length - p := by rw [r2]; omega
  have core : ∀ (c : UInt8) (t : List UInt8), a = c :: t → ((c.toNat : Int) = 120 ∨ (c.toNat : Int) = 109 ∨ (c.toNat : Int) = 108) → L_DecodeRuneInString a = some ((c.toNat : Int), 1) → xmlS t →
    (∃ y : List UInt8 × Nat, (∀ rec, F_strings_EqualFold_l0 s rec (a, p) = rec y) ∧ xmlS y.1 ∧ s.length - y.2 < s.length - p) ∨ (∃ o, (∀ rec, F_strings_EqualFold_l0 s rec (a, p) = some o) ∧ True) := by
   intro c t ha hc hd ht
   have hsl : slc a (1 : Int) (a.length : Int) = some t := by rw [slc_tail (by rw [ha]; simp), ha]; rfl
   generalize hrn : rnS s p = rn at *
   have hb : ∀ rec, F_strings_EqualFold_l0 s rec (a, p) = cond ((c.toNat : Int) == rn) (rec (t, p + wdS s p)) (cond (decide ((c.toNat : Int) < rn))
     (cond (decide (rn < (128 : Int))) (cond (((decide ((65 : Int) ≤ (c.toNat : Int))) && (decide ((c.toNat : Int) ≤ (90 : Int)))) && (rn == (IntKind.wrap .i32 ((IntKind.wrap .i32 ((c.toNat : Int) + (97 : Int))) - (65 : Int))))) (rec (t, p + wdS s p)) (some (.inr false)))
      ((L_SimpleFold (c.toNat : Int)).bind fun x102 => (iter (F_strings_EqualFold_l1 (c.toNat : Int) rn) FUEL x102).bind fun o => cond (o == rn) (rec (t, p + wdS s p)) (some (.inr false))))
     (cond (decide ((c.toNat : Int) < (128 : Int))) (cond (((decide ((65 : Int) ≤ rn)) && (decide (rn ≤ (90 : Int)))) && ((c.toNat : Int) == (IntKind.wrap .i32 ((IntKind.wrap .i32 (rn + (97 : Int))) - (65 : Int))))) (rec (t, p + wdS s p)) (some (.inr false)))
      ((L_SimpleFold rn).bind fun x102 => (iter (F_strings_EqualFold_l1 rn (c.toNat : Int)) FUEL x102).bind fun o => cond (o == (c.toNat : Int)) (rec (t, p + wdS s p)) (some (.inr false))))) := by
    intro rec
    unfold F_strings_EqualFold_l0
    simp only [letJ]
    rw [decide_eq_true hp, cond_true, show ((a.length : Int) == 0) = false by rw [ha]; simp; omega, cond_false, hd, Option.bind_some]
    dsimp only
    rw [hsl, Option.bind_some, hrn]
   have two : ∀ k : Bool, (∃ y : List UInt8 × Nat, (∀ rec : List UInt8 × Nat → Option ((List UInt8) ⊕ Bool), cond k (rec (t, p + wdS s p)) (some (.inr false)) = rec y) ∧ xmlS y.1 ∧ s.length - y.2 < s.length - p) ∨ (∃ o, (∀ rec : List UInt8 × Nat → Option ((List UInt8) ⊕ Bool), cond k (rec (t, p + wdS s p)) (some (.inr false)) = some o) ∧ True) := by
    intro k
    cases k with
    | true => exact .inl ⟨(t, p + wdS s p), fun _ => rfl, ht, hw⟩
    | false => exact .inr ⟨_, fun _ => rfl, trivial⟩
   simp only [hb]
   cases ((c.toNat : Int) == rn) with
   | true => exact .inl ⟨(t, p + wdS s p), fun _ => rfl, ht, hw⟩
   | false =>
    simp only [cond_false]
    by_cases c3 : (c.toNat : Int) < rn
    ·rw [decide_eq_true c3]
     simp only [cond_true]
     by_cases c4 : rn < 128
     ·rw [decide_eq_true c4]
      simp only [cond_true]
      exact two _
     ·rw [decide_eq_false c4]
      have hf : L_SimpleFold (c.toNat : Int) = some ((c.toNat : Int) - 32) := by rcases hc with h | h | h <;> rw [h] <;> rfl
      simp only [cond_false, hf, Option.bind_some, eqf_l1 _ rn hc (by omega)]
      exact two _
    ·rw [decide_eq_false c3, decide_eq_true (show (c.toNat : Int) < 128 by omega)]
     simp only [cond_false, cond_true]
     exact two _
  rcases hx with h | h | h | h
  ·exact core 120 [109, 108] h (.inl rfl) (by rw [h]; rfl) (.inr (.inl rfl))
  ·exact core 109 [108] h (.inr (.inl rfl)) (by rw [h]; rfl) (.inr (.inr (.inl rfl)))
  ·exact core 108 [] h (.inr (.inr rfl)) (by rw [h]; rfl) (.inr (.inr (.inr rfl)))
  ·right
   refine ⟨.inr false, fun rec => ?_, trivial⟩
   unfold F_strings_EqualFold_l0
   dsimp only
   rw [decide_eq_true hp, cond_true, h]; rfl
 ·right
  refine ⟨.inl a, fun rec => ?_, trivial⟩
  unfold F_strings_EqualFold_l0
  dsimp only
  rw [decide_eq_false hp, cond_false]
theorem eqf_xml (w : List UInt8) (hw : w.length ≤ 1073741824) : ∃ r, F_strings_EqualFold w [120, 109, 108] = some r := by
 obtain ⟨o, e1, e2⟩ := eqf_l2 w [120, 109, 108] hw (by simp)
 unfold F_strings_EqualFold
 simp only [letJ]
 rw [e1, Option.bind_some]
 match o, e2 with
 | .inl _, _ => exact ⟨_, rfl⟩
 | .inr (.inr r), _ => exact ⟨_, rfl⟩
 | .inr (.inl a), e2 =>
  obtain ⟨i, g0, g1, rfl, _⟩ := e2 a rfl
  have hx : xmlS (([120, 109, 108] : List UInt8).drop i) := by
   match i, g1 with
   | 0, _ => exact .inl rfl
   | 1, _ => exact .inr (.inl rfl)
   | 2, _ => exact .inr (.inr (.inl rfl))
  dsimp only
  rw [slc_drop (Nat.le_of_lt g0), Option.bind_some, slc_drop (Nat.le_of_lt g1), Option.bind_some]
  obtain ⟨o2, f1, _⟩ := eqf_l0 (w.drop i) (by rw [List.length_drop]; omega) _ hx
  rw [f1, Option.bind_some]
  cases o2 with
  | inl q => exact ⟨_, rfl⟩
  | inr q => exact ⟨_, rfl⟩
theorem eqf_ascii (w v : List UInt8) (hw : w.length ≤ 1073741824) (hv : v.length ≤ 1073741824) (h1 : ∀ b ∈ w, b.toNat < 128) (h2 : ∀ b ∈ v, b.toNat < 128) : ∃ r, F_strings_EqualFold w v = some r := by
 obtain ⟨o, e1, e2⟩ := eqf_l2 w v hw hv
 unfold F_strings_EqualFold
 simp only [letJ]
 rw [e1, Option.bind_some]
 match o, e2 with
 | .inl _, _ => exact ⟨_, rfl⟩
 | .inr (.inr r), _ => exact ⟨_, rfl⟩
 | .inr (.inl a), e2 =>
  obtain ⟨i, g0, g1, rfl, h⟩ := e2 a rfl
  have a1 := h1 _ (List.getElem_mem g0)
  have a2 := h2 _ (List.getElem_mem g1)
  have e : ior .u8 (w[i].toNat : Int) (v[i].toNat : Int) = ((w[i].toNat ||| v[i].toNat : Nat) : Int) := u8_or_nat _ _ (by omega) (by omega)
  have := Nat.or_lt_two_pow (n := 7) a1 a2
  rw [e] at h; omega
theorem cutPrefix_eq (l w : List UInt8) : F_strings_CutPrefix l w = some (if w.isPrefixOf l = true then (l.drop w.length, true) else (l, false)) := by
 have hh : F_stringslite_HasPrefix l w = some (w.isPrefixOf l) := by
  unfold F_stringslite_HasPrefix
  simp only [letJ]
  rw [isPre_take]
  by_cases h : w.length ≤ l.length
  ·rw [decide_eq_true (show (w.length : Int) ≤ (l.length : Int) by omega), cond_true, slc_take0 h, Option.bind_some, decide_eq_true h, Bool.true_and]
  ·rw [decide_eq_false (show ¬ (w.length : Int) ≤ (l.length : Int) by omega), cond_false, decide_eq_false h, Bool.false_and]
 unfold F_strings_CutPrefix F_stringslite_CutPrefix
 rw [hh, Option.bind_some]
 cases h : w.isPrefixOf l with
 | false => rfl
 | true =>
  have h2 := h
  rw [isPre_take, Bool.and_eq_true, decide_eq_true_eq] at h2
  rw [Bool.not_true, cond_false, slc_drop h2.1]; rfl
theorem dropWhile_nil {p : UInt8 → Bool} : ∀ {l : List UInt8}, l.dropWhile p = [] → ∀ b ∈ l, p b = true
 | [], _, b, hb => by cases hb
 | c :: l, h, b, hb => by
  rw [List.dropWhile_cons] at h
  split at h
  ·rename_i hc
   rcases List.mem_cons.1 hb with rfl | hb
   ·exact hc
   ·exact dropWhile_nil h b hb
  ·cases h
theorem dropWhile_head {p : UInt8 → Bool} : ∀ {l : List UInt8}, (∀ b ∈ l.dropWhile p, p b = true) → l.dropWhile p = []
 | [], _ => rfl
 | c :: l, h => by
  rw [List.dropWhile_cons] at h ⊢
  split
  ·rename_i hc
   rw [if_pos hc] at h
   exact dropWhile_head h
  ·rename_i hc
   rw [if_neg hc] at h
   exact absurd (h c (List.mem_cons_self ..)) hc
theorem trimS_nil {l cs : List UInt8} (h : Lib.trimS l cs = []) : ∀ b ∈ l, cs.contains b = true := by
 unfold Lib.trimS Lib.trimLeftS Lib.trimRightS at h
 have h1 := dropWhile_nil h
 have h2 : l.reverse.dropWhile (cs.contains ·) = [] := dropWhile_head (fun b hb => h1 b (by rw [List.mem_reverse]; exact hb))
 have h3 := dropWhile_nil h2
 exact fun b hb => h3 b (by rw [List.mem_reverse]; exact hb)
theorem fits_sp (w v : List UInt8) (hv : v.length ≤ 1073741824) : ∃ r, F_scan_fits w v = some r ∧ (w = [101, 110, 99, 111, 100, 105, 110, 103] → r = true → ∀ b ∈ v, b.toNat < 128) := by
 unfold F_scan_fits
 by_cases c1 : w = [118, 101, 114, 115, 105, 111, 110]
 ·rw [show (w == ([118, 101, 114, 115, 105, 111, 110] : List UInt8)) = true by rw [c1]; rfl, cond_true, cutPrefix_eq, Option.bind_some]
  have hne : w ≠ [101, 110, 99, 111, 100, 105, 110, 103] := by rw [c1]; decide
  simp only [letJ]
  generalize hx : (if ([49, 46] : List UInt8).isPrefixOf v = true then (v.drop ([49, 46] : List UInt8).length, true) else (v, false)) = x
  have hxl : x.1.length ≤ 1073741824 := by
   rw [← hx]; split
   ·dsimp only; rw [List.length_drop]; omega
   ·exact hv
  have ht : L_Trim x.1 [48, 49, 50, 51, 52, 53, 54, 55, 56, 57] = some (Lib.trimS x.1 [48, 49, 50, 51, 52, 53, 54, 55, 56, 57]) := by
   unfold L_Trim; rw [if_pos ⟨by omega, by decide, by decide⟩]
  rw [ht]
  cases x.2 && !(x.1 == []) with
  | true => exact ⟨_, rfl, fun h => absurd h hne⟩
  | false => exact ⟨_, rfl, fun h => absurd h hne⟩
 ·rw [show (w == ([118, 101, 114, 115, 105, 111, 110] : List UInt8)) = false by simpa using c1, cond_false]
  by_cases c2 : w = [101, 110, 99, 111, 100, 105, 110, 103]
  ·rw [show (w == ([101, 110, 99, 111, 100, 105, 110, 103] : List UInt8)) = true by rw [c2]; rfl, cond_true]
   simp only [letJ]
   by_cases c3 : v = []
   ·rw [show (v == ([] : List UInt8)) = true by simp [c3]]
    exact ⟨false, rfl, fun _ h => by cases h⟩
   ·have hpos : 0 < v.length := List.length_pos_iff.2 c3
    rw [show (v == ([] : List UInt8)) = false by simpa using c3, Bool.not_false, cond_true, show (0 : Int) = ((0 : Nat) : Int) from rfl, idx_some hpos, Option.bind_some]
    unfold L_IndexByte
    rw [nat_u8, Option.bind_some]
    cases decide (((0 : Nat) : Int) ≤ Lib.indexByte _ v[0]) with
    | false => exact ⟨false, rfl, fun _ h => by cases h⟩
    | true =>
     rw [cond_true]
     unfold L_Trim
     rw [if_pos ⟨by omega, by decide, by decide⟩, Option.bind_some]
     refine ⟨_, rfl, fun _ h b hb => ?_⟩
     have h2 := trimS_nil (eq_of_beq h) b hb
     have h3 := all_u8 (p := fun c => !(([65, 66, 67, 68, 69, 70, 71, 72, 73, 74, 75, 76, 77, 78, 79, 80, 81, 82, 83, 84, 85, 86, 87, 88, 89, 90, 97, 98, 99, 100, 101, 102, 103, 104, 105, 106, 107, 108, 109, 110, 111, 112, 113, 114, 115, 116, 117, 118, 119, 120, 121, 122, 48, 49, 50, 51, 52, 53, 54, 55, 56, 57, 46, 95, 45] : List UInt8).contains c) || decide (c.toNat < 128)) (by decide +kernel) b
     rw [h2] at h3
     simpa using h3
  ·rw [show (w == ([101, 110, 99, 111, 100, 105, 110, 103] : List UInt8)) = false by simpa using c2, cond_false]
   exact ⟨_, rfl, fun h => absurd h c2⟩
end Go.Proofs.YtfokkdofcekdbaaGreatDoor
set_option maxRecDepth 20000
namespace Go.Proofs.YtfokkdofcekdbaaGreatDoor
open Go.Lib (decodeL decodeN)
theorem index_occ : ∀ {s sub : List UInt8} {n : Nat}, Lib.index s sub = (n : Int) → sub ≠ [] → sub.isPrefixOf (s.drop n) = true ∧ n + sub.length ≤ s.length
 | [], sub, n, h, hne => by
  simp only [Lib.index] at h
  split at h
  ·rename_i he
   exact absurd (by simpa using he) hne
  ·omega
 | b :: l, sub, n, h, hne => by
  simp only [Lib.index] at h
  split at h
  ·rename_i hp
   have : n = 0 := by omega
   subst this
   have h2 := hp
   rw [isPre_take, Bool.and_eq_true, decide_eq_true_eq] at h2
   exact ⟨hp, by omega⟩
  ·split at h
   ·omega
   ·cases n with
    | zero =>
     have := Lib.index_ge l sub
     rename_i h1
     have h3 : Lib.index l sub ≠ -1 := by simpa using h1
     omega
    | succ n =>
     have := index_occ (s := l) (sub := sub) (n := n) (by omega) hne
     exact ⟨this.1, by rw [List.length_cons]; omega⟩
theorem ixB_get : ∀ {l : List UInt8} {c : UInt8} {n : Nat}, Lib.indexByte l c = (n : Int) → l[n]? = some c
 | [], c, n, h => by simp [Lib.indexByte] at h
 | b :: l, c, n, h => by
  simp only [Lib.indexByte] at h
  split at h
  ·rename_i hb
   have : n = 0 := by omega
   subst this
   have : b = c := by simpa using hb
   subst this; rfl
  ·split at h
   ·omega
   ·rename_i h1
    have := Lib.indexByte_ge l c
    have h3 : Lib.indexByte l c ≠ -1 := by simpa using h1
    cases n with
    | zero => omega
    | succ n =>
     have := ixB_get (l := l) (c := c) (n := n) (by omega)
     simpa using this
theorem digit_some (c : Int) : ∃ r, F_refer_digit c = some r := by
 unfold F_refer_digit
 cases (decide ((48 : Int) ≤ c)) && (decide (c ≤ (57 : Int))) with
 | true => exact ⟨_, rfl⟩
 | false =>
  cases (decide ((97 : Int) ≤ c)) && (decide (c ≤ (102 : Int))) with
  | true => exact ⟨_, rfl⟩
  | false => cases (decide ((65 : Int) ≤ c)) && (decide (c ≤ (70 : Int))) <;> exact ⟨_, rfl⟩
theorem meant_l0 (a : List UInt8) (k : Int) (ha : a.length ≤ 1073741824) : ∃ o, iter (F_refer_meant_l0 a k) FUEL ((0 : Int), (0 : Int)) = some o ∧ True := by
 refine iter_spec (b := F_refer_meant_l0 a k) (fun i x => ∃ n : Int, x = (n, (i : Int))) _ a.length (x0 := ((0 : Int), (0 : Int))) ⟨0, rfl⟩ ?_ ?_ (n := FUEL) (by unfold FUEL; omega)
 ·rintro i x rec hi ⟨n, rfl⟩
  obtain ⟨r, hr⟩ := digit_some (a[i].toNat : Int)
  unfold F_refer_meant_l0
  dsimp only
  rw [decide_eq_true (by omega), cond_true, idx_some hi, Option.bind_some, hr, Option.bind_some]
  cases decide (k ≤ r) with
  | true => exact .inr ⟨_, rfl, trivial⟩
  | false =>
   rw [cond_false, w64 (x := (i : Int) + 1) (by omega) (by omega)]
   exact .inl ⟨_, rfl, _, rfl⟩
 ·rintro x rec ⟨n, rfl⟩
  unfold F_refer_meant_l0
  dsimp only
  rw [decide_eq_false (by omega), cond_false]
  exact ⟨_, rfl, trivial⟩
theorem meant_some (s : List UInt8) (hs : s.length ≤ 1073741824) : ∃ r, F_refer_meant s = some r := by
 unfold F_refer_meant
 cases s == ([108, 116] : List UInt8) with
 | true => exact ⟨_, rfl⟩
 | false =>
 cases s == ([103, 116] : List UInt8) with
 | true => exact ⟨_, rfl⟩
 | false =>
 cases s == ([97, 109, 112] : List UInt8) with
 | true => exact ⟨_, rfl⟩
 | false =>
 cases s == ([97, 112, 111, 115] : List UInt8) with
 | true => exact ⟨_, rfl⟩
 | false =>
 cases s == ([113, 117, 111, 116] : List UInt8) with
 | true => exact ⟨_, rfl⟩
 | false =>
  simp only [cond_false]
  rw [cutPrefix_eq, Option.bind_some]
  generalize hx : (if ([35] : List UInt8).isPrefixOf s = true then (s.drop ([35] : List UInt8).length, true) else (s, false)) = x
  have hxl : x.1.length ≤ 1073741824 := by
   rw [← hx]; split
   ·dsimp only; rw [List.length_drop]; omega
   ·exact hs
  simp only [letJ]
  rw [cutPrefix_eq, Option.bind_some]
  generalize hy : (if ([120] : List UInt8).isPrefixOf x.1 = true then (x.1.drop ([120] : List UInt8).length, true) else (x.1, false)) = y
  have hyl : y.1.length ≤ 1073741824 := by
   rw [← hy]; split
   ·dsimp only; rw [List.length_drop]; omega
   ·exact hxl
  have core : ∀ (a : List UInt8) (k : Int), a.length ≤ 1073741824 → ∃ r : Int × Int, cond ((!x.2) || (a == ([] : List UInt8))) (some ((0 : Int), (22 : Int))) ((iter (F_refer_meant_l0 a k) FUEL ((0 : Int), (0 : Int))).bind fun o => match o with
    | .inl o1 => (F_char_IsChar (IntKind.wrap .i32 o1)).bind fun x34 => cond (!x34) (some ((0 : Int), (21 : Int))) (some ((IntKind.wrap .i32 o1), (0 : Int)))
    | .inr o1 => some o1) = some r := by
   intro a k ha
   cases (!x.2) || (a == ([] : List UInt8)) with
   | true => exact ⟨_, rfl⟩
   | false =>
    obtain ⟨o, e, _⟩ := meant_l0 a k ha
    rw [cond_false, e, Option.bind_some]
    cases o with
    | inr q => exact ⟨_, rfl⟩
    | inl q =>
     dsimp only
     rw [F_isChar, Option.bind_some]
     cases charP (IntKind.wrap .i32 q) <;> exact ⟨_, rfl⟩
  cases y.2 with
  | true => exact core y.1 16 hyl
  | false => exact core x.1 10 hxl
theorem expand_sp (p : List UInt8) (i : Nat) (hi : i < p.length) (hp : p.length ≤ 1073741824) : ∃ (r n e : Int), F_refer_Expand p (i : Int) = some (r, n, e) ∧ (e = 0 → ∃ m : Nat, n = (m : Int) ∧ i < m ∧ m ≤ p.length) := by
 unfold F_refer_Expand
 simp only [letJ]
 rw [decide_eq_false (show ¬ (i : Int) < 0 by omega), decide_eq_false (show ¬ (p.length : Int) ≤ (i : Int) by omega), show (false || false) = false from rfl, cond_false, idx_some hi, Option.bind_some]
 by_cases h38 : (p[i].toNat : Int) = 38
 ·rw [show ((p[i].toNat : Int) != 38) = false by simpa using h38, cond_false, slc_drop (Nat.le_of_lt hi), Option.bind_some]
  unfold L_bIndexByte
  rw [Option.bind_some]
  by_cases hn : Lib.indexByte (p.drop i) (59 : Int).toNat.toUInt8 < 0
  ·rw [decide_eq_true hn, cond_true]
   exact ⟨_, _, _, rfl, fun h => by cases h⟩
  ·obtain ⟨n, e1, e2⟩ := ixB_nat _ _ hn
   have hg := ixB_get e1
   have hn0 : n ≠ 0 := by
    intro h0
    subst h0
    rw [List.getElem?_drop, Nat.add_zero, List.getElem?_eq_getElem hi] at hg
    injection hg with hg
    rw [hg] at h38
    exact absurd h38 (by decide)
   rw [List.length_drop] at e2
   rw [decide_eq_false hn, cond_false, e1, w64 (x := (i : Int) + 1) (by omega) (by omega), w64 (x := (i : Int) + (n : Int)) (by omega) (by omega)]
   have hsl : slc p ((i : Int) + 1) ((i : Int) + (n : Int)) = some ((p.drop (i + 1)).take (n - 1)) := by
    unfold slc; rw [if_pos (by omega)]
    rw [show ((i : Int) + 1).toNat = i + 1 by omega, show ((i : Int) + (n : Int)).toNat - (i + 1) = n - 1 by omega]
   rw [hsl, Option.bind_some]
   obtain ⟨r, hr⟩ := meant_some ((p.drop (i + 1)).take (n - 1)) (by rw [List.length_take, List.length_drop]; omega)
   rw [hr, Option.bind_some]
   by_cases h2 : r.2 = 0
   ·rw [show (r.2 != 0) = false by simpa using h2, cond_false, w64 (by omega) (by omega)]
    exact ⟨_, _, _, rfl, fun _ => ⟨i + n + 1, by omega, by omega, by omega⟩⟩
   ·rw [show (r.2 != 0) = true by simpa using h2, cond_true]
    exact ⟨_, _, _, rfl, fun h => absurd h h2⟩
 ·rw [show ((p[i].toNat : Int) != 38) = true by simpa using h38, cond_true]
  exact ⟨_, _, _, rfl, fun h => by cases h⟩
theorem enc_len (r : Int) : (Utf8.encode r).data.toList.length ≤ 4 := by
 have h : (Utf8.encode r).data.size ≤ 4 := encode_size_le r
 rw [Array.length_toList]; exact h
theorem read_some (p : List UInt8) (v : Bool) (hp : p.length ≤ 1073741824) : ∃ r, F_refer_read p v = some r := by
 obtain ⟨o, e, _⟩ := iter_dec (b := F_refer_read_l0 p v) (fun x => p.length - x.2.toNat) (fun x => ∃ (l : List UInt8) (i : Nat), x = (l, (i : Int)) ∧ i ≤ p.length ∧ l.length ≤ 4 * i) (fun _ => True) (by
  rintro _ ⟨l, i, rfl, hi, hl⟩
  by_cases hlt : i < p.length
  ·obtain ⟨d1, d2, _⟩ := dec_bytes p i hlt
   have hnext := F_next p i hlt hp
   have J : ∀ (c : Int) (m : Nat), i < m → m ≤ p.length → ∃ y : List UInt8 × Int, (∀ rec : List UInt8 × Int → Option ((List UInt8) ⊕ ((List UInt8) × Int × Int)), ((app 1 l (Utf8.encode c).data.toList).bind fun _ => rec ((l ++ (Utf8.encode c).data.toList), (m : Int))) = rec y) ∧ (∃ (l : List UInt8) (i : Nat), y = (l, (i : Int)) ∧ i ≤ p.length ∧ l.length ≤ 4 * i) ∧ p.length - y.2.toNat < p.length - i := by
    intro c m h1 h2
    have := enc_len c
    refine ⟨(l ++ (Utf8.encode c).data.toList, (m : Int)), fun rec => ?_, ⟨_, m, rfl, h2, by rw [List.length_append]; omega⟩, by dsimp only; omega⟩
    rw [app_some (by omega) (by omega), Option.bind_some]
   have hbody : ∀ rec, F_refer_read_l0 p v rec (l, (i : Int)) = (F_char_Next p (i : Int)).bind fun x63 => cond (x63.2.2 != (0 : Int)) (some (.inr (([] : List UInt8), (i : Int), x63.2.2)))
     (cond (x63.1 == (60 : Int)) (some (.inr (([] : List UInt8), (i : Int), (23 : Int)))) (cond ((!v) && ([93, 93, 62] : List UInt8).isPrefixOf (p.drop i)) (some (.inr (([] : List UInt8), (i : Int), (23 : Int))))
      (cond (x63.1 == (38 : Int)) ((F_refer_Expand p (i : Int)).bind fun x101 => cond (x101.2.2 != (0 : Int)) (some (.inr (([] : List UInt8), (i : Int), x101.2.2))) ((app 1 l (Utf8.encode x101.1).data.toList).bind fun _ => rec ((l ++ (Utf8.encode x101.1).data.toList), x101.2.1)))
       (cond (v && (((x63.1 == (9 : Int)) || (x63.1 == (10 : Int))) || (x63.1 == (13 : Int)))) ((app 1 l (Utf8.encode 32).data.toList).bind fun _ => rec ((l ++ (Utf8.encode 32).data.toList), x63.2.1)) ((app 1 l (Utf8.encode x63.1).data.toList).bind fun _ => rec ((l ++ (Utf8.encode x63.1).data.toList), x63.2.1)))))) := by
    intro rec
    unfold F_refer_read_l0
    simp only [letJ]
    rw [decide_eq_true (by omega), cond_true]
    congr 1
    funext x63
    cases x63.2.2 != (0 : Int) with
    | true => rfl
    | false =>
     cases x63.1 == (60 : Int) with
     | true => rfl
     | false =>
      cases v with
      | true => rfl
      | false =>
       simp only [cond_false, Bool.not_false, cond_true, slc_drop hi, Option.bind_some, hasPrefix_eq, Bool.true_and]
   simp only [hbody, hnext, Option.bind_some]
   cases badR (decodeL (p.drop i)) with
   | true => exact .inr ⟨_, fun _ => rfl, trivial⟩
   | false =>
    simp only [Bool.false_eq_true, if_false]
    cases charP ((decodeL (p.drop i)).1 : Int) with
    | false => exact .inr ⟨_, fun _ => rfl, trivial⟩
    | true =>
     simp only [if_true]
     rw [show (((0 : Int)) != 0) = false from rfl]
     simp only [cond_false]
     cases (((decodeL (p.drop i)).1 : Int) == (60 : Int)) with
     | true => exact .inr ⟨_, fun _ => rfl, trivial⟩
     | false =>
      cases ((!v) && ([93, 93, 62] : List UInt8).isPrefixOf (p.drop i)) with
      | true => exact .inr ⟨_, fun _ => rfl, trivial⟩
      | false =>
       simp only [cond_false]
       cases (((decodeL (p.drop i)).1 : Int) == (38 : Int)) with
       | true =>
        obtain ⟨r, n, e, he, hm⟩ := expand_sp p i hlt hp
        simp only [cond_true, he, Option.bind_some]
        by_cases h0 : e = 0
        ·obtain ⟨m, hnm, h1, h2⟩ := hm h0
         rw [show (e != 0) = false by simpa using h0]
         simp only [cond_false, hnm]
         obtain ⟨y, y1, y2, y3⟩ := J r m h1 h2
         exact .inl ⟨y, y1, y2, by rw [Int.toNat_natCast]; exact y3⟩
        ·rw [show (e != 0) = true by simpa using h0]
         exact .inr ⟨_, fun _ => rfl, trivial⟩
       | false =>
        simp only [cond_false]
        cases (v && (((((decodeL (p.drop i)).1 : Int) == (9 : Int)) || (((decodeL (p.drop i)).1 : Int) == (10 : Int))) || (((decodeL (p.drop i)).1 : Int) == (13 : Int)))) with
        | true =>
         simp only [cond_true]
         obtain ⟨y, y1, y2, y3⟩ := J 32 (i + (decodeL (p.drop i)).2) (by omega) d2
         exact .inl ⟨y, y1, y2, by rw [Int.toNat_natCast]; exact y3⟩
        | false =>
         simp only [cond_false]
         obtain ⟨y, y1, y2, y3⟩ := J ((decodeL (p.drop i)).1 : Int) (i + (decodeL (p.drop i)).2) (by omega) d2
         exact .inl ⟨y, y1, y2, by rw [Int.toNat_natCast]; exact y3⟩
  ·right
   refine ⟨.inl l, fun rec => ?_, trivial⟩
   unfold F_refer_read_l0
   dsimp only
   rw [decide_eq_false (by omega), cond_false]) FUEL (([] : List UInt8), (0 : Int)) ⟨[], 0, rfl, Nat.zero_le _, by simp⟩ (by unfold FUEL; dsimp only; omega)
 unfold F_refer_read
 simp only [letJ]
 rw [e, Option.bind_some]
 cases o <;> exact ⟨_, rfl⟩
abbrev Tk := T_scan_Token
def nmP (l : List T_scan_Pair) : List (List UInt8) := l.map (·.Name)
def namedP (t : Tk) : Bool := ((((t.Kind == (2 : Int)) || (t.Kind == (3 : Int))) || (t.Kind == (4 : Int))) || (t.Kind == (8 : Int)))
structure TokOk (b : List UInt8) (i : Nat) (t : Tk) (j : Nat) : Prop where
 lt : i < j
 at_ : t.At = (i : Int)
 nm : namedP t = !(t.Name == [])
 nd : (nmP t.Pairs).Nodup
 txt : t.Kind = 5 → b[i]? ≠ some 60 ∧ (j = b.length ∨ b[j]? = some 60)
 oth : t.Kind ≠ 5 → b[i]? = some 60
 dec : t.Kind = 1 → i = 0
 len : t.Pairs.length ≤ b.length + 3
def TokR (b : List UInt8) (i : Nat) (x : Int × T_scan_scanner × Tk) : Prop := ∃ (e : Int) (j : Nat) (t : Tk), x = (e, ⟨b, (j : Int)⟩, t) ∧ j ≤ b.length ∧ (e = 0 → TokOk b i t j)
theorem upTo_sp (b : List UInt8) (i k : Nat) (t : Tk) (w : List UInt8) (hw : w ≠ []) (hi : i + k ≤ b.length) (hb : b.length ≤ 1073741824) (hwl : w.length ≤ 100) : ∃ (e : Int) (j : Nat) (x : List UInt8), F_scan_scanner_upTo ⟨b, (i : Int)⟩ t (k : Int) w = some (e, ⟨b, (j : Int)⟩, ⟨t.Kind, t.At, t.Name, t.Pairs, x, t.Refs⟩) ∧ j ≤ b.length ∧ (e = 0 → i + k < j) := by
 unfold F_scan_scanner_upTo
 dsimp only
 rw [w64 (x := (i : Int) + (k : Int)) (by omega) (by omega), show (i : Int) + (k : Int) = ((i + k : Nat) : Int) by omega, slc_drop hi, Option.bind_some]
 unfold L_bIndex
 rw [if_pos ⟨by rw [List.length_drop]; omega, by omega, hw⟩, Option.bind_some]
 by_cases hn : Lib.index (b.drop (i + k)) w < 0
 ·rw [decide_eq_true hn, cond_true]
  exact ⟨23, i, t.Text, rfl, by omega, fun h => by cases h⟩
 ·have hge := Lib.index_ge (b.drop (i + k)) w
  obtain ⟨n, e1⟩ : ∃ n : Nat, Lib.index (b.drop (i + k)) w = (n : Int) := ⟨(Lib.index (b.drop (i + k)) w).toNat, by omega⟩
  obtain ⟨_, e2⟩ := index_occ e1 hw
  have hwp : 0 < w.length := List.length_pos_iff.2 hw
  rw [List.length_drop] at e2
  rw [decide_eq_false hn, cond_false, e1, slc_take0 (by rw [List.length_drop]; omega), Option.bind_some, w64 (x := (k : Int) + (n : Int)) (by omega) (by omega), w64 (x := (k : Int) + (n : Int) + (w.length : Int)) (by omega) (by omega), w64 (by omega) (by omega)]
  exact ⟨0, i + (k + n + w.length), _, rfl, by omega, fun _ => by omega⟩
end Go.Proofs.YtfokkdofcekdbaaGreatDoor
set_option maxRecDepth 20000
namespace Go.Proofs.YtfokkdofcekdbaaGreatDoor
open Go.Lib (decodeL decodeN)
theorem ne_nil_beq {l : List UInt8} (h : l ≠ []) : (l == ([] : List UInt8)) = false := by simpa using h
theorem text_sp (b : List UInt8) (i : Nat) (t : Tk) (hi : i < b.length) (hb : b.length ≤ 1073741824) (h60 : hereP b i [60] = false) (ht : t.At = (i : Int)) (hn : t.Name = []) (hp : t.Pairs = []) : ∃ x, F_scan_scanner_text ⟨b, (i : Int)⟩ t = some x ∧ TokR b i x := by
 have hne : b[i]? ≠ some 60 := by
  rw [hereP_one] at h60
  intro h; rw [h] at h60; simp at h60
 have core : ∀ (a : List UInt8) (n : Nat), a.length = n → 0 < n → i + n ≤ b.length → (i + n = b.length ∨ b[i + n]? = some 60) → ∃ x, ((F_refer_ReadText a).bind fun x10 =>
  (L_bCount a ([38] : List UInt8)).bind fun x13 =>
  some (x10.2.2, (⟨b, (IntKind.wrap .i64 ((i : Int) + (a.length : Int)))⟩ : T_scan_scanner), (⟨(5 : Int), t.At, t.Name, t.Pairs, x10.1, x13⟩ : T_scan_Token))) = some x ∧ TokR b i x := by
  intro a n ha h0 hle hend
  obtain ⟨r, hr⟩ := read_some a false (by omega)
  unfold F_refer_ReadText
  rw [hr, Option.bind_some, Option.bind_some]
  unfold L_bCount
  rw [Option.bind_some, ha, w64 (by omega) (by omega)]
  refine ⟨_, rfl, r.2.2, i + n, ⟨5, t.At, t.Name, t.Pairs, r.1, ((Lib.countByte a 38 : Nat) : Int)⟩, by simp, hle, fun _ => ⟨by omega, ht, ?_, ?_, fun _ => ⟨hne, hend⟩, fun h => absurd rfl h, fun h => (by cases h), by show t.Pairs.length ≤ _; rw [hp]; exact Nat.zero_le _⟩⟩
  ·show (false : Bool) = !(t.Name == []); rw [hn]; rfl
  ·show (nmP t.Pairs).Nodup; rw [hp]; exact List.nodup_nil
 unfold F_scan_scanner_text
 dsimp only
 rw [slc_drop (Nat.le_of_lt hi), Option.bind_some]
 simp only [letJ]
 unfold L_bIndexByte
 rw [Option.bind_some]
 by_cases hx : Lib.indexByte (b.drop i) (60 : Int).toNat.toUInt8 < 0
 ·rw [decide_eq_false (by omega), cond_false]
  exact core (b.drop i) (b.length - i) (by simp) (by omega) (by omega) (.inl (by omega))
 ·obtain ⟨n, e1, e2⟩ := ixB_nat _ _ hx
  have hg := ixB_get e1
  rw [List.getElem?_drop] at hg
  have h60' : ((60 : Int).toNat.toUInt8) = 60 := by decide
  rw [h60'] at hg
  have hn0 : n ≠ 0 := fun h => by subst h; exact hne hg
  rw [List.length_drop] at e2
  rw [decide_eq_true (by omega), cond_true, e1, slc_take0 (by rw [List.length_drop]; omega), Option.bind_some]
  exact core ((b.drop i).take n) n (by rw [List.length_take, List.length_drop]; omega) (by omega) (by omega) (.inr hg)
theorem closing_sp (b : List UInt8) (i : Nat) (t : Tk) (hi : i + 2 ≤ b.length) (hb : b.length ≤ 1073741824) (h60 : b[i]? = some 60) (ht : t.At = (i : Int)) (hp : t.Pairs = []) : ∃ x, F_scan_scanner_closing ⟨b, (i : Int)⟩ t = some x ∧ TokR b i x := by
 unfold F_scan_scanner_closing
 dsimp only
 rw [w64 (x := (i : Int) + 2) (by omega) (by omega), show (i : Int) + 2 = ((i + 2 : Nat) : Int) by omega]
 obtain ⟨v, e, j, h1, h2, h3, h4, h5⟩ := name_sp b (i + 2) hi hb
 rw [h1, Option.bind_some]
 dsimp only
 by_cases he : e = 0
 ·obtain ⟨h6, h7⟩ := h5 he
  obtain ⟨s1, s2⟩ := sk_le wsP b j h3
  rw [show (e != 0) = false by simpa using he, cond_false, spaces_eq b _ j h3 hb, Option.bind_some, sign_eq b _ _ s2 hb, Option.bind_some]
  cases hh : hereP b (sk wsP b j) [62] with
  | false => exact ⟨_, rfl, 23, _, _, rfl, s2, fun h => (by cases h)⟩
  | true =>
   have := hereP_len hh s2
   refine ⟨_, rfl, 0, sk wsP b j + 1, ⟨3, t.At, v, t.Pairs, t.Text, t.Refs⟩, rfl, by simpa using this, fun _ => ⟨by omega, ht, ?_, ?_, fun h => (by cases h), fun _ => h60, fun h => (by cases h), by show t.Pairs.length ≤ _; rw [hp]; exact Nat.zero_le _⟩⟩
   ·show (true : Bool) = !(v == []); rw [ne_nil_beq h6]; rfl
   ·show (nmP t.Pairs).Nodup; rw [hp]; exact List.nodup_nil
 ·rw [show (e != 0) = true by simpa using he, cond_true]
  exact ⟨_, rfl, e, j, _, rfl, h3, fun h => absurd h he⟩
theorem instr_sp (b : List UInt8) (i : Nat) (t : Tk) (hi : i + 2 ≤ b.length) (hb : b.length ≤ 1073741824) (h60 : b[i]? = some 60) (ht : t.At = (i : Int)) (hp : t.Pairs = []) : ∃ x, F_scan_scanner_instr ⟨b, (i : Int)⟩ t = some x ∧ TokR b i x := by
 unfold F_scan_scanner_instr
 dsimp only
 rw [w64 (x := (i : Int) + 2) (by omega) (by omega), show (i : Int) + 2 = ((i + 2 : Nat) : Int) by omega]
 obtain ⟨v, e, j, h1, h2, h3, h4, h5⟩ := name_sp b (i + 2) hi hb
 rw [h1, Option.bind_some]
 dsimp only
 by_cases he : e = 0
 ·obtain ⟨h6, h7⟩ := h5 he
  rw [show (e != 0) = false by simpa using he, cond_false, F_nameC, Option.bind_some]
  cases nameP v with
  | false => exact ⟨_, rfl, 24, j, _, rfl, h3, fun h => (by cases h)⟩
  | true =>
   obtain ⟨r, hr⟩ := eqf_xml v (by omega)
   rw [Bool.not_true, cond_false, hr, Option.bind_some]
   cases r with
   | true => exact ⟨_, rfl, 29, j, _, rfl, h3, fun h => (by cases h)⟩
   | false =>
    rw [cond_false, here_eq b j _ h3, Option.bind_some]
    have okT : ∀ (k : Nat) (tx : List UInt8), i < k → TokOk b i ⟨8, t.At, v, t.Pairs, tx, t.Refs⟩ k := fun k tx hk => ⟨hk, ht, by show (true : Bool) = !(v == []); rw [ne_nil_beq h6]; rfl, by show (nmP t.Pairs).Nodup; rw [hp]; exact List.nodup_nil, fun h => (by cases h), fun _ => h60, fun h => (by cases h), by show t.Pairs.length ≤ _; rw [hp]; exact Nat.zero_le _⟩
    cases hh : hereP b j [63, 62] with
    | true =>
     have := hereP_len hh h3
     rw [cond_true, sign_eq b _ _ h3 hb, hh, if_pos rfl, Option.bind_some]
     exact ⟨_, rfl, 0, j + 2, _, rfl, by simpa using this, fun _ => okT _ _ (by omega)⟩
    | false =>
     obtain ⟨s1, s2⟩ := sk_le wsP b j h3
     rw [cond_false, spaces_eq b _ j h3 hb, Option.bind_some]
     cases ((sk wsP b j : Nat) : Int) == (j : Int) with
     | true => exact ⟨_, rfl, 23, j, _, rfl, h3, fun h => (by cases h)⟩
     | false =>
      obtain ⟨e2, k, x, u1, u2, u3⟩ := upTo_sp b (sk wsP b j) 0 ⟨8, t.At, v, t.Pairs, t.Text, t.Refs⟩ [63, 62] (by simp) (by omega) hb (by simp)
      rw [cond_false, show (0 : Int) = ((0 : Nat) : Int) from rfl, u1, Option.bind_some]
      exact ⟨_, rfl, e2, k, _, rfl, u2, fun h => okT _ _ (by have := u3 h; omega)⟩
 ·rw [show (e != 0) = true by simpa using he, cond_true]
  exact ⟨_, rfl, e, j, _, rfl, h3, fun h => absurd h he⟩
theorem tag_l1 (k At : Int) (Nm : List UInt8) (ps : List T_scan_Pair) (Tx : List UInt8) (rf : Int) (x27 x31 : ((List UInt8) × Int) × T_scan_scanner) (hl : ps.length ≤ 1073741824) :
  ∃ o, iter (F_scan_scanner_tag_l1 k At Nm ps Tx rf x27 x31) FUEL (0 : Int) = some o ∧ ((o = .inl () ∧ ∀ p ∈ ps, p.Name ≠ x27.1.1) ∨ o = .inr ((27 : Int), x31.2, ⟨k, At, Nm, ps, Tx, rf⟩)) := by
 refine iter_spec (b := F_scan_scanner_tag_l1 k At Nm ps Tx rf x27 x31) (fun i x => x = (i : Int) ∧ ∀ p ∈ ps.take i, p.Name ≠ x27.1.1) _ ps.length (x0 := (0 : Int)) ⟨rfl, by simp⟩ ?_ ?_ (n := FUEL) (by unfold FUEL; omega)
 ·rintro i _ rec hi ⟨rfl, hI⟩
  unfold F_scan_scanner_tag_l1
  rw [decide_eq_true (by omega), cond_true, idx_some hi, Option.bind_some]
  by_cases h : ps[i].Name = x27.1.1
  ·rw [show (ps[i].Name == x27.1.1) = true by simpa using h, cond_true]
   exact .inr ⟨_, rfl, .inr rfl⟩
  ·rw [show (ps[i].Name == x27.1.1) = false by simpa using h, cond_false, w64 (by omega) (by omega)]
   refine .inl ⟨((i + 1 : Nat) : Int), rfl, rfl, fun p hp => ?_⟩
   rw [List.take_add_one, List.getElem?_eq_getElem hi, Option.toList_some, List.mem_append, List.mem_singleton] at hp
   rcases hp with hp | rfl
   ·exact hI p hp
   ·exact h
 ·rintro _ rec ⟨rfl, hI⟩
  unfold F_scan_scanner_tag_l1
  rw [decide_eq_false (by omega), cond_false]
  rw [List.take_length] at hI
  exact ⟨_, rfl, .inl ⟨rfl, hI⟩⟩
theorem tag_sp (b : List UInt8) (i : Nat) (t : Tk) (hi : i + 1 ≤ b.length) (hb : b.length ≤ 65536) (h60 : b[i]? = some 60) (ht : t.At = (i : Int)) (hp : t.Pairs = []) : ∃ x, F_scan_scanner_tag ⟨b, (i : Int)⟩ t = some x ∧ TokR b i x := by
 have hb' : b.length ≤ 1073741824 := by omega
 unfold F_scan_scanner_tag
 dsimp only
 rw [w64 (x := (i : Int) + 1) (by omega) (by omega), show (i : Int) + 1 = ((i + 1 : Nat) : Int) by omega]
 obtain ⟨v, e, j, h1, h2, h3, h4, h5⟩ := name_sp b (i + 1) hi hb'
 rw [h1, Option.bind_some]
 dsimp only
 by_cases he : e = 0
 case neg =>
  rw [show (e != 0) = true by simpa using he, cond_true]
  exact ⟨_, rfl, e, j, _, rfl, h3, fun h => absurd h he⟩
 obtain ⟨h6, h7⟩ := h5 he
 rw [show (e != 0) = false by simpa using he, cond_false]
 have hh := iter_dec (b := F_scan_scanner_tag_l0) (fun x => b.length - x.2.1.toNat) (fun x => ∃ (j : Nat) (ps : List T_scan_Pair) (y z : List UInt8), x = (b, (j : Int), (2 : Int), t.At, v, ps, t.Text, t.Refs, y, z) ∧ i < j ∧ j ≤ b.length ∧ ps.length ≤ j ∧ (nmP ps).Nodup) (fun o => TokR b i o) ?_ FUEL
  (b, (j : Int), (2 : Int), t.At, v, t.Pairs, t.Text, t.Refs, ([] : List UInt8), ([] : List UInt8)) ⟨j, t.Pairs, [], [], rfl, by omega, h3, by rw [hp]; simp, by rw [hp]; exact List.nodup_nil⟩ (by unfold FUEL; dsimp only; omega)
 ·obtain ⟨o, e1, e2⟩ := hh
  rw [e1]
  exact ⟨o, rfl, e2⟩
 rintro _ ⟨j, ps, y, z, rfl, g1, g2, g3, g4⟩
 have okT : ∀ (kd : Int) (k : Nat), (kd = 2 ∨ kd = 4) → i < k → TokOk b i ⟨kd, t.At, v, ps, t.Text, t.Refs⟩ k := fun kd k hk hik => ⟨hik, ht, by rcases hk with rfl | rfl <;> (show (true : Bool) = !(v == []); rw [ne_nil_beq h6]; rfl), g4, fun h => (by rcases hk with rfl | rfl <;> cases h), fun _ => h60, fun h => (by rcases hk with rfl | rfl <;> cases h), by show ps.length ≤ _; omega⟩
 obtain ⟨s1, s2⟩ := sk_le wsP b j g2
 have hsp := spaces_eq b (j : Int) j g2 hb'
 have hh1 := here_eq b (sk wsP b j) [47, 62] s2
 have hh2 := here_eq b (sk wsP b j) [62] s2
 cases c1 : hereP b (sk wsP b j) [47, 62] with
 | true =>
  right
  have hl := hereP_len c1 s2
  rw [c1] at hh1
  refine ⟨(0, ⟨b, ((sk wsP b j + 2 : Nat) : Int)⟩, ⟨4, t.At, v, ps, t.Text, t.Refs⟩), fun rec => ?_, 0, sk wsP b j + 2, _, rfl, by simpa using hl, fun _ => okT 4 _ (.inr rfl) (by omega)⟩
  unfold F_scan_scanner_tag_l0
  dsimp only
  rw [hsp, Option.bind_some, hh1, Option.bind_some, cond_true, sign_eq b _ _ s2 hb', c1, if_pos rfl, Option.bind_some]
  rfl
 | false =>
 rw [c1] at hh1
 cases c2 : hereP b (sk wsP b j) [62] with
 | true =>
  right
  have hl := hereP_len c2 s2
  rw [c2] at hh2
  refine ⟨(0, ⟨b, ((sk wsP b j + 1 : Nat) : Int)⟩, ⟨2, t.At, v, ps, t.Text, t.Refs⟩), fun rec => ?_, 0, sk wsP b j + 1, _, rfl, by simpa using hl, fun _ => okT 2 _ (.inl rfl) (by omega)⟩
  unfold F_scan_scanner_tag_l0
  dsimp only
  rw [hsp, Option.bind_some, hh1, Option.bind_some, cond_false, hh2, Option.bind_some, cond_true, sign_eq b _ _ s2 hb', c2, if_pos rfl, Option.bind_some]
  rfl
 | false =>
 rw [c2] at hh2
 by_cases c3 : sk wsP b j = j
 ·right
  refine ⟨(23, ⟨b, ((sk wsP b j : Nat) : Int)⟩, ⟨2, t.At, v, ps, t.Text, t.Refs⟩), fun rec => ?_, 23, sk wsP b j, _, rfl, s2, fun h => (by cases h)⟩
  unfold F_scan_scanner_tag_l0
  dsimp only
  rw [hsp, Option.bind_some, hh1, Option.bind_some, cond_false, hh2, Option.bind_some, cond_false, show (((sk wsP b j : Nat) : Int) == (j : Int)) = true by simp [c3], cond_true]
 have c3' : (((sk wsP b j : Nat) : Int) == (j : Int)) = false := by
  rw [beq_eq_false_iff_ne]; omega
 obtain ⟨nm, e1, k1, n1, n2, n3, n4, n5⟩ := name_sp b (sk wsP b j) s2 hb'
 by_cases ce1 : e1 = 0
 case neg =>
  right
  refine ⟨(e1, ⟨b, (k1 : Int)⟩, ⟨2, t.At, v, ps, t.Text, t.Refs⟩), fun rec => ?_, e1, k1, _, rfl, n3, fun h => absurd h ce1⟩
  unfold F_scan_scanner_tag_l0
  dsimp only
  rw [hsp, Option.bind_some, hh1, Option.bind_some, cond_false, hh2, Option.bind_some, cond_false, c3', cond_false, n1, Option.bind_some]
  dsimp only
  rw [show (e1 != 0) = true by simpa using ce1, cond_true]
 obtain ⟨n6, n7⟩ := n5 ce1
 obtain ⟨e2, k2, q1, q2, q3⟩ := equals_sp b k1 n3 hb'
 by_cases ce2 : e2 = 0
 case neg =>
  right
  refine ⟨(e2, ⟨b, (k2 : Int)⟩, ⟨2, t.At, v, ps, t.Text, t.Refs⟩), fun rec => ?_, e2, k2, _, rfl, q3, fun h => absurd h ce2⟩
  unfold F_scan_scanner_tag_l0
  dsimp only
  rw [hsp, Option.bind_some, hh1, Option.bind_some, cond_false, hh2, Option.bind_some, cond_false, c3', cond_false, n1, Option.bind_some]
  dsimp only
  rw [show (e1 != 0) = false by simpa using ce1, cond_false, q1, Option.bind_some]
  dsimp only
  rw [show (e2 != 0) = true by simpa using ce2, cond_true]
 obtain ⟨rv, e3, k3, w1, w2, w3, w4, w5⟩ := quoted_sp b k2 q3 hb'
 by_cases ce3 : e3 = 0
 case neg =>
  right
  refine ⟨(e3, ⟨b, (k3 : Int)⟩, ⟨2, t.At, v, ps, t.Text, t.Refs⟩), fun rec => ?_, e3, k3, _, rfl, w3, fun h => absurd h ce3⟩
  unfold F_scan_scanner_tag_l0
  dsimp only
  rw [hsp, Option.bind_some, hh1, Option.bind_some, cond_false, hh2, Option.bind_some, cond_false, c3', cond_false, n1, Option.bind_some]
  dsimp only
  rw [show (e1 != 0) = false by simpa using ce1, cond_false, q1, Option.bind_some]
  dsimp only
  rw [show (e2 != 0) = false by simpa using ce2, cond_false, w1, Option.bind_some]
  dsimp only
  rw [show (e3 != 0) = true by simpa using ce3, cond_true]
 obtain ⟨rd, hrd⟩ := read_some rv true (by omega)
 have hrv : F_refer_ReadValue rv = some (rd.1, rd.2.1, rd.2.2) := by unfold F_refer_ReadValue; rw [hrd]; rfl
 by_cases ce4 : rd.2.2 = 0
 case neg =>
  right
  refine ⟨(rd.2.2, ⟨b, (k3 : Int)⟩, ⟨2, t.At, v, ps, t.Text, t.Refs⟩), fun rec => ?_, rd.2.2, k3, _, rfl, w3, fun h => absurd h ce4⟩
  unfold F_scan_scanner_tag_l0
  dsimp only
  rw [hsp, Option.bind_some, hh1, Option.bind_some, cond_false, hh2, Option.bind_some, cond_false, c3', cond_false, n1, Option.bind_some]
  dsimp only
  rw [show (e1 != 0) = false by simpa using ce1, cond_false, q1, Option.bind_some]
  dsimp only
  rw [show (e2 != 0) = false by simpa using ce2, cond_false, w1, Option.bind_some]
  dsimp only
  rw [show (e3 != 0) = false by simpa using ce3, cond_false, hrv, Option.bind_some]
  dsimp only
  rw [show (rd.2.2 != 0) = true by simpa using ce4, cond_true]
 have hbody : ∀ rec, F_scan_scanner_tag_l0 rec (b, (j : Int), (2 : Int), t.At, v, ps, t.Text, t.Refs, y, z) = (iter (F_scan_scanner_tag_l1 2 t.At v ps t.Text t.Refs ((nm, e1), ⟨b, (k1 : Int)⟩) ((rv, e3), ⟨b, (k3 : Int)⟩)) FUEL 0).bind fun o => match o with
   | .inl _ => (app 32 ps [(⟨nm, rd.1⟩ : T_scan_Pair)]).bind fun _ => (some (ps ++ [(⟨nm, rd.1⟩ : T_scan_Pair)])).bind fun a51 => rec (b, (k3 : Int), (2 : Int), t.At, v, a51, t.Text, t.Refs, nm, rd.1)
   | .inr o1 => some o1 := by
  intro rec
  unfold F_scan_scanner_tag_l0
  dsimp only
  rw [hsp, Option.bind_some, hh1, Option.bind_some, cond_false, hh2, Option.bind_some, cond_false, c3', cond_false, n1, Option.bind_some]
  dsimp only
  rw [show (e1 != 0) = false by simpa using ce1, cond_false, q1, Option.bind_some]
  dsimp only
  rw [show (e2 != 0) = false by simpa using ce2, cond_false, w1, Option.bind_some]
  dsimp only
  rw [show (e3 != 0) = false by simpa using ce3, cond_false, hrv, Option.bind_some]
  dsimp only
  rw [show (rd.2.2 != 0) = false by simpa using ce4, cond_false]
  simp only [letJ]
  rfl
 obtain ⟨o, l1, l2⟩ := tag_l1 2 t.At v ps t.Text t.Refs ((nm, e1), ⟨b, (k1 : Int)⟩) ((rv, e3), ⟨b, (k3 : Int)⟩) (by omega)
 rcases l2 with ⟨rfl, hno⟩ | rfl
 ·left
  have w6 := w5 ce3
  refine ⟨(b, (k3 : Int), (2 : Int), t.At, v, ps ++ [(⟨nm, rd.1⟩ : T_scan_Pair)], t.Text, t.Refs, nm, rd.1), fun rec => ?_, ⟨k3, _, nm, rd.1, rfl, by omega, w3, by simp; omega, ?_⟩, by dsimp only; omega⟩
  ·rw [hbody, l1, Option.bind_some]
   dsimp only
   rw [app_some (by simp; omega) (by simp; omega), Option.bind_some, Option.bind_some]
  ·unfold nmP at g4 ⊢
   rw [List.map_append, List.nodup_append]
   refine ⟨g4, by simp, fun a ha c hc hac => ?_⟩
   rw [List.mem_map] at ha
   obtain ⟨p, hpm, rfl⟩ := ha
   simp at hc
   subst hc
   exact hno p hpm hac
 ·right
  exact ⟨_, fun rec => by rw [hbody, l1, Option.bind_some], 27, k3, _, rfl, w3, fun h => (by cases h)⟩
end Go.Proofs.YtfokkdofcekdbaaGreatDoor
set_option maxRecDepth 20000
namespace Go.Proofs.YtfokkdofcekdbaaGreatDoor
open Go.Lib (decodeL decodeN)
abbrev DeclW : List (List UInt8) := [([118, 101, 114, 115, 105, 111, 110] : List UInt8), ([101, 110, 99, 111, 100, 105, 110, 103] : List UInt8), ([115, 116, 97, 110, 100, 97, 108, 111, 110, 101] : List UInt8)]
theorem declW_at (k : Nat) (hk : k < 3) : ∃ w, idx DeclW (k : Int) = some w ∧ w.length ≤ 10 ∧ 1 ≤ w.length ∧ DeclW.take (k + 1) = DeclW.take k ++ [w] := by
 have h : k = 0 ∨ k = 1 ∨ k = 2 := by omega
 rcases h with rfl | rfl | rfl
 ·exact ⟨_, rfl, by decide, by decide, rfl⟩
 ·exact ⟨_, rfl, by decide, by decide, rfl⟩
 ·exact ⟨_, rfl, by decide, by decide, rfl⟩
theorem decl_l0 (b : List UInt8) (At : Int) (Nm Tx : List UInt8) (rf : Int) (h5 : 5 ≤ b.length) (hb : b.length ≤ 1073741824) :
  ∃ o, iter (F_scan_scanner_decl_l0) FUEL (b, (5 : Int), (1 : Int), At, Nm, ([] : List T_scan_Pair), Tx, rf, ([] : List UInt8), (0 : Int)) = some o ∧
  ((∃ (j : Nat) (ps : List T_scan_Pair) (la : List UInt8), o = .inl (b, (j : Int), la, (1 : Int), At, Nm, ps, Tx, rf) ∧ 5 ≤ j ∧ j ≤ b.length ∧ (nmP ps).Nodup ∧ ps.length ≤ 3 ∧ la.length ≤ 1073741824 ∧ ∀ c ∈ la, c.toNat < 128) ∨
   (∃ (j : Nat) (t' : Tk), o = .inr ((23 : Int), ⟨b, (j : Int)⟩, t') ∧ j ≤ b.length)) := by
 refine iter_dec (b := F_scan_scanner_decl_l0) (fun x => 3 - x.2.2.2.2.2.2.2.2.2.toNat) (fun x => ∃ (j k : Nat) (ps : List T_scan_Pair) (la : List UInt8), x = (b, (j : Int), (1 : Int), At, Nm, ps, Tx, rf, la, (k : Int)) ∧ 5 ≤ j ∧ j ≤ b.length ∧ k ≤ 3 ∧ (nmP ps).Sublist (DeclW.take k) ∧ ps.length ≤ k ∧ la.length ≤ 1073741824 ∧ ∀ c ∈ la, c.toNat < 128) _ ?_ FUEL _ ⟨5, 0, [], [], rfl, by omega, h5, by omega, List.nil_sublist _, by simp, by simp, by simp⟩ (by unfold FUEL; dsimp only; omega)
 rintro _ ⟨j, k, ps, la, rfl, g1, g2, g3, g4, g5, g6, g7⟩
 by_cases hk : k < 3
 case neg =>
  right
  refine ⟨.inl (b, (j : Int), la, (1 : Int), At, Nm, ps, Tx, rf), fun rec => ?_, .inl ⟨j, ps, la, rfl, g1, g2, ?_, by omega, g6, g7⟩⟩
  ·unfold F_scan_scanner_decl_l0
   dsimp only
   rw [show decide ((k : Int) < (DeclW.length : Int)) = false from decide_eq_false (show ¬ (k : Int) < ((3 : Nat) : Int) by omega), cond_false]
  ·exact (g4.trans (List.take_sublist _ _)).nodup (by decide)
 obtain ⟨w, hidx, w1, w2, w3⟩ := declW_at k hk
 have hkt : decide ((k : Int) < (DeclW.length : Int)) = true := decide_eq_true (show (k : Int) < ((3 : Nat) : Int) by omega)
 obtain ⟨s1, s2⟩ := sk_le wsP b j g2
 have hsp := spaces_eq b (j : Int) j g2 hb
 have hk1 : IntKind.wrap .i64 ((k : Int) + 1) = ((k + 1 : Nat) : Int) := by rw [w64 (by omega) (by omega)]; omega
 have skipI : ∃ (j' k' : Nat) (ps' : List T_scan_Pair) (la' : List UInt8), (b, (j : Int), (1 : Int), At, Nm, ps, Tx, rf, la, ((k + 1 : Nat) : Int)) = (b, (j' : Int), (1 : Int), At, Nm, ps', Tx, rf, la', (k' : Int)) ∧ 5 ≤ j' ∧ j' ≤ b.length ∧ k' ≤ 3 ∧ (nmP ps').Sublist (DeclW.take k') ∧ ps'.length ≤ k' ∧ la'.length ≤ 1073741824 ∧ ∀ c ∈ la', c.toNat < 128 :=
  ⟨j, k + 1, ps, la, rfl, g1, g2, by omega, by rw [w3]; exact g4.trans (List.sublist_append_left _ _), by omega, g6, g7⟩
 by_cases c3 : sk wsP b j = j
 ·have c3' : (((sk wsP b j : Nat) : Int) == (j : Int)) = true := by simp [c3]
  cases hv : w == ([118, 101, 114, 115, 105, 111, 110] : List UInt8) with
  | true =>
   right
   refine ⟨.inr ((23 : Int), ⟨b, (j : Int)⟩, ⟨1, At, Nm, ps, Tx, rf⟩), fun rec => ?_, .inr ⟨j, _, rfl, g2⟩⟩
   unfold F_scan_scanner_decl_l0
   dsimp only
   rw [hkt, cond_true]
   simp only [letJ]
   rw [hidx, Option.bind_some, hsp, Option.bind_some, c3', cond_true, cond_true, hv, cond_true]
  | false =>
   left
   refine ⟨_, fun rec => ?_, skipI, by dsimp only; omega⟩
   unfold F_scan_scanner_decl_l0
   dsimp only
   rw [hkt, cond_true]
   simp only [letJ]
   rw [hidx, Option.bind_some, hsp, Option.bind_some, c3', cond_true, cond_true, hv, cond_false, hk1]
 have c3' : (((sk wsP b j : Nat) : Int) == (j : Int)) = false := by rw [beq_eq_false_iff_ne]; omega
 cases hh : hereP b (sk wsP b j) w with
 | false =>
  have hh' : w.isPrefixOf (b.drop (sk wsP b j)) = false := hh
  cases hv : w == ([118, 101, 114, 115, 105, 111, 110] : List UInt8) with
  | true =>
   right
   refine ⟨.inr ((23 : Int), ⟨b, (j : Int)⟩, ⟨1, At, Nm, ps, Tx, rf⟩), fun rec => ?_, .inr ⟨j, _, rfl, g2⟩⟩
   unfold F_scan_scanner_decl_l0
   dsimp only
   rw [hkt, cond_true]
   simp only [letJ]
   rw [hidx, Option.bind_some, hsp, Option.bind_some, c3', cond_false, slc_drop s2, Option.bind_some, hasPrefix_eq, Option.bind_some, hh', Bool.not_false, cond_true, hv, cond_true]
  | false =>
   left
   refine ⟨_, fun rec => ?_, skipI, by dsimp only; omega⟩
   unfold F_scan_scanner_decl_l0
   dsimp only
   rw [hkt, cond_true]
   simp only [letJ]
   rw [hidx, Option.bind_some, hsp, Option.bind_some, c3', cond_false, slc_drop s2, Option.bind_some, hasPrefix_eq, Option.bind_some, hh', Bool.not_false, cond_true, hv, cond_false, hk1]
 | true =>
  have hh' : w.isPrefixOf (b.drop (sk wsP b j)) = true := hh
  have hl := hereP_len hh s2
  have hadd : IntKind.wrap .i64 (((sk wsP b j : Nat) : Int) + (w.length : Int)) = ((sk wsP b j + w.length : Nat) : Int) := by rw [w64 (by omega) (by omega)]; omega
  obtain ⟨e2, k2, q1, q2, q3⟩ := equals_sp b (sk wsP b j + w.length) hl hb
  have pre : ∀ rec, F_scan_scanner_decl_l0 rec (b, (j : Int), (1 : Int), At, Nm, ps, Tx, rf, la, (k : Int)) = cond (e2 != 0) (some (.inr ((23 : Int), ⟨b, (k2 : Int)⟩, ⟨1, At, Nm, ps, Tx, rf⟩)))
    ((F_scan_scanner_quoted ⟨b, (k2 : Int)⟩).bind fun x122 =>
    (letJ (fun v125 : Bool => cond v125
     (some (.inr ((23 : Int), x122.2, (⟨1, At, Nm, ps, Tx, rf⟩ : T_scan_Token))))
     ((app 32 ps [(⟨w, x122.1.1⟩ : T_scan_Pair)]).bind fun _ =>
      (some (ps ++ [(⟨w, x122.1.1⟩ : T_scan_Pair)])).bind fun a129 =>
     cond (w == ([101, 110, 99, 111, 100, 105, 110, 103] : List UInt8))
      (rec (x122.2.b, x122.2.at_, (1 : Int), At, Nm, a129, Tx, rf, x122.1.1, ((k + 1 : Nat) : Int)))
      (rec (x122.2.b, x122.2.at_, (1 : Int), At, Nm, a129, Tx, rf, la, ((k + 1 : Nat) : Int))))) fun J124 => cond (x122.1.2 != (0 : Int)) (J124 true) ((F_scan_fits w x122.1.1).bind fun x126 =>
     J124 (!x126)))) := by
   intro rec
   unfold F_scan_scanner_decl_l0
   dsimp only
   rw [hkt, cond_true]
   simp only [letJ]
   rw [hidx, Option.bind_some, hsp, Option.bind_some, c3', cond_false, slc_drop s2, Option.bind_some, hasPrefix_eq, Option.bind_some, hh', Bool.not_true, cond_false, hadd, q1, Option.bind_some]
   simp only [hk1]
  by_cases ce2 : e2 = 0
  case neg =>
   right
   refine ⟨.inr ((23 : Int), ⟨b, (k2 : Int)⟩, ⟨1, At, Nm, ps, Tx, rf⟩), fun rec => ?_, .inr ⟨k2, _, rfl, q3⟩⟩
   rw [pre, show (e2 != 0) = true by simpa using ce2, cond_true]
  obtain ⟨rv, e3, k3, u1, u2, u3, u4, u5⟩ := quoted_sp b k2 q3 hb
  by_cases ce3 : e3 = 0
  case neg =>
   right
   refine ⟨.inr ((23 : Int), ⟨b, (k3 : Int)⟩, ⟨1, At, Nm, ps, Tx, rf⟩), fun rec => ?_, .inr ⟨k3, _, rfl, u3⟩⟩
   rw [pre, show (e2 != 0) = false by simpa using ce2, cond_false, u1, Option.bind_some]
   simp only [letJ]
   rw [show (e3 != 0) = true by simpa using ce3, cond_true, cond_true]
  obtain ⟨r, hr, hr2⟩ := fits_sp w rv (by omega)
  cases r with
  | false =>
   right
   refine ⟨.inr ((23 : Int), ⟨b, (k3 : Int)⟩, ⟨1, At, Nm, ps, Tx, rf⟩), fun rec => ?_, .inr ⟨k3, _, rfl, u3⟩⟩
   rw [pre, show (e2 != 0) = false by simpa using ce2, cond_false, u1, Option.bind_some]
   simp only [letJ]
   rw [show (e3 != 0) = false by simpa using ce3, cond_false, hr, Option.bind_some, Bool.not_false, cond_true]
  | true =>
   left
   have hsub : (nmP (ps ++ [(⟨w, rv⟩ : T_scan_Pair)])).Sublist (DeclW.take (k + 1)) := by
    rw [w3]; unfold nmP at g4 ⊢; rw [List.map_append]; exact g4.append (List.Sublist.refl _)
   cases he : w == ([101, 110, 99, 111, 100, 105, 110, 103] : List UInt8) with
   | true =>
    refine ⟨(b, (k3 : Int), (1 : Int), At, Nm, ps ++ [(⟨w, rv⟩ : T_scan_Pair)], Tx, rf, rv, ((k + 1 : Nat) : Int)), fun rec => ?_, ⟨k3, k + 1, _, rv, rfl, by omega, u3, by omega, hsub, by simp; omega, by omega, hr2 (by simpa using he) rfl⟩, by dsimp only; omega⟩
    rw [pre, show (e2 != 0) = false by simpa using ce2, cond_false, u1, Option.bind_some]
    simp only [letJ]
    rw [show (e3 != 0) = false by simpa using ce3, cond_false, hr, Option.bind_some, Bool.not_true, cond_false, app_some (by simp; omega) (by simp; omega), Option.bind_some, Option.bind_some, he, cond_true]
   | false =>
    refine ⟨(b, (k3 : Int), (1 : Int), At, Nm, ps ++ [(⟨w, rv⟩ : T_scan_Pair)], Tx, rf, la, ((k + 1 : Nat) : Int)), fun rec => ?_, ⟨k3, k + 1, _, la, rfl, by omega, u3, by omega, hsub, by simp; omega, g6, g7⟩, by dsimp only; omega⟩
    rw [pre, show (e2 != 0) = false by simpa using ce2, cond_false, u1, Option.bind_some]
    simp only [letJ]
    rw [show (e3 != 0) = false by simpa using ce3, cond_false, hr, Option.bind_some, Bool.not_true, cond_false, app_some (by simp; omega) (by simp; omega), Option.bind_some, Option.bind_some, he, cond_false]
theorem decl_sp (b : List UInt8) (t : Tk) (h5 : 5 ≤ b.length) (hb : b.length ≤ 1073741824) (h60 : b[0]? = some 60) (ht : t.At = 0) (hn : t.Name = []) (hp : t.Pairs = []) : ∃ x, F_scan_scanner_decl ⟨b, (0 : Int)⟩ t = some x ∧ TokR b 0 x := by
 unfold F_scan_scanner_decl
 simp only [letJ]
 rw [hp]
 obtain ⟨o, e1, e2⟩ := decl_l0 b t.At t.Name t.Text t.Refs h5 hb
 rw [e1, Option.bind_some]
 rcases e2 with ⟨j, ps, la, rfl, h1, h2, h3, h7, h4, h6⟩ | ⟨j, t', rfl, h1⟩
 ·dsimp only
  obtain ⟨s1, s2⟩ := sk_le wsP b j h2
  rw [spaces_eq b _ j h2 hb, Option.bind_some, sign_eq b _ _ s2 hb]
  cases hh : hereP b (sk wsP b j) [63, 62] with
  | false =>
   rw [if_neg (by simp), Option.bind_some]
   exact ⟨_, rfl, 23, sk wsP b j, _, rfl, s2, fun h => (by cases h)⟩
  | true =>
   have hl := hereP_len hh s2
   have okT : TokOk b 0 ⟨1, t.At, t.Name, ps, t.Text, t.Refs⟩ (sk wsP b j + 2) := ⟨by omega, by rw [ht]; rfl, by show (false : Bool) = !(t.Name == []); rw [hn]; rfl, h3, fun h => (by cases h), fun _ => h60, fun _ => rfl, by show ps.length ≤ _; omega⟩
   rw [if_pos rfl, Option.bind_some]
   dsimp only
   rw [show ((0 : Int) != 0) = false from rfl, cond_false]
   cases la == ([] : List UInt8) with
   | true =>
    rw [Bool.not_true, cond_false, cond_false]
    exact ⟨_, rfl, 0, sk wsP b j + 2, _, rfl, by simpa using hl, fun _ => okT⟩
   | false =>
    obtain ⟨r, hr⟩ := eqf_ascii la [117, 116, 102, 45, 56] h4 (by simp) h6 (by decide)
    rw [Bool.not_false, cond_true, hr, Option.bind_some]
    cases r with
    | true =>
     rw [Bool.not_true, cond_false]
     exact ⟨_, rfl, 0, sk wsP b j + 2, _, rfl, by simpa using hl, fun _ => okT⟩
    | false =>
     rw [Bool.not_false, cond_true]
     exact ⟨_, rfl, 25, sk wsP b j + 2, _, rfl, by simpa using hl, fun h => (by cases h)⟩
 ·dsimp only
  exact ⟨_, rfl, 23, j, t', rfl, h1, fun h => (by cases h)⟩
theorem token_sp (b : List UInt8) (i : Nat) (hi : i < b.length) (hb : b.length ≤ 65536) : ∃ x, F_scan_scanner_token ⟨b, (i : Int)⟩ ⟨(0 : Int), (i : Int), ([] : List UInt8), ([] : List T_scan_Pair), ([] : List UInt8), (0 : Int)⟩ = some x ∧ TokR b i x := by
 have hb' : b.length ≤ 1073741824 := by omega
 have hle : i ≤ b.length := Nat.le_of_lt hi
 have rest : ∃ x, ((F_scan_scanner_here (⟨b, (i : Int)⟩ : T_scan_scanner) ([60, 33, 45, 45] : List UInt8)).bind fun x12 =>
    cond x12
    ((F_scan_scanner_upTo ⟨b, (i : Int)⟩ (⟨(7 : Int), (i : Int), ([] : List UInt8), ([] : List T_scan_Pair), ([] : List UInt8), (0 : Int)⟩ : T_scan_Token) (4 : Int) ([45, 45] : List UInt8)).bind fun x14 =>
    cond (x14.1 != (0 : Int))
     (some (x14.1, x14.2.1, x14.2.2))
     ((F_scan_scanner_sign x14.2.1 ([62] : List UInt8)).bind fun x17 =>
     some (x17.1, x17.2, x14.2.2)))
    ((F_scan_scanner_here (⟨b, (i : Int)⟩ : T_scan_scanner) ([60, 33, 91, 67, 68, 65, 84, 65, 91] : List UInt8)).bind fun x18 =>
    cond x18
     ((F_scan_scanner_upTo ⟨b, (i : Int)⟩ (⟨(6 : Int), (i : Int), ([] : List UInt8), ([] : List T_scan_Pair), ([] : List UInt8), (0 : Int)⟩ : T_scan_Token) (9 : Int) ([93, 93, 62] : List UInt8)).bind fun x20 =>
     some (x20.1, x20.2.1, x20.2.2))
     ((F_scan_scanner_here (⟨b, (i : Int)⟩ : T_scan_scanner) ([60, 33, 68, 79, 67, 84, 89, 80, 69] : List UInt8)).bind fun x22 =>
     cond x22
     (some ((25 : Int), (⟨b, (i : Int)⟩ : T_scan_scanner), (⟨(0 : Int), (i : Int), ([] : List UInt8), ([] : List T_scan_Pair), ([] : List UInt8), (0 : Int)⟩ : T_scan_Token)))
     ((F_scan_scanner_here (⟨b, (i : Int)⟩ : T_scan_scanner) ([60, 33] : List UInt8)).bind fun x24 =>
     cond x24
      (some ((23 : Int), (⟨b, (i : Int)⟩ : T_scan_scanner), (⟨(0 : Int), (i : Int), ([] : List UInt8), ([] : List T_scan_Pair), ([] : List UInt8), (0 : Int)⟩ : T_scan_Token)))
      ((F_scan_scanner_here (⟨b, (i : Int)⟩ : T_scan_scanner) ([60, 63] : List UInt8)).bind fun x26 =>
      cond x26
      ((F_scan_scanner_instr (⟨b, (i : Int)⟩ : T_scan_scanner) ⟨(0 : Int), (i : Int), ([] : List UInt8), ([] : List T_scan_Pair), ([] : List UInt8), (0 : Int)⟩).bind fun x28 =>
      some (x28.1, x28.2.1, x28.2.2))
      ((F_scan_scanner_here (⟨b, (i : Int)⟩ : T_scan_scanner) ([60, 47] : List UInt8)).bind fun x30 =>
      cond x30
       ((F_scan_scanner_closing (⟨b, (i : Int)⟩ : T_scan_scanner) ⟨(0 : Int), (i : Int), ([] : List UInt8), ([] : List T_scan_Pair), ([] : List UInt8), (0 : Int)⟩).bind fun x32 =>
       some (x32.1, x32.2.1, x32.2.2))
       ((F_scan_scanner_here (⟨b, (i : Int)⟩ : T_scan_scanner) ([60] : List UInt8)).bind fun x34 =>
       cond x34
       ((F_scan_scanner_tag (⟨b, (i : Int)⟩ : T_scan_scanner) ⟨(0 : Int), (i : Int), ([] : List UInt8), ([] : List T_scan_Pair), ([] : List UInt8), (0 : Int)⟩).bind fun x36 =>
       some (x36.1, x36.2.1, x36.2.2))
       ((F_scan_scanner_text (⟨b, (i : Int)⟩ : T_scan_scanner) ⟨(0 : Int), (i : Int), ([] : List UInt8), ([] : List T_scan_Pair), ([] : List UInt8), (0 : Int)⟩).bind fun x38 =>
       some (x38.1, x38.2.1, x38.2.2))))))))) = some x ∧ TokR b i x := by
  rw [here_eq b i _ hle, Option.bind_some]
  cases c1 : hereP b i [60, 33, 45, 45] with
  | true =>
   have hl := hereP_len c1 hle
   obtain ⟨e, j, x, u1, u2, u3⟩ := upTo_sp b i 4 ⟨(7 : Int), (i : Int), [], [], [], 0⟩ [45, 45] (by simp) (by simpa using hl) hb' (by simp)
   rw [cond_true, show (4 : Int) = ((4 : Nat) : Int) from rfl, u1, Option.bind_some]
   dsimp only
   by_cases he : e = 0
   case neg =>
    rw [show (e != 0) = true by simpa using he, cond_true]
    exact ⟨_, rfl, e, j, _, rfl, u2, fun h => absurd h he⟩
   rw [show (e != 0) = false by simpa using he, cond_false, sign_eq b j _ u2 hb']
   have := u3 he
   cases hh : hereP b j [62] with
   | false =>
    rw [if_neg (by simp), Option.bind_some]
    exact ⟨_, rfl, 23, j, _, rfl, u2, fun h => (by cases h)⟩
   | true =>
    have hl2 := hereP_len hh u2
    rw [if_pos rfl, Option.bind_some]
    exact ⟨_, rfl, 0, j + 1, _, rfl, by simpa using hl2, fun _ => ⟨by omega, rfl, rfl, List.nodup_nil, fun h => (by cases h), fun _ => hereP_get c1, fun h => (by cases h), Nat.zero_le _⟩⟩
  | false =>
  rw [cond_false, here_eq b i _ hle, Option.bind_some]
  cases c2 : hereP b i [60, 33, 91, 67, 68, 65, 84, 65, 91] with
  | true =>
   have hl := hereP_len c2 hle
   obtain ⟨e, j, x, u1, u2, u3⟩ := upTo_sp b i 9 ⟨(6 : Int), (i : Int), [], [], [], 0⟩ [93, 93, 62] (by simp) (by simpa using hl) hb' (by simp)
   rw [cond_true, show (9 : Int) = ((9 : Nat) : Int) from rfl, u1, Option.bind_some]
   exact ⟨_, rfl, e, j, _, rfl, u2, fun h => ⟨by have := u3 h; omega, rfl, rfl, List.nodup_nil, fun h => (by cases h), fun _ => hereP_get c2, fun h => (by cases h), Nat.zero_le _⟩⟩
  | false =>
  rw [cond_false, here_eq b i _ hle, Option.bind_some]
  cases c3 : hereP b i [60, 33, 68, 79, 67, 84, 89, 80, 69] with
  | true => exact ⟨_, rfl, 25, i, _, rfl, hle, fun h => (by cases h)⟩
  | false =>
  rw [cond_false, here_eq b i _ hle, Option.bind_some]
  cases c4 : hereP b i [60, 33] with
  | true => exact ⟨_, rfl, 23, i, _, rfl, hle, fun h => (by cases h)⟩
  | false =>
  rw [cond_false, here_eq b i _ hle, Option.bind_some]
  cases c5 : hereP b i [60, 63] with
  | true =>
   have hl := hereP_len c5 hle
   obtain ⟨x, h1, h2⟩ := instr_sp b i ⟨(0 : Int), (i : Int), [], [], [], 0⟩ (by simpa using hl) hb' (hereP_get c5) rfl rfl
   rw [cond_true, h1, Option.bind_some]
   exact ⟨_, rfl, h2⟩
  | false =>
  rw [cond_false, here_eq b i _ hle, Option.bind_some]
  cases c6 : hereP b i [60, 47] with
  | true =>
   have hl := hereP_len c6 hle
   obtain ⟨x, h1, h2⟩ := closing_sp b i ⟨(0 : Int), (i : Int), [], [], [], 0⟩ (by simpa using hl) hb' (hereP_get c6) rfl rfl
   rw [cond_true, h1, Option.bind_some]
   exact ⟨_, rfl, h2⟩
  | false =>
  rw [cond_false, here_eq b i _ hle, Option.bind_some]
  cases c7 : hereP b i [60] with
  | true =>
   obtain ⟨x, h1, h2⟩ := tag_sp b i ⟨(0 : Int), (i : Int), [], [], [], 0⟩ hi hb (hereP_get c7) rfl rfl
   rw [cond_true, h1, Option.bind_some]
   exact ⟨_, rfl, h2⟩
  | false =>
   obtain ⟨x, h1, h2⟩ := text_sp b i ⟨(0 : Int), (i : Int), [], [], [], 0⟩ hi hb' c7 rfl rfl rfl
   rw [cond_false, h1, Option.bind_some]
   exact ⟨_, rfl, h2⟩
 unfold F_scan_scanner_token
 simp only [letJ]
 by_cases h0 : i = 0
 ·subst h0
  rw [show (((0 : Nat) : Int) == (0 : Int)) = true from rfl, cond_true, here_eq b 0 _ hle, Option.bind_some]
  cases c0 : hereP b 0 [60, 63, 120, 109, 108] with
  | false => rw [cond_false, cond_false]; exact rest
  | true =>
   have hl := hereP_len c0 hle
   have h5 : 5 ≤ b.length := by simpa using hl
   rw [cond_true, show (5 : Int) = ((5 : Nat) : Int) from rfl, spaces_eq b _ 5 h5 hb', Option.bind_some]
   cases decide (((5 : Nat) : Int) < ((sk wsP b 5 : Nat) : Int)) with
   | false => rw [cond_false]; exact rest
   | true =>
    obtain ⟨x, h1, h2⟩ := decl_sp b ⟨(0 : Int), ((0 : Nat) : Int), [], [], [], 0⟩ h5 hb' (hereP_get c0) rfl rfl rfl
    rw [cond_true, show (((0 : Nat) : Int)) = (0 : Int) from rfl] at *
    rw [h1, Option.bind_some]
    exact ⟨_, rfl, h2⟩
 ·rw [show ((i : Int) == (0 : Int)) = false by rw [beq_eq_false_iff_ne]; omega, cond_false, cond_false]
  exact rest
end Go.Proofs.YtfokkdofcekdbaaGreatDoor
set_option maxRecDepth 20000
namespace Go.Proofs.YtfokkdofcekdbaaGreatDoor
open Go.Lib (decodeL decodeN)
theorem u8_nat (c : UInt8) : u8 (c.toNat : Int) = some c := by
 unfold u8
 have := c.toNat_lt
 rw [if_pos (by omega), Int.toNat_natCast]
 simp
def lnP (p : List UInt8) (i : Nat) : List UInt8 := if p.getD i 0 = 13 then [10] else if p.getD i 0 = 10 ∧ 0 < i ∧ p.getD (i - 1) 0 = 13 then [] else [p.getD i 0]
theorem u8_beq (c : UInt8) (n : Nat) (hn : n < 256) : ((c.toNat : Int) == (n : Int)) = decide (c = UInt8.ofNat n) := by
 rw [Bool.eq_iff_iff, beq_iff_eq, decide_eq_true_eq]
 have h2 : (UInt8.ofNat n).toNat = n := by show n % 256 = n; omega
 constructor
 ·intro h; apply UInt8.toNat_inj.1; rw [h2]; omega
 ·rintro rfl; rw [h2]
theorem lines_step1 (p : List UInt8) (i : Nat) (l : List UInt8) (hi : i < p.length) (hl : l.length ≤ i) (hp : p.length ≤ 1073741824) (rec) : F_char_Lines_l0 p rec (l, (i : Int)) = rec (l ++ lnP p i, ((i + 1 : Nat) : Int)) := by
 have hk1 : IntKind.wrap .i64 ((i : Int) + 1) = ((i + 1 : Nat) : Int) := by rw [w64 (by omega) (by omega)]; omega
 have hg : p.getD i 0 = p[i] := by simp [List.getD, hi]
 unfold F_char_Lines_l0
 dsimp only
 rw [decide_eq_true (by omega), cond_true]
 simp only [letJ]
 rw [idx_some hi, Option.bind_some, hk1, show (10 : Int) = ((10 : Nat) : Int) from rfl, show (13 : Int) = ((13 : Nat) : Int) from rfl, u8_beq _ 10 (by omega), u8_beq _ 13 (by omega)]
 have app1 : ∀ c : UInt8, app 1 l [c] = some (l ++ [c]) := fun c => app_some (by simp; omega) (by simp; omega)
 unfold lnP
 rw [hg]
 by_cases c10 : p[i] = 10
 ·by_cases h0 : 0 < i
  ·have hi1 : i - 1 < p.length := by omega
   have hg1 : p.getD (i - 1) 0 = p[i - 1] := by simp [List.getD, hi1]
   have hk2 : IntKind.wrap .i64 ((i : Int) - 1) = ((i - 1 : Nat) : Int) := by rw [w64 (by omega) (by omega)]; omega
   rw [decide_eq_true (show p[i] = UInt8.ofNat 10 from c10), decide_eq_true (show (0 : Int) < (i : Int) by omega), Bool.and_self, cond_true, hk2, idx_some hi1, Option.bind_some, u8_beq _ 13 (by omega), hg1, c10]
   by_cases c13 : p[i - 1] = 13
   ·rw [decide_eq_true (show p[i - 1] = UInt8.ofNat 13 from c13), cond_true, if_neg (by decide), if_pos ⟨rfl, h0, c13⟩, List.append_nil]
   ·rw [decide_eq_false (show ¬ p[i - 1] = UInt8.ofNat 13 from c13), cond_false, decide_eq_false (by decide), cond_false, if_neg (by decide), if_neg (fun h => c13 h.2.2), u8_nat, Option.bind_some, app1, Option.bind_some, Option.bind_some]
  ·rw [decide_eq_false (show ¬ (0 : Int) < (i : Int) by omega), Bool.and_false, cond_false, cond_false, c10, decide_eq_false (by decide), cond_false, if_neg (by decide), if_neg (fun h => h0 h.2.1), u8_nat, Option.bind_some, app1, Option.bind_some, Option.bind_some]
 ·rw [decide_eq_false (show ¬ p[i] = UInt8.ofNat 10 from c10), Bool.false_and, cond_false, cond_false]
  by_cases c13 : p[i] = 13
  ·rw [decide_eq_true (show p[i] = UInt8.ofNat 13 from c13), cond_true, if_pos c13, show u8 ((10 : Nat) : Int) = some 10 from rfl, Option.bind_some, app1, Option.bind_some, Option.bind_some]
  ·rw [decide_eq_false (show ¬ p[i] = UInt8.ofNat 13 from c13), cond_false, if_neg c13, if_neg (fun h => c10 h.1), u8_nat, Option.bind_some, app1, Option.bind_some, Option.bind_some]
theorem lines_step2 (p : List UInt8) (i : Nat) (l : List UInt8) (hi : i < p.length) (hl : l.length ≤ i) (hp : p.length ≤ 1073741824) (rec) : F_lecternref01_Lines_l0 p rec (l, (i : Int)) = rec (l ++ lnP p i, ((i + 1 : Nat) : Int)) := by
 have hk1 : IntKind.wrap .i64 ((i : Int) + 1) = ((i + 1 : Nat) : Int) := by rw [w64 (by omega) (by omega)]; omega
 have hg : p.getD i 0 = p[i] := by simp [List.getD, hi]
 unfold F_lecternref01_Lines_l0
 dsimp only
 rw [decide_eq_true (by omega), cond_true]
 simp only [letJ, bne]
 rw [idx_some hi, Option.bind_some, Option.bind_some, hk1, show u8 (10 : Int) = some 10 from rfl, show (10 : Int) = ((10 : Nat) : Int) from rfl, show (13 : Int) = ((13 : Nat) : Int) from rfl, u8_beq _ 10 (by omega), u8_beq _ 13 (by omega)]
 have app1 : ∀ c : UInt8, app 1 l [c] = some (l ++ [c]) := fun c => app_some (by simp; omega) (by simp; omega)
 unfold lnP
 rw [hg]
 by_cases c13 : p[i] = 13
 ·rw [decide_eq_true (show p[i] = UInt8.ofNat 13 from c13), cond_true, if_pos c13, Option.bind_some, app1, Option.bind_some]
 ·rw [decide_eq_false (show ¬ p[i] = UInt8.ofNat 13 from c13), cond_false, if_neg c13]
  by_cases c10 : p[i] = 10
  ·rw [decide_eq_true (show p[i] = UInt8.ofNat 10 from c10), Bool.not_true, Bool.false_or]
   by_cases h0 : 0 < i
   ·have hi1 : i - 1 < p.length := by omega
    have hg1 : p.getD (i - 1) 0 = p[i - 1] := by simp [List.getD, hi1]
    have hk2 : IntKind.wrap .i64 ((i : Int) - 1) = ((i - 1 : Nat) : Int) := by rw [w64 (by omega) (by omega)]; omega
    rw [show ((i : Int) == (0 : Int)) = false by rw [beq_eq_false_iff_ne]; omega, cond_false, hk2, idx_some hi1, Option.bind_some, u8_beq _ 13 (by omega), hg1, c10]
    by_cases c13' : p[i - 1] = 13
    ·rw [decide_eq_true (show p[i - 1] = UInt8.ofNat 13 from c13'), Bool.not_true, cond_false, if_pos ⟨rfl, h0, c13'⟩, List.append_nil]
    ·rw [decide_eq_false (show ¬ p[i - 1] = UInt8.ofNat 13 from c13'), Bool.not_false, cond_true, if_neg (fun h => c13' h.2.2), Option.bind_some, u8_nat, Option.bind_some, app1, Option.bind_some]
   ·rw [show ((i : Int) == (0 : Int)) = true by rw [beq_iff_eq]; omega, cond_true, cond_true, if_neg (fun h => h0 h.2.1), Option.bind_some, u8_nat, Option.bind_some, app1, Option.bind_some]
  ·rw [decide_eq_false (show ¬ p[i] = UInt8.ofNat 10 from c10), Bool.not_false, Bool.true_or, cond_true, cond_true, if_neg (fun h => c10 h.1), Option.bind_some, u8_nat, Option.bind_some, app1, Option.bind_some]
theorem lnP_len (p : List UInt8) (i : Nat) : (lnP p i).length ≤ 1 := by
 unfold lnP; split
 ·simp
 ·split <;> simp
theorem lines_two (p : List UInt8) (hp : p.length ≤ 1073741824) : ∃ r, F_char_Lines p = some r ∧ F_lecternref01_Lines p = some r ∧ r.length ≤ p.length := by
 obtain ⟨o, q, e1, e2, h1, h2⟩ := iter_two (b := F_char_Lines_l0 p) (c := F_lecternref01_Lines_l0 p) (fun x => p.length - x.2.toNat) (fun x y => x = y ∧ ∃ (l : List UInt8) (i : Nat), x = (l, (i : Int)) ∧ i ≤ p.length ∧ l.length ≤ i) (fun o q => o = q ∧ o.length ≤ p.length) (by
  rintro _ _ ⟨rfl, l, i, rfl, hi, hl⟩
  by_cases hlt : i < p.length
  ·left
   have := lnP_len p i
   exact ⟨_, _, fun rec => lines_step1 p i l hlt hl hp rec, fun rec => lines_step2 p i l hlt hl hp rec, ⟨rfl, _, i + 1, rfl, by omega, by rw [List.length_append]; omega⟩, by dsimp only; omega⟩
  ·right
   refine ⟨l, l, fun rec => ?_, fun rec => ?_, rfl, by omega⟩
   ·unfold F_char_Lines_l0; dsimp only; rw [decide_eq_false (by omega), cond_false]
   ·unfold F_lecternref01_Lines_l0; dsimp only; rw [decide_eq_false (by omega), cond_false]) FUEL FUEL (([] : List UInt8), (0 : Int)) (([] : List UInt8), (0 : Int)) ⟨rfl, [], 0, rfl, Nat.zero_le _, Nat.le_refl _⟩ (by unfold FUEL; dsimp only; omega) (by unfold FUEL; dsimp only; omega)
 subst h1
 refine ⟨o, ?_, ?_, h2⟩
 ·unfold F_char_Lines
  simp only [letJ]
  rw [show mkG 1 (0 : Int) (p.length : Int) = some () by unfold mkG; rw [if_pos (by omega)], Option.bind_some, Option.bind_some, show (List.replicate (Int.toNat (0 : Int)) (0 : UInt8)) = [] from rfl, e1, Option.bind_some]
 ·unfold F_lecternref01_Lines
  simp only [letJ]
  rw [e2, Option.bind_some]
theorem plain_two (p : List UInt8) (hp : p.length ≤ 1073741824) : ∃ r, F_scan_Plain p = some r ∧ F_lecternref03_Text p = some r ∧ r.length ≤ p.length := by
 have key : ∀ a : List UInt8, a.length ≤ p.length → (F_bytes_TrimPrefix p [239, 187, 191] = some a) → (∀ r, F_lecternref01_Lines a = some r → F_lecternref03_Text p = some r) → ∃ r, F_scan_Plain p = some r ∧ F_lecternref03_Text p = some r ∧ r.length ≤ p.length := by
  intro a ha h1 h2
  obtain ⟨r, r1, r2, r3⟩ := lines_two a (by omega)
  refine ⟨r, ?_, h2 r r2, by omega⟩
  unfold F_scan_Plain
  rw [show u8 (239 : Int) = some 239 from rfl, show u8 (187 : Int) = some 187 from rfl, show u8 (191 : Int) = some 191 from rfl, Option.bind_some, Option.bind_some, Option.bind_some, h1, Option.bind_some, r1, Option.bind_some]
 have no : ([239, 187, 191] : List UInt8).isPrefixOf p = false → (∀ r, F_lecternref01_Lines p = some r → F_lecternref03_Text p = some r) → ∃ r, F_scan_Plain p = some r ∧ F_lecternref03_Text p = some r ∧ r.length ≤ p.length := by
  intro h h2
  refine key p (Nat.le_refl _) ?_ h2
  unfold F_bytes_TrimPrefix
  rw [hasPrefix_eq, Option.bind_some, h, cond_false]
 rcases p with _ | ⟨a, _ | ⟨b, _ | ⟨c, q⟩⟩⟩
 ·exact no rfl fun r hr => (by
   unfold F_lecternref03_Text; simp only [letJ]
   rw [decide_eq_false (by simp), cond_false, cond_false, cond_false, cond_false, hr, Option.bind_some])
 ·exact no (by simp [List.isPrefixOf]) fun r hr => (by
   unfold F_lecternref03_Text; simp only [letJ]
   rw [decide_eq_false (by simp), cond_false, cond_false, cond_false, cond_false, hr, Option.bind_some])
 ·exact no (by simp [List.isPrefixOf]) fun r hr => (by
   unfold F_lecternref03_Text; simp only [letJ]
   rw [decide_eq_false (by simp), cond_false, cond_false, cond_false, cond_false, hr, Option.bind_some])
 ·have hd : decide ((3 : Int) ≤ ((a :: b :: c :: q).length : Int)) = true := decide_eq_true (by simp only [List.length_cons]; omega)
  have i0 : idx (a :: b :: c :: q) (0 : Int) = some a := idx_some (i := 0) (by simp)
  have i1 : idx (a :: b :: c :: q) (1 : Int) = some b := idx_some (i := 1) (by simp)
  have i2 : idx (a :: b :: c :: q) (2 : Int) = some c := idx_some (i := 2) (by simp)
  have ba := u8_beq a 239 (by omega)
  have bb := u8_beq b 187 (by omega)
  have bc := u8_beq c 191 (by omega)
  have hT : F_lecternref03_Text (a :: b :: c :: q) = cond (decide (a = 239)) (cond (decide (b = 187)) (cond (decide (c = 191)) (F_lecternref01_Lines q) (F_lecternref01_Lines (a :: b :: c :: q))) (F_lecternref01_Lines (a :: b :: c :: q))) (F_lecternref01_Lines (a :: b :: c :: q)) := by
   unfold F_lecternref03_Text
   simp only [letJ]
   rw [hd, cond_true, i0, Option.bind_some, i1, Option.bind_some, i2, Option.bind_some]
   rw [show (239 : Int) = ((239 : Nat) : Int) from rfl, show (187 : Int) = ((187 : Nat) : Int) from rfl, show (191 : Int) = ((191 : Nat) : Int) from rfl, ba, bb, bc]
   have hs : slc (a :: b :: c :: q) (3 : Int) ((a :: b :: c :: q).length : Int) = some q := slc_drop (n := 3) (l := a :: b :: c :: q) (by simp)
   have hbind : ∀ o : Option (List UInt8), (o.bind fun x => some x) = o := fun o => by cases o <;> rfl
   rw [hs, Option.bind_some, hbind, hbind]
   show cond (decide (a = 239)) _ _ = _
   cases decide (a = 239) with
   | false => rfl
   | true =>
    show cond (decide (b = 187)) _ _ = cond (decide (b = 187)) _ _
    cases decide (b = 187) with
    | false => rfl
    | true =>
     show cond (decide (c = 191)) _ _ = cond (decide (c = 191)) _ _
     cases decide (c = 191) <;> rfl
  by_cases hall : a = 239 ∧ b = 187 ∧ c = 191
  ·obtain ⟨rfl, rfl, rfl⟩ := hall
   refine key q (by simp only [List.length_cons]; omega) ?_ fun r hr => by rw [hT]; exact hr
   unfold F_bytes_TrimPrefix
   rw [hasPrefix_eq, Option.bind_some, show ([239, 187, 191] : List UInt8).isPrefixOf (239 :: 187 :: 191 :: q) = true by simp [List.isPrefixOf], cond_true]
   have hs : slc (239 :: 187 :: 191 :: q : List UInt8) ((([239, 187, 191] : List UInt8).length : Nat) : Int) ((239 :: 187 :: 191 :: q : List UInt8).length : Int) = some q := slc_drop (n := 3) (l := 239 :: 187 :: 191 :: q) (by simp)
   rw [hs, Option.bind_some]
  ·refine no ?_ fun r hr => ?_
   ·rw [Bool.eq_false_iff]
    intro h
    simp only [List.isPrefixOf, Bool.and_true, Bool.and_eq_true, beq_iff_eq] at h
    exact hall ⟨h.1.symm, h.2.1.symm, h.2.2.symm⟩
   ·rw [hT]
    by_cases ha : a = 239
    ·rw [decide_eq_true ha, cond_true]
     by_cases hb : b = 187
     ·rw [decide_eq_true hb, cond_true, decide_eq_false (fun h => hall ⟨ha, hb, h⟩), cond_false, hr]
     ·rw [decide_eq_false hb, cond_false, hr]
    ·rw [decide_eq_false ha, cond_false, hr]
def Pos (b : List UInt8) (L : List Tk) (j : Nat) : Prop := (∀ k t, L[k]? = some t → ∃ i j', TokOk b i t j' ∧ i < b.length ∧ (k = 0 → i = 0) ∧ (∀ t', 0 < k → L[k - 1]? = some t' → ∃ i', TokOk b i' t' i)) ∧ (L = [] → j = 0) ∧ (∀ t, 0 < L.length → L[L.length - 1]? = some t → ∃ i, TokOk b i t j)
end Go.Proofs.YtfokkdofcekdbaaGreatDoor
set_option maxRecDepth 20000
namespace Go.Proofs.YtfokkdofcekdbaaGreatDoor
open Go.Lib (decodeL decodeN)
structure Agr (U V : List UInt8) (n : Nat) : Prop where
 tk : U.take n = V.take n
 u : n ≤ U.length
 v : n ≤ V.length
 dec : ∀ j, j < n → decodeL (U.drop j) = decodeL (V.drop j)
theorem Agr.symm {U V : List UInt8} {n : Nat} (A : Agr U V n) : Agr V U n := ⟨A.tk.symm, A.v, A.u, fun j h => (A.dec j h).symm⟩
theorem Agr.get {U V : List UInt8} {n : Nat} (A : Agr U V n) {j : Nat} (h : j < n) : U[j]? = V[j]? := by
 have := congrArg (fun l : List UInt8 => l[j]?) A.tk
 simpa [List.getElem?_take, h] using this
theorem Agr.seg {U V : List UInt8} {n : Nat} (A : Agr U V n) {a k : Nat} (h : a + k ≤ n) : (U.drop a).take k = (V.drop a).take k := by
 apply List.ext_getElem?
 intro x
 rw [List.getElem?_take, List.getElem?_take]
 split
 ·rw [List.getElem?_drop, List.getElem?_drop, A.get (by omega)]
 ·rfl
theorem Agr.here {U V : List UInt8} {n : Nat} (A : Agr U V n) {j : Nat} {w : List UInt8} (h : j + w.length ≤ n) : hereP U j w = hereP V j w := by
 have h1 := A.u
 have h2 := A.v
 unfold hereP
 rw [isPre_take, isPre_take, A.seg h, decide_eq_true (by rw [List.length_drop]; omega), decide_eq_true (by rw [List.length_drop]; omega)]
theorem Agr.sk {U V : List UInt8} {n : Nat} (A : Agr U V n) (P : UInt8 → Bool) : ∀ (d j : Nat), j + d = n → Proofs.YtfokkdofcekdbaaGreatDoor.sk P U j < n → Proofs.YtfokkdofcekdbaaGreatDoor.sk P V j = Proofs.YtfokkdofcekdbaaGreatDoor.sk P U j
 | d, j, hd, h => by
  have h1 := A.u
  have h2 := A.v
  have hj : j < n := by
   have := (sk_le P U j (by omega)).1
   omega
  have hg : U[j]'(by omega) = V[j]'(by omega) := by
   have := A.get hj
   rw [List.getElem?_eq_getElem (by omega), List.getElem?_eq_getElem (by omega)] at this
   exact Option.some.inj this
  rw [sk_step (by omega : j < U.length)] at h ⊢
  rw [sk_step (by omega : j < V.length), hg]
  rw [hg] at h
  cases hp : P (V[j]'(by omega)) with
  | false => rfl
  | true =>
   rw [hp, if_pos rfl] at h
   rw [if_pos rfl, if_pos rfl]
   cases d with
   | zero => omega
   | succ d => exact Agr.sk A P d (j + 1) (by omega) h
def stopN (i k r : Int) : Bool := (r != 58) && (!partP r || ((k == i) && !startP r))
theorem name_step (b : List UInt8) (i k : Nat) (hk : k < b.length) (hb : b.length ≤ 1073741824) (rec : Int → Option Int) : F_scan_scanner_name_l0 ⟨b, (i : Int)⟩ rec (k : Int) = cond (stopN i k ((decodeL (b.drop k)).1 : Int)) (some (k : Int)) (rec ((k + (decodeL (b.drop k)).2 : Nat) : Int)) := by
 obtain ⟨d1, d2, _⟩ := dec_bytes b k hk
 unfold F_scan_scanner_name_l0
 dsimp only
 rw [decide_eq_true (by omega), cond_true, slc_drop (Nat.le_of_lt hk), Option.bind_some, decodeRune_eq b k hk, Option.bind_some]
 simp only [letJ, F_isPart, F_isStart, Option.bind_some]
 have hgo : IntKind.wrap .i64 ((k : Int) + ((decodeL (b.drop k)).2 : Int)) = ((k + (decodeL (b.drop k)).2 : Nat) : Int) := by rw [w64 (by omega) (by omega)]; omega
 rw [hgo]
 unfold stopN
 cases ((decodeL (b.drop k)).1 : Int) != 58 with
 | false => rfl
 | true =>
  cases partP ((decodeL (b.drop k)).1 : Int) with
  | false => rfl
  | true =>
   cases ((k : Int) == (i : Int)) with
   | false => rfl
   | true => cases startP ((decodeL (b.drop k)).1 : Int) <;> rfl
theorem name_end (b : List UInt8) (i : Nat) (rec : Int → Option Int) : F_scan_scanner_name_l0 ⟨b, (i : Int)⟩ rec (b.length : Int) = some (b.length : Int) := by
 unfold F_scan_scanner_name_l0
 dsimp only
 rw [decide_eq_false (by omega), cond_false]
theorem name_eq (b : List UInt8) (i j : Nat) (h : iter (F_scan_scanner_name_l0 ⟨b, (i : Int)⟩) FUEL (i : Int) = some (j : Int)) (h1 : i ≤ j) (h2 : j ≤ b.length) :
  F_scan_scanner_name ⟨b, (i : Int)⟩ = cond ((b.drop i).take (j - i) == ([] : List UInt8)) (some (([], 23), ⟨b, (i : Int)⟩)) ((F_char_Split ((b.drop i).take (j - i))).bind fun x => cond (!x.2.2) (some (([], 24), ⟨b, (i : Int)⟩)) (some (((b.drop i).take (j - i), 0), ⟨b, (j : Int)⟩))) := by
 unfold F_scan_scanner_name
 simp only [letJ]
 rw [h, Option.bind_some]
 have hsl : slc b (i : Int) (j : Int) = some ((b.drop i).take (j - i)) := by
  unfold slc; rw [if_pos (by omega)]; simp only [Int.toNat_natCast]
 rw [hsl, Option.bind_some]
theorem ixB_of {l : List UInt8} {c : UInt8} {m : Nat} (h1 : l[m]? = some c) (h2 : ∀ k, k < m → l[k]? ≠ some c) : Lib.indexByte l c = (m : Int) := by
 by_cases hn : Lib.indexByte l c < 0
 ·have hge := Lib.indexByte_ge l c
  exact absurd h1 (Lib.indexByte_none (by omega) m)
 ·obtain ⟨o, e1, e2⟩ := ixB_nat l c hn
  obtain ⟨g1, g2⟩ := Lib.indexByte_some e1
  rw [e1]
  rcases Nat.lt_trichotomy o m with h | h | h
  ·exact absurd g1 (h2 o h)
  ·rw [h]
  ·exact absurd h1 (g2 m h)
theorem Agr.index {U V : List UInt8} {n : Nat} (A : Agr U V n) {a m : Nat} {w : List UInt8} (h : Lib.index (U.drop a) w = (m : Int)) (hm : a + m + w.length ≤ n) : Lib.index (V.drop a) w = (m : Int) := by
 have h1 := A.v
 have oc : ∀ k, k ≤ m → Lib.occAt (V.drop a) w k = Lib.occAt (U.drop a) w k := by
  intro k hk
  unfold Lib.occAt
  rw [List.drop_drop, List.drop_drop]
  exact (A.here (j := a + k) (w := w) (by omega)).symm
 rcases Lib.index_spec (U.drop a) w with ⟨g, _⟩ | ⟨i, g1, g2, g3, g4⟩
 ·omega
 ·have : i = m := by omega
  subst this
  refine Lib.index_first (by rw [List.length_drop]; omega) (by rw [oc i (Nat.le_refl _)]; exact g3) fun k hk => ?_
  rw [oc k (by omega)]
  exact g4 k hk
def quo (b : List UInt8) (i : Nat) : ((List UInt8) × Int) × T_scan_scanner :=
 if (hereP b i [39] = true ∨ hereP b i [34] = true) ∧ 0 ≤ Lib.indexByte (b.drop (i + 1)) (b.getD i 0) then (((b.drop (i + 1)).take (Lib.indexByte (b.drop (i + 1)) (b.getD i 0)).toNat, 0), ⟨b, ((i + ((Lib.indexByte (b.drop (i + 1)) (b.getD i 0)).toNat + 2) : Nat) : Int)⟩) else (([], 23), ⟨b, (i : Int)⟩)
theorem quoted_eq (b : List UInt8) (i : Nat) (hi : i ≤ b.length) (hb : b.length ≤ 1073741824) : F_scan_scanner_quoted ⟨b, (i : Int)⟩ = some (quo b i) := by
 have main : i < b.length → (hereP b i [39] = true ∨ hereP b i [34] = true) → ((slc b (IntKind.wrap .i64 ((i : Int) + (1 : Int))) (b.length : Int)).bind fun x7 =>
   (idx b (i : Int)).bind fun x8 =>
   (L_bIndexByte x7 (x8.toNat : Int)).bind fun x9 =>
   cond (decide (x9 < (0 : Int)))
   (some ((([] : List UInt8), (23 : Int)), (⟨b, (i : Int)⟩ : T_scan_scanner)))
   ((slc x7 (0 : Int) x9).bind fun x11 =>
   some ((x11, (0 : Int)), (⟨b, (IntKind.wrap .i64 ((i : Int) + (IntKind.wrap .i64 (x9 + (2 : Int)))))⟩ : T_scan_scanner)))) = some (quo b i) := by
  intro hlt hq
  have hg : b.getD i 0 = b[i] := by simp [List.getD, hlt]
  unfold quo
  rw [w64 (x := (i : Int) + 1) (by omega) (by omega), show (i : Int) + 1 = ((i + 1 : Nat) : Int) by omega, slc_drop hlt, Option.bind_some, idx_some hlt, Option.bind_some, hg]
  unfold L_bIndexByte
  rw [nat_u8, Option.bind_some]
  by_cases hn : Lib.indexByte (b.drop (i + 1)) b[i] < 0
  ·rw [decide_eq_true hn, cond_true, if_neg (fun h => by omega)]
  ·obtain ⟨n, e1, e2⟩ := ixB_nat _ _ hn
   rw [decide_eq_false hn, cond_false, if_pos ⟨hq, by omega⟩, e1, slc_take0 (Nat.le_of_lt e2), Option.bind_some, Int.toNat_natCast]
   rw [List.length_drop] at e2
   rw [w64 (x := (n : Int) + 2) (by omega) (by omega), w64 (by omega) (by omega)]
   rfl
 unfold F_scan_scanner_quoted
 dsimp only
 rw [here_eq b i _ hi, here_eq b i _ hi, Option.bind_some]
 simp only [letJ]
 cases h1 : hereP b i [39] with
 | true =>
  have := hereP_len h1 hi
  rw [Bool.not_true, cond_false, cond_false]
  exact main (by simp at this; omega) (.inl h1)
 | false =>
  rw [Bool.not_false, cond_true, Option.bind_some]
  cases h2 : hereP b i [34] with
  | true =>
   have := hereP_len h2 hi
   rw [Bool.not_true, cond_false]
   exact main (by simp at this; omega) (.inr h2)
  | false =>
   rw [Bool.not_false, cond_true]
   unfold quo
   rw [if_neg (fun h => by rw [h1, h2] at h; simp at h)]
theorem equals_eq (b : List UInt8) (i : Nat) (hi : i ≤ b.length) (hb : b.length ≤ 1073741824) : F_scan_scanner_equals ⟨b, (i : Int)⟩ = some (if hereP b (sk wsP b i) [61] = true then (0, ⟨b, ((sk wsP b (sk wsP b i + 1) : Nat) : Int)⟩) else (23, ⟨b, ((sk wsP b (sk wsP b i) : Nat) : Int)⟩)) := by
 obtain ⟨s1, s2⟩ := sk_le wsP b i hi
 unfold F_scan_scanner_equals
 rw [spaces_eq b _ i hi hb, Option.bind_some]
 dsimp only
 rw [sign_eq b _ _ s2 hb, Option.bind_some]
 cases h : hereP b (sk wsP b i) [61] with
 | false =>
  rw [if_neg (by simp), if_neg (by simp)]
  dsimp only
  rw [spaces_eq b _ _ s2 hb, Option.bind_some]
 | true =>
  have hl := hereP_len h s2
  rw [if_pos rfl, if_pos rfl]
  dsimp only
  rw [spaces_eq b _ _ hl hb, Option.bind_some]
  rfl
end Go.Proofs.YtfokkdofcekdbaaGreatDoor
set_option maxRecDepth 20000
namespace Go.Proofs.YtfokkdofcekdbaaGreatDoor
open Go.Lib (decodeL decodeN)
end Go.Proofs.YtfokkdofcekdbaaGreatDoor
set_option maxRecDepth 20000
namespace Go.Proofs.YtfokkdofcekdbaaGreatDoor
open Go.Lib (decodeL decodeN)
def HdP (k : Nat) (c : UInt8) : Prop := c = 63 ∨ (k ≤ 0 ∧ c = 118) ∨ (k ≤ 1 ∧ c = 101) ∨ (k ≤ 2 ∧ c = 115)
end Go.Proofs.YtfokkdofcekdbaaGreatDoor
set_option maxRecDepth 20000
namespace Go.Proofs.YtfokkdofcekdbaaGreatDoor
open Go.Lib (decodeL decodeN)
abbrev tok0 (i : Int) : Tk := ⟨(0 : Int), i, ([] : List UInt8), ([] : List T_scan_Pair), ([] : List UInt8), (0 : Int)⟩
abbrev tokK (k i : Int) : Tk := ⟨k, i, ([] : List UInt8), ([] : List T_scan_Pair), ([] : List UInt8), (0 : Int)⟩
def tokRest (b : List UInt8) (i : Nat) : Option (Int × T_scan_scanner × Tk) :=
 cond (hereP b i [60, 33, 45, 45])
  ((F_scan_scanner_upTo ⟨b, (i : Int)⟩ (tokK 7 i) (4 : Int) ([45, 45] : List UInt8)).bind fun x14 => cond (x14.1 != (0 : Int)) (some x14) ((F_scan_scanner_sign x14.2.1 ([62] : List UInt8)).bind fun x17 => some (x17.1, x17.2, x14.2.2)))
 (cond (hereP b i [60, 33, 91, 67, 68, 65, 84, 65, 91]) (F_scan_scanner_upTo ⟨b, (i : Int)⟩ (tokK 6 i) (9 : Int) ([93, 93, 62] : List UInt8))
 (cond (hereP b i [60, 33, 68, 79, 67, 84, 89, 80, 69]) (some (25, ⟨b, (i : Int)⟩, tok0 i))
 (cond (hereP b i [60, 33]) (some (23, ⟨b, (i : Int)⟩, tok0 i))
 (cond (hereP b i [60, 63]) (F_scan_scanner_instr ⟨b, (i : Int)⟩ (tok0 i))
 (cond (hereP b i [60, 47]) (F_scan_scanner_closing ⟨b, (i : Int)⟩ (tok0 i))
 (cond (hereP b i [60]) (F_scan_scanner_tag ⟨b, (i : Int)⟩ (tok0 i)) (F_scan_scanner_text ⟨b, (i : Int)⟩ (tok0 i))))))))
def declP (b : List UInt8) (i : Nat) : Bool := decide (i = 0) && (hereP b 0 [60, 63, 120, 109, 108] && decide (5 < sk wsP b 5))
theorem bind_eta (o : Option (Int × T_scan_scanner × T_scan_Token)) : (o.bind fun x => some (x.1, x.2.1, x.2.2)) = o := by cases o <;> rfl
theorem token_eq (b : List UInt8) (i : Nat) (hi : i ≤ b.length) (hb : b.length ≤ 1073741824) : F_scan_scanner_token ⟨b, (i : Int)⟩ (tok0 i) = cond (declP b i) (F_scan_scanner_decl ⟨b, (0 : Int)⟩ (tok0 0)) (tokRest b i) := by
 have rest : ((F_scan_scanner_here (⟨b, (i : Int)⟩ : T_scan_scanner) ([60, 33, 45, 45] : List UInt8)).bind fun x12 =>
    cond x12
    ((F_scan_scanner_upTo ⟨b, (i : Int)⟩ (⟨(7 : Int), (i : Int), ([] : List UInt8), ([] : List T_scan_Pair), ([] : List UInt8), (0 : Int)⟩ : T_scan_Token) (4 : Int) ([45, 45] : List UInt8)).bind fun x14 =>
    cond (x14.1 != (0 : Int))
     (some (x14.1, x14.2.1, x14.2.2))
     ((F_scan_scanner_sign x14.2.1 ([62] : List UInt8)).bind fun x17 =>
     some (x17.1, x17.2, x14.2.2)))
    ((F_scan_scanner_here (⟨b, (i : Int)⟩ : T_scan_scanner) ([60, 33, 91, 67, 68, 65, 84, 65, 91] : List UInt8)).bind fun x18 =>
    cond x18
     ((F_scan_scanner_upTo ⟨b, (i : Int)⟩ (⟨(6 : Int), (i : Int), ([] : List UInt8), ([] : List T_scan_Pair), ([] : List UInt8), (0 : Int)⟩ : T_scan_Token) (9 : Int) ([93, 93, 62] : List UInt8)).bind fun x20 =>
     some (x20.1, x20.2.1, x20.2.2))
     ((F_scan_scanner_here (⟨b, (i : Int)⟩ : T_scan_scanner) ([60, 33, 68, 79, 67, 84, 89, 80, 69] : List UInt8)).bind fun x22 =>
     cond x22
     (some ((25 : Int), (⟨b, (i : Int)⟩ : T_scan_scanner), (⟨(0 : Int), (i : Int), ([] : List UInt8), ([] : List T_scan_Pair), ([] : List UInt8), (0 : Int)⟩ : T_scan_Token)))
     ((F_scan_scanner_here (⟨b, (i : Int)⟩ : T_scan_scanner) ([60, 33] : List UInt8)).bind fun x24 =>
     cond x24
      (some ((23 : Int), (⟨b, (i : Int)⟩ : T_scan_scanner), (⟨(0 : Int), (i : Int), ([] : List UInt8), ([] : List T_scan_Pair), ([] : List UInt8), (0 : Int)⟩ : T_scan_Token)))
      ((F_scan_scanner_here (⟨b, (i : Int)⟩ : T_scan_scanner) ([60, 63] : List UInt8)).bind fun x26 =>
      cond x26
      ((F_scan_scanner_instr (⟨b, (i : Int)⟩ : T_scan_scanner) ⟨(0 : Int), (i : Int), ([] : List UInt8), ([] : List T_scan_Pair), ([] : List UInt8), (0 : Int)⟩).bind fun x28 =>
      some (x28.1, x28.2.1, x28.2.2))
      ((F_scan_scanner_here (⟨b, (i : Int)⟩ : T_scan_scanner) ([60, 47] : List UInt8)).bind fun x30 =>
      cond x30
       ((F_scan_scanner_closing (⟨b, (i : Int)⟩ : T_scan_scanner) ⟨(0 : Int), (i : Int), ([] : List UInt8), ([] : List T_scan_Pair), ([] : List UInt8), (0 : Int)⟩).bind fun x32 =>
       some (x32.1, x32.2.1, x32.2.2))
       ((F_scan_scanner_here (⟨b, (i : Int)⟩ : T_scan_scanner) ([60] : List UInt8)).bind fun x34 =>
       cond x34
       ((F_scan_scanner_tag (⟨b, (i : Int)⟩ : T_scan_scanner) ⟨(0 : Int), (i : Int), ([] : List UInt8), ([] : List T_scan_Pair), ([] : List UInt8), (0 : Int)⟩).bind fun x36 =>
       some (x36.1, x36.2.1, x36.2.2))
       ((F_scan_scanner_text (⟨b, (i : Int)⟩ : T_scan_scanner) ⟨(0 : Int), (i : Int), ([] : List UInt8), ([] : List T_scan_Pair), ([] : List UInt8), (0 : Int)⟩).bind fun x38 =>
       some (x38.1, x38.2.1, x38.2.2))))))))) = tokRest b i := by
  simp only [here_eq b i _ hi, Option.bind_some, bind_eta]
  rfl
 unfold F_scan_scanner_token
 simp only [letJ]
 unfold declP
 by_cases h0 : i = 0
 ·subst h0
  rw [show (((0 : Nat) : Int) == (0 : Int)) = true from rfl, cond_true, here_eq b 0 _ hi, Option.bind_some, decide_eq_true (rfl : (0 : Nat) = 0), Bool.true_and]
  cases c0 : hereP b 0 [60, 63, 120, 109, 108] with
  | false => rw [cond_false, cond_false, Bool.false_and, cond_false]; exact rest
  | true =>
   have hl := hereP_len c0 hi
   have h5 : 5 ≤ b.length := by simpa using hl
   rw [cond_true, show (5 : Int) = ((5 : Nat) : Int) from rfl, spaces_eq b _ 5 h5 hb, Option.bind_some, Bool.true_and]
   by_cases h5' : 5 < sk wsP b 5
   ·rw [decide_eq_true (show (((5 : Nat) : Int) < ((sk wsP b 5 : Nat) : Int)) by omega), decide_eq_true h5', cond_true, cond_true, bind_eta]; rfl
   ·rw [decide_eq_false (show ¬ (((5 : Nat) : Int) < ((sk wsP b 5 : Nat) : Int)) by omega), decide_eq_false h5', cond_false, cond_false]; exact rest
 ·rw [show ((i : Int) == (0 : Int)) = false by rw [beq_eq_false_iff_ne]; omega, cond_false, cond_false, decide_eq_false h0, Bool.false_and, cond_false]
  exact rest
end Go.Proofs.YtfokkdofcekdbaaGreatDoor

set_option linter.unusedSimpArgs false
set_option linter.unusedVariables false
set_option maxRecDepth 20000
namespace Go.Proofs.YtfokkdofcekdbaaGreatDoor
open Go.Lib (decodeL decodeN)
theorem decN_more {n m b0 b1 b2 b3 c1 c2 c3 : Nat} (h : badR (decodeN n b0 b1 b2 b3) = false) (hnm : n ≤ m) (h1 : 1 < n → c1 = b1) (h2 : 2 < n → c2 = b2) (h3 : 3 < n → c3 = b3) : decodeN m b0 c1 c2 c3 = decodeN n b0 b1 b2 b3 := by
 have hb : ¬ ((decodeN n b0 b1 b2 b3).1 = 65533 ∧ (decodeN n b0 b1 b2 b3).2 = 1) := by
  unfold badR at h; simpa using h
 unfold decodeN at hb ⊢
 by_cases a0 : b0 < 128
 ·rw [if_pos a0, if_pos a0]
 rw [if_neg a0] at hb
 rw [if_neg a0, if_neg a0]
 by_cases a1 : b0 / 32 = 6 ∧ (1 < n ∧ b1 / 64 = 2)
 ·have e1 := h1 a1.2.1
  rw [if_pos a1, if_pos ⟨a1.1, by omega, by rw [e1]; exact a1.2.2⟩, e1]
 rw [if_neg a1] at hb
 rw [if_neg a1]
 by_cases a2 : b0 / 16 = 14 ∧ (1 < n ∧ b1 / 64 = 2) ∧ (2 < n ∧ b2 / 64 = 2)
 ·have e1 := h1 a2.2.1.1
  have e2 := h2 a2.2.2.1
  rw [if_pos a2, if_neg (by omega), if_pos ⟨a2.1, ⟨by omega, by rw [e1]; exact a2.2.1.2⟩, by omega, by rw [e2]; exact a2.2.2.2⟩, e1, e2]
 rw [if_neg a2] at hb
 rw [if_neg a2]
 by_cases a3 : b0 / 8 = 30 ∧ (1 < n ∧ b1 / 64 = 2) ∧ (2 < n ∧ b2 / 64 = 2) ∧ (3 < n ∧ b3 / 64 = 2)
 ·have e1 := h1 a3.2.1.1
  have e2 := h2 a3.2.2.1.1
  have e3 := h3 a3.2.2.2.1
  rw [if_pos a3, if_neg (by omega), if_neg (by omega), if_pos ⟨a3.1, ⟨by omega, by rw [e1]; exact a3.2.1.2⟩, ⟨by omega, by rw [e2]; exact a3.2.2.1.2⟩, by omega, by rw [e3]; exact a3.2.2.2.2⟩, e1, e2, e3]
 rw [if_neg a3] at hb
 exact absurd ⟨rfl, rfl⟩ hb
theorem getD_appL {x y : List UInt8} {k : Nat} (h : k < x.length) : (x ++ y).getD k 0 = x.getD k 0 := by
 simp [List.getD, List.getElem?_append_left h]
theorem dec_app {x y : List UInt8} (hx : x ≠ []) (h : badR (decodeL x) = false) : decodeL (x ++ y) = decodeL x := by
 have hp : 0 < x.length := List.length_pos_iff.2 hx
 rw [Lib.decodeL_N x] at h ⊢
 rw [Lib.decodeL_N (x ++ y), getD_appL hp]
 exact decN_more h (by rw [List.length_append]; omega) (fun g => by rw [getD_appL g]) (fun g => by rw [getD_appL g]) (fun g => by rw [getD_appL g])
theorem decN_stop {n m b0 b1 b2 b3 c1 c2 c3 : Nat} (hn : 1 ≤ n) (hnm : n ≤ m) (h1 : 1 < n → c1 = b1) (h2 : 2 < n → c2 = b2) (h3 : 3 < n → c3 = b3) (s1 : n = 1 → c1 < 128) (s2 : n = 2 → c2 < 128) (s3 : n = 3 → c3 < 128) : decodeN m b0 c1 c2 c3 = decodeN n b0 b1 b2 b3 := by
 have q1 : (1 < m ∧ c1 / 64 = 2) ↔ (1 < n ∧ b1 / 64 = 2) := by
  by_cases g : 1 < n
  ·have := h1 g; subst this; constructor <;> rintro ⟨_, q⟩ <;> exact ⟨by omega, q⟩
  ·have := s1 (by omega); constructor <;> rintro ⟨_, q⟩ <;> omega
 have q2 : (1 < n ∧ b1 / 64 = 2) → ((2 < m ∧ c2 / 64 = 2) ↔ (2 < n ∧ b2 / 64 = 2)) := by
  rintro ⟨g1, _⟩
  by_cases g : 2 < n
  ·have := h2 g; subst this; constructor <;> rintro ⟨_, q⟩ <;> exact ⟨by omega, q⟩
  ·have := s2 (by omega); constructor <;> rintro ⟨_, q⟩ <;> omega
 have q3 : (2 < n ∧ b2 / 64 = 2) → ((3 < m ∧ c3 / 64 = 2) ↔ (3 < n ∧ b3 / 64 = 2)) := by
  rintro ⟨g1, _⟩
  by_cases g : 3 < n
  ·have := h3 g; subst this; constructor <;> rintro ⟨_, q⟩ <;> exact ⟨by omega, q⟩
  ·have := s3 (by omega); constructor <;> rintro ⟨_, q⟩ <;> omega
 unfold decodeN
 by_cases a0 : b0 < 128
 ·rw [if_pos a0, if_pos a0]
 rw [if_neg a0, if_neg a0]
 by_cases a1 : b0 / 32 = 6 ∧ (1 < n ∧ b1 / 64 = 2)
 ·rw [if_pos a1, if_pos ⟨a1.1, q1.2 a1.2⟩, h1 a1.2.1]
 rw [if_neg a1, if_neg (fun h => a1 ⟨h.1, q1.1 h.2⟩)]
 by_cases a2 : b0 / 16 = 14 ∧ (1 < n ∧ b1 / 64 = 2) ∧ (2 < n ∧ b2 / 64 = 2)
 ·rw [if_pos a2, if_pos ⟨a2.1, q1.2 a2.2.1, (q2 a2.2.1).2 a2.2.2⟩, h1 a2.2.1.1, h2 a2.2.2.1]
 rw [if_neg a2, if_neg (fun h => a2 ⟨h.1, q1.1 h.2.1, (q2 (q1.1 h.2.1)).1 h.2.2⟩)]
 by_cases a3 : b0 / 8 = 30 ∧ (1 < n ∧ b1 / 64 = 2) ∧ (2 < n ∧ b2 / 64 = 2) ∧ (3 < n ∧ b3 / 64 = 2)
 ·rw [if_pos a3, if_pos ⟨a3.1, q1.2 a3.2.1, (q2 a3.2.1).2 a3.2.2.1, (q3 a3.2.2.1).2 a3.2.2.2⟩, h1 a3.2.1.1, h2 a3.2.2.1.1, h3 a3.2.2.2.1]
 rw [if_neg a3, if_neg (fun h => a3 ⟨h.1, q1.1 h.2.1, (q2 (q1.1 h.2.1)).1 h.2.2.1, (q3 ((q2 (q1.1 h.2.1)).1 h.2.2.1)).1 h.2.2.2⟩)]
theorem getD_appC {x y : List UInt8} {c : UInt8} {k : Nat} (h : x.length = k) : (x ++ c :: y).getD k 0 = c := by
 subst h; simp [List.getD]
theorem dec_stop {x y : List UInt8} {c : UInt8} (hx : x ≠ []) (hc : c.toNat < 128) : decodeL (x ++ c :: y) = decodeL x := by
 have hp : 0 < x.length := List.length_pos_iff.2 hx
 rw [Lib.decodeL_N x, Lib.decodeL_N (x ++ c :: y), getD_appL hp]
 exact decN_stop hp (by rw [List.length_append]; omega) (fun g => by rw [getD_appL g]) (fun g => by rw [getD_appL g]) (fun g => by rw [getD_appL g]) (fun g => by rw [getD_appC g]; exact hc) (fun g => by rw [getD_appC g]; exact hc) (fun g => by rw [getD_appC g]; exact hc)
theorem dec_ascii (c : UInt8) (y : List UInt8) (hc : c.toNat < 128) : decodeL (c :: y) = (c.toNat, 1) := by
 have := (dec_bytes (c :: y) 0 (by simp)).2.2.1
 simpa using this hc
inductive OkT : List UInt8 → Prop
 | nil : OkT []
 | cons {l : List UInt8} : l ≠ [] → badR (decodeL l) = false → charP ((decodeL l).1 : Int) = true → OkT (l.drop (decodeL l).2) → OkT l
theorem okT_inv {l : List UInt8} (h : OkT l) (hl : l ≠ []) : badR (decodeL l) = false ∧ charP ((decodeL l).1 : Int) = true ∧ OkT (l.drop (decodeL l).2) := by
 cases h with
 | nil => exact absurd rfl hl
 | cons _ a b c => exact ⟨a, b, c⟩
theorem dec_pos {l : List UInt8} (h : l ≠ []) : 1 ≤ (decodeL l).2 ∧ (decodeL l).2 ≤ l.length := by
 have := dec_bytes l 0 (List.length_pos_iff.2 h)
 simp only [List.drop_zero, Nat.zero_add] at this
 exact ⟨this.1, this.2.1⟩
theorem fault_step (b : List UInt8) (i : Nat) (hi : i < b.length) (hb : b.length ≤ 1073741824) (rec) : F_char_Fault_l0 b rec (i : Int) = if badR (decodeL (b.drop i)) then some (.inr ((i : Int), (20 : Int))) else if charP ((decodeL (b.drop i)).1 : Int) then rec ((i + (decodeL (b.drop i)).2 : Nat) : Int) else some (.inr ((i : Int), (21 : Int))) := by
 unfold F_char_Fault_l0
 rw [decide_eq_true (show (i : Int) < (b.length : Int) by omega), cond_true, F_next b i hi hb, Option.bind_some]
 cases badR (decodeL (b.drop i)) with
 | true => rfl
 | false => cases charP ((decodeL (b.drop i)).1 : Int) <;> rfl
theorem drop_nn {α : Type} {l : List α} {i : Nat} (h : i < l.length) : l.drop i ≠ [] := fun g => by
 have := congrArg List.length g; simp at this; omega
theorem fault_iff (b : List UInt8) (hb : b.length ≤ 1073741824) : (F_char_Fault b = some (0, 0) ∧ OkT b) ∨ (∃ (i : Nat) (e : Int), F_char_Fault b = some ((i : Int), e) ∧ e ≠ 0 ∧ ¬ OkT b ∧ i ≤ b.length) := by
 obtain ⟨o, e, h⟩ := iter_dec (b := F_char_Fault_l0 b) (fun x => b.length - x.toNat) (fun x => ∃ i : Nat, x = (i : Int) ∧ i ≤ b.length ∧ (OkT b ↔ OkT (b.drop i))) (fun o => (o = .inl () ∧ OkT b) ∨ ∃ (i : Nat) (f : Int), o = .inr ((i : Int), f) ∧ f ≠ 0 ∧ ¬ OkT b ∧ i ≤ b.length) (by
  rintro _ ⟨i, rfl, hi, hiff⟩
  by_cases hlt : i < b.length
  ·obtain ⟨d1, d2, _⟩ := dec_bytes b i hlt
   have hne := drop_nn hlt
   simp only [fault_step b i hlt hb]
   cases hbad : badR (decodeL (b.drop i)) with
   | true =>
    right
    exact ⟨_, fun _ => rfl, .inr ⟨i, 20, rfl, by decide, fun h => (by have := (okT_inv (hiff.1 h) hne).1; rw [hbad] at this; cases this), hi⟩⟩
   | false =>
    cases hc : charP ((decodeL (b.drop i)).1 : Int) with
    | false =>
     right
     exact ⟨_, fun _ => rfl, .inr ⟨i, 21, rfl, by decide, fun h => (by have := (okT_inv (hiff.1 h) hne).2.1; rw [hc] at this; cases this), hi⟩⟩
    | true =>
     left
     refine ⟨_, fun _ => rfl, ⟨i + (decodeL (b.drop i)).2, rfl, d2, hiff.trans ?_⟩, by rw [Int.toNat_natCast, Int.toNat_natCast]; omega⟩
     rw [← List.drop_drop]
     exact ⟨fun h => (okT_inv h hne).2.2, fun h => .cons hne hbad hc h⟩
  ·right
   refine ⟨.inl (), fun rec => ?_, .inl ⟨rfl, ?_⟩⟩
   ·unfold F_char_Fault_l0
    rw [decide_eq_false (by omega), cond_false]
   ·rw [hiff, List.drop_eq_nil_of_le (by omega)]; exact .nil) FUEL (0 : Int) ⟨0, rfl, Nat.zero_le _, by rw [List.drop_zero]⟩ (by unfold FUEL; omega)
 unfold F_char_Fault
 simp only [letJ]
 rw [e, Option.bind_some]
 rcases h with ⟨rfl, h⟩ | ⟨i, f, rfl, hf, hn, hi⟩
 ·exact .inl ⟨rfl, h⟩
 ·exact .inr ⟨i, f, rfl, hf, hn, hi⟩
end Go.Proofs.YtfokkdofcekdbaaGreatDoor
set_option maxRecDepth 20000
namespace Go.Proofs.YtfokkdofcekdbaaGreatDoor
open Go.Lib (decodeL decodeN)
def lnR : Bool → List UInt8 → List UInt8
 | _, [] => []
 | pc, c :: l => if c = 13 then 10 :: lnR true l else if c = 10 ∧ pc = true then lnR false l else c :: lnR false l
theorem lnR_len : ∀ (pc : Bool) (l : List UInt8), (lnR pc l).length ≤ l.length
 | _, [] => Nat.le_refl _
 | pc, c :: l => by
  have h1 := lnR_len true l
  have h2 := lnR_len false l
  simp only [lnR]
  split
  ·simp; omega
  ·split
   ·simp; omega
   ·simp; omega
theorem lnR_step (p : List UInt8) (i : Nat) (hi : i < p.length) : lnR (decide (0 < i ∧ p.getD (i - 1) 0 = 13)) (p.drop i) = lnP p i ++ lnR (decide (0 < i + 1 ∧ p.getD (i + 1 - 1) 0 = 13)) (p.drop (i + 1)) := by
 have hg : p.getD i 0 = p[i] := by simp [List.getD, hi]
 rw [List.drop_eq_getElem_cons hi, Nat.add_sub_cancel]
 simp only [lnR]
 unfold lnP
 rw [hg]
 by_cases h13 : p[i] = 13
 ·rw [if_pos h13, if_pos h13, decide_eq_true (by exact ⟨by omega, h13⟩)]; rfl
 ·rw [if_neg h13, if_neg h13, decide_eq_false (show ¬ (0 < i + 1 ∧ p[i] = 13) from fun h => h13 h.2)]
  by_cases h10 : p[i] = 10 ∧ 0 < i ∧ p.getD (i - 1) 0 = 13
  ·rw [if_pos ⟨h10.1, decide_eq_true h10.2⟩, if_pos h10]; rfl
  ·rw [if_neg (fun h => h10 ⟨h.1, of_decide_eq_true h.2⟩), if_neg h10]; rfl
theorem lines_eq (p : List UInt8) (hp : p.length ≤ 1073741824) : F_char_Lines p = some (lnR false p) := by
 obtain ⟨o, e, h⟩ := iter_dec (b := F_char_Lines_l0 p) (fun x => p.length - x.2.toNat) (fun x => ∃ (l : List UInt8) (i : Nat), x = (l, (i : Int)) ∧ i ≤ p.length ∧ l.length ≤ i ∧ l ++ lnR (decide (0 < i ∧ p.getD (i - 1) 0 = 13)) (p.drop i) = lnR false p) (fun o => o = lnR false p) (by
  rintro _ ⟨l, i, rfl, hi, hl, hE⟩
  by_cases hlt : i < p.length
  ·left
   have := lnP_len p i
   rw [lnR_step p i hlt, ← List.append_assoc] at hE
   exact ⟨_, fun rec => lines_step1 p i l hlt hl hp rec, ⟨_, i + 1, rfl, by omega, by rw [List.length_append]; omega, hE⟩, by dsimp only; omega⟩
  ·right
   rw [List.drop_eq_nil_of_le (by omega)] at hE
   refine ⟨l, fun rec => ?_, by rw [← hE]; simp [lnR]⟩
   unfold F_char_Lines_l0; dsimp only; rw [decide_eq_false (by omega), cond_false]) FUEL (([] : List UInt8), (0 : Int)) ⟨[], 0, rfl, Nat.zero_le _, Nat.le_refl _, by simp⟩ (by unfold FUEL; dsimp only; omega)
 unfold F_char_Lines
 simp only [letJ]
 rw [show mkG 1 (0 : Int) (p.length : Int) = some () by unfold mkG; rw [if_pos (by omega)], Option.bind_some, Option.bind_some, show (List.replicate (Int.toNat (0 : Int)) (0 : UInt8)) = [] from rfl, e, Option.bind_some, h]
def strip (p : List UInt8) : List UInt8 := if ([239, 187, 191] : List UInt8).isPrefixOf p = true then p.drop 3 else p
theorem strip_len (p : List UInt8) : (strip p).length ≤ p.length := by
 unfold strip; split
 ·rw [List.length_drop]; omega
 ·exact Nat.le_refl _
def pln (p : List UInt8) : List UInt8 := lnR false (strip p)
theorem pln_len (p : List UInt8) : (pln p).length ≤ p.length := Nat.le_trans (lnR_len _ _) (strip_len p)
theorem plain_eq (p : List UInt8) (hp : p.length ≤ 1073741824) : F_scan_Plain p = some (pln p) := by
 unfold F_scan_Plain F_bytes_TrimPrefix
 rw [show u8 (239 : Int) = some 239 from rfl, show u8 (187 : Int) = some 187 from rfl, show u8 (191 : Int) = some 191 from rfl, Option.bind_some, Option.bind_some, Option.bind_some, hasPrefix_eq, Option.bind_some]
 unfold pln strip
 cases h : ([239, 187, 191] : List UInt8).isPrefixOf p with
 | true =>
  have h' := h
  rw [isPre_take, Bool.and_eq_true, decide_eq_true_eq] at h'
  rw [cond_true, if_pos rfl, show slc p ((([239, 187, 191] : List UInt8).length : Nat) : Int) (p.length : Int) = some (p.drop 3) from slc_drop (n := 3) (by simpa using h'.1), Option.bind_some, Option.bind_some, lines_eq _ (by rw [List.length_drop]; omega), Option.bind_some]
 | false => rw [cond_false, if_neg (by simp), Option.bind_some, lines_eq p hp, Option.bind_some]
theorem text_eq (p : List UInt8) (hp : p.length ≤ 1073741824) : F_lecternref03_Text p = some (pln p) := by
 obtain ⟨r, r1, r2, _⟩ := plain_two p hp
 rw [plain_eq p hp] at r1
 rw [r2, r1]
theorem decN_cut {n b0 b1 b2 b3 w c1 c2 c3 : Nat} (h : badR (decodeN n b0 b1 b2 b3) = false) (hw : (decodeN n b0 b1 b2 b3).2 = w) (h1 : 1 < w → c1 = b1) (h2 : 2 < w → c2 = b2) (h3 : 3 < w → c3 = b3) : decodeN w b0 c1 c2 c3 = decodeN n b0 b1 b2 b3 := by
 have hb : ¬ ((decodeN n b0 b1 b2 b3).1 = 65533 ∧ (decodeN n b0 b1 b2 b3).2 = 1) := by
  unfold badR at h; simpa using h
 unfold decodeN at hb hw ⊢
 by_cases a0 : b0 < 128
 ·rw [if_pos a0, if_pos a0]
 rw [if_neg a0] at hb hw
 rw [if_neg a0, if_neg a0]
 by_cases a1 : b0 / 32 = 6 ∧ (1 < n ∧ b1 / 64 = 2)
 ·rw [if_pos a1] at hb hw
  rw [if_pos a1]
  split at hw
  ·have hw : 2 = w := hw
   subst hw
   have e1 := h1 (by omega)
   rw [if_pos ⟨a1.1, by omega, by rw [e1]; exact a1.2.2⟩, e1]
  ·rename_i hx; rw [if_neg hx] at hb; exact absurd ⟨rfl, rfl⟩ hb
 rw [if_neg a1] at hb hw
 rw [if_neg a1]
 by_cases a2 : b0 / 16 = 14 ∧ (1 < n ∧ b1 / 64 = 2) ∧ (2 < n ∧ b2 / 64 = 2)
 ·rw [if_pos a2] at hb hw
  rw [if_pos a2]
  split at hw
  ·have hw : 3 = w := hw
   subst hw
   have e1 := h1 (by omega)
   have e2 := h2 (by omega)
   rw [if_neg (by omega), if_pos ⟨a2.1, ⟨by omega, by rw [e1]; exact a2.2.1.2⟩, by omega, by rw [e2]; exact a2.2.2.2⟩, e1, e2]
  ·rename_i hx; rw [if_neg hx] at hb; exact absurd ⟨rfl, rfl⟩ hb
 rw [if_neg a2] at hb hw
 rw [if_neg a2]
 by_cases a3 : b0 / 8 = 30 ∧ (1 < n ∧ b1 / 64 = 2) ∧ (2 < n ∧ b2 / 64 = 2) ∧ (3 < n ∧ b3 / 64 = 2)
 ·rw [if_pos a3] at hb hw
  rw [if_pos a3]
  split at hw
  ·have hw : 4 = w := hw
   subst hw
   have e1 := h1 (by omega)
   have e2 := h2 (by omega)
   have e3 := h3 (by omega)
   rw [if_neg (by omega), if_neg (by omega), if_pos ⟨a3.1, ⟨by omega, by rw [e1]; exact a3.2.1.2⟩, ⟨by omega, by rw [e2]; exact a3.2.2.1.2⟩, by omega, by rw [e3]; exact a3.2.2.2.2⟩, e1, e2, e3]
  ·rename_i hx; rw [if_neg hx] at hb; exact absurd ⟨rfl, rfl⟩ hb
 rw [if_neg a3] at hb
 exact absurd ⟨rfl, rfl⟩ hb
theorem getD_take {l : List UInt8} {k w : Nat} (h : k < w) : (l.take w).getD k 0 = l.getD k 0 := by
 simp [List.getD, List.getElem?_take, h]
theorem dec_take {l : List UInt8} (hl : l ≠ []) (h : badR (decodeL l) = false) : decodeL (l.take (decodeL l).2) = decodeL l := by
 have hp := dec_pos hl
 generalize hw : (decodeL l).2 = w at hp ⊢
 rw [Lib.decodeL_N l] at h hw ⊢
 rw [Lib.decodeL_N (l.take w), getD_take (by omega), show (l.take w).length = w by rw [List.length_take]; omega]
 exact decN_cut h hw (fun g => by rw [getD_take g]) (fun g => by rw [getD_take g]) (fun g => by rw [getD_take g])
end Go.Proofs.YtfokkdofcekdbaaGreatDoor
set_option maxRecDepth 20000
namespace Go.Proofs.YtfokkdofcekdbaaGreatDoor
open Go.Lib (decodeL decodeN)
def textR (b : List UInt8) (i f : Nat) : Option (Int × T_scan_scanner × Tk) :=
 (F_refer_ReadText ((b.drop i).take (f - i))).bind fun x => (L_bCount ((b.drop i).take (f - i)) ([38] : List UInt8)).bind fun y => some (x.2.2, (⟨b, (f : Int)⟩ : T_scan_scanner), (⟨(5 : Int), (i : Int), [], [], x.1, y⟩ : Tk))
structure TxtAt (b : List UInt8) (i f : Nat) : Prop where
 lt : i < f
 le : f ≤ b.length
 no : ∀ x, i ≤ x → x < f → b[x]? ≠ some 60
 ed : f = b.length ∨ b[f]? = some 60
theorem text_mk {b : List UInt8} {i f : Nat} (hb : b.length ≤ 1073741824) (h : TxtAt b i f) : F_scan_scanner_text ⟨b, (i : Int)⟩ (tok0 i) = textR b i f := by
 obtain ⟨h1, h2, h3, h4⟩ := h
 have core : ∀ a : List UInt8, a = (b.drop i).take (f - i) → ((F_refer_ReadText a).bind fun x10 =>
  (L_bCount a ([38] : List UInt8)).bind fun x13 =>
  some (x10.2.2, (⟨b, (IntKind.wrap .i64 ((i : Int) + (a.length : Int)))⟩ : T_scan_scanner), (⟨(5 : Int), (i : Int), ([] : List UInt8), ([] : List T_scan_Pair), x10.1, x13⟩ : T_scan_Token))) = textR b i f := by
  intro a ha
  have hal : a.length = f - i := by rw [ha, List.length_take, List.length_drop]; omega
  rw [hal, w64 (by omega) (by omega), show (i : Int) + ((f - i : Nat) : Int) = (f : Int) by omega, ha]
  rfl
 unfold F_scan_scanner_text
 dsimp only
 rw [slc_drop (by omega), Option.bind_some]
 simp only [letJ]
 unfold L_bIndexByte
 rw [Option.bind_some]
 have h60' : ((60 : Int).toNat.toUInt8) = 60 := by decide
 rw [h60']
 by_cases hf : f = b.length
 ·have hno : Lib.indexByte (b.drop i) 60 < 0 := by
   apply Classical.byContradiction; intro hn
   obtain ⟨m, e1, e2⟩ := ixB_nat (b.drop i) 60 hn
   have := (Lib.indexByte_some e1).1
   rw [List.getElem?_drop] at this
   rw [List.length_drop] at e2
   exact h3 (i + m) (by omega) (by omega) this
  rw [decide_eq_false (by omega), cond_false]
  exact core _ (by rw [List.take_of_length_le (by rw [List.length_drop]; omega)])
 ·have hx : Lib.indexByte (b.drop i) 60 = ((f - i : Nat) : Int) := by
   refine ixB_of ?_ fun k hk => ?_
   ·rw [List.getElem?_drop, show i + (f - i) = f by omega]
    rcases h4 with h4 | h4
    ·exact absurd h4 hf
    ·exact h4
   ·rw [List.getElem?_drop]; exact h3 (i + k) (by omega) (by omega)
  rw [hx, decide_eq_true (by omega), cond_true, slc_take0 (by rw [List.length_drop]; omega), Option.bind_some]
  exact core _ rfl
theorem text_ex {b : List UInt8} {i : Nat} (hi : i < b.length) (h60 : b[i]? ≠ some 60) : ∃ f, TxtAt b i f := by
 by_cases hn : Lib.indexByte (b.drop i) 60 < 0
 ·refine ⟨b.length, hi, Nat.le_refl _, fun x h1 h2 => ?_, .inl rfl⟩
  have hge := Lib.indexByte_ge (b.drop i) 60
  have := Lib.indexByte_none (show Lib.indexByte (b.drop i) 60 = -1 by omega) (x - i)
  rwa [List.getElem?_drop, show i + (x - i) = x by omega] at this
 ·obtain ⟨m, e1, e2⟩ := ixB_nat (b.drop i) 60 hn
  obtain ⟨g1, g2⟩ := Lib.indexByte_some e1
  rw [List.getElem?_drop] at g1
  rw [List.length_drop] at e2
  refine ⟨i + m, ?_, by omega, fun x h1 h2 => ?_, .inr g1⟩
  ·rcases Nat.eq_zero_or_pos m with rfl | h
   ·exact absurd g1 h60
   ·omega
  ·have := g2 (x - i) (by omega)
   rwa [List.getElem?_drop, show i + (x - i) = x by omega] at this
inductive Tr (b : List UInt8) : List Tk → Nat → Prop
 | nil : Tr b [] 0
 | snoc {L : List Tk} {j k : Nat} {t : Tk} : Tr b L j → j < b.length → F_scan_scanner_token ⟨b, (j : Int)⟩ (tok0 j) = some (0, ⟨b, (k : Int)⟩, t) → TokOk b j t k → k ≤ b.length → Tr b (L ++ [t]) k
theorem all_step {b : List UInt8} {L : List Tk} {j k : Nat} {t : Tk} (hL : L.length ≤ 65536) (hj : j < b.length) (h : F_scan_scanner_token ⟨b, (j : Int)⟩ (tok0 j) = some (0, ⟨b, (k : Int)⟩, t)) (rec) : F_scan_All_l0 rec (b, (j : Int), L) = rec (b, (k : Int), L ++ [t]) := by
 have hne : ((j : Int) == (b.length : Int)) = false := by rw [beq_eq_false_iff_ne]; omega
 have h' : F_scan_scanner_token ⟨b, (j : Int)⟩ ⟨(0 : Int), (j : Int), ([] : List UInt8), ([] : List T_scan_Pair), ([] : List UInt8), (0 : Int)⟩ = some (0, ⟨b, (k : Int)⟩, t) := h
 unfold F_scan_All_l0
 dsimp only
 rw [hne, cond_false, h', Option.bind_some]
 dsimp only
 rw [show ((0 : Int) != 0) = false from rfl, cond_false, app_some (by simp; omega) (by simp; omega), Option.bind_some, Option.bind_some]
theorem all_bad {b : List UInt8} {L : List Tk} {j : Nat} {e : Int} {s : T_scan_scanner} {t : Tk} (hj : j < b.length) (he : e ≠ 0) (h : F_scan_scanner_token ⟨b, (j : Int)⟩ (tok0 j) = some (e, s, t)) (rec) : F_scan_All_l0 rec (b, (j : Int), L) = some ([], (j : Int), e) := by
 have hne : ((j : Int) == (b.length : Int)) = false := by rw [beq_eq_false_iff_ne]; omega
 have h' : F_scan_scanner_token ⟨b, (j : Int)⟩ ⟨(0 : Int), (j : Int), ([] : List UInt8), ([] : List T_scan_Pair), ([] : List UInt8), (0 : Int)⟩ = some (e, s, t) := h
 unfold F_scan_All_l0
 dsimp only
 rw [hne, cond_false, h', Option.bind_some]
 dsimp only
 rw [show (e != 0) = true by simpa using he, cond_true]
theorem all_end (b : List UInt8) (L : List Tk) (rec) : F_scan_All_l0 rec (b, (b.length : Int), L) = some (L, (0 : Int), (0 : Int)) := by
 unfold F_scan_All_l0
 dsimp only
 rw [show ((b.length : Int) == (b.length : Int)) = true by simp, cond_true]
theorem all_eq (p : List UInt8) (hp : p.length ≤ 65536) : F_scan_All p = (F_char_Fault (pln p)).bind fun x4 => cond (x4.2 != (0 : Int)) (some ([], x4.1, x4.2)) (iter F_scan_All_l0 FUEL (pln p, (0 : Int), ([] : List T_scan_Token))) := by
 have hbind : ∀ o : Option (List T_scan_Token × Int × Int), (o.bind fun x => some x) = o := fun o => by cases o <;> rfl
 unfold F_scan_All
 rw [decide_eq_false (by omega), cond_false, plain_eq p (by omega), Option.bind_some]
 dsimp only
 rw [hbind]
end Go.Proofs.YtfokkdofcekdbaaGreatDoor
set_option maxRecDepth 20000
namespace Go.Proofs.YtfokkdofcekdbaaGreatDoor
open Go.Lib (decodeL decodeN)
end Go.Proofs.YtfokkdofcekdbaaGreatDoor
set_option maxRecDepth 20000
namespace Go.Proofs.YtfokkdofcekdbaaGreatDoor
theorem doc_eq (t : Tk) (hl : t.Pairs.length ≤ 1073742000) : F_lecternlaw03_doc t = some ⟨t.Kind, t.At, t.Name, t.Pairs, t.Text, t.Refs⟩ := by
 obtain ⟨o, e1, e2⟩ := iter_spec (b := F_lecternlaw03_doc_l0 t) (fun i x => x = (t.Kind, t.At, t.Name, t.Pairs.take i, t.Text, t.Refs, (i : Int))) (fun o => o = (t.Kind, t.At, t.Name, t.Pairs, t.Text, t.Refs)) t.Pairs.length (x0 := (t.Kind, t.At, t.Name, ([] : List T_scan_Pair), t.Text, t.Refs, (0 : Int))) rfl (by
  rintro i _ rec hi rfl
  left
  refine ⟨(t.Kind, t.At, t.Name, t.Pairs.take (i + 1), t.Text, t.Refs, ((i + 1 : Nat) : Int)), ?_, rfl⟩
  unfold F_lecternlaw03_doc_l0
  dsimp only
  rw [decide_eq_true (by omega), cond_true, idx_some hi, Option.bind_some, app_some (by simp; omega) (by simp; omega), Option.bind_some, w64 (by omega) (by omega), List.take_add_one, List.getElem?_eq_getElem hi]
  rfl) (by
  rintro _ rec rfl
  refine ⟨_, ?_, rfl⟩
  unfold F_lecternlaw03_doc_l0
  dsimp only
  rw [decide_eq_false (by omega), cond_false, List.take_length]) (n := FUEL) (by unfold FUEL; omega)
 unfold F_lecternlaw03_doc
 simp only [letJ]
 rw [e1, Option.bind_some, e2]
theorem same_self (t : T_lecternref03_Token) (hl : t.Pairs.length ≤ 1073742000) : F_lecternref03_Same t t = some true := by
 obtain ⟨o, e1, e2⟩ := iter_spec (b := F_lecternref03_Same_l0 t t) (fun i x => x = (i : Int)) (fun o => o = .inl ()) t.Pairs.length (x0 := (0 : Int)) rfl (by
  rintro i _ rec hi rfl
  left
  refine ⟨((i + 1 : Nat) : Int), ?_, rfl⟩
  unfold F_lecternref03_Same_l0
  rw [decide_eq_true (by omega), cond_true, idx_some hi, Option.bind_some, Option.bind_some, beq_self_eq_true, beq_self_eq_true, w64 (by omega) (by omega)]
  rfl) (by
  rintro _ rec rfl
  refine ⟨_, ?_, rfl⟩
  unfold F_lecternref03_Same_l0
  rw [decide_eq_false (by omega), cond_false]) (n := FUEL) (by unfold FUEL; omega)
 unfold F_lecternref03_Same
 simp only [letJ, bne, beq_self_eq_true, Bool.not_true, Bool.or_self, cond_false]
 rw [e1, Option.bind_some, e2]
end Go.Proofs.YtfokkdofcekdbaaGreatDoor
set_option maxRecDepth 20000
namespace Go.Proofs.YtfokkdofcekdbaaGreatDoor
abbrev bom : List UInt8 := [239, 187, 191]
def mrk (x : List UInt8) : List UInt8 := if bom.isPrefixOf x = true then bom ++ x else x
end Go.Proofs.YtfokkdofcekdbaaGreatDoor
set_option maxRecDepth 20000
namespace Go.Proofs.YtfokkdofcekdbaaGreatDoor
open Go.Lib (decodeL decodeN)
theorem okT_split {c : UInt8} {y : List UInt8} (hc : c.toNat < 128) {l : List UInt8} (h : OkT l) : ∀ x, l = x ++ c :: y → OkT x ∧ OkT (c :: y) := by
 induction h with
 | nil => intro x h; simp at h
 | @cons l h1 h2 h3 h4 ih =>
  intro x h
  subst h
  by_cases hx : x = []
  ·subst hx; exact ⟨.nil, .cons h1 h2 h3 h4⟩
  ·have hd := dec_stop (x := x) (y := y) hx hc
   have hp := dec_pos hx
   rw [hd] at h2 h3 ih
   obtain ⟨g1, g2⟩ := ih _ (List.drop_append_of_le_length hp.2)
   exact ⟨.cons hx h2 h3 g1, g2⟩
theorem okT_tail {c : UInt8} {y : List UInt8} (hc : c.toNat < 128) (h : OkT (c :: y)) : OkT y := by
 have h4 := (okT_inv h (by simp)).2.2
 rw [dec_ascii c y hc] at h4
 exact h4
theorem ws_lo (c : UInt8) (h : wsP c = true) : c.toNat < 128 := by
 have : ∀ c : UInt8, (!wsP c || decide (c.toNat < 128)) = true := all_u8 (by decide +kernel)
 have h1 := this c
 rw [h, Bool.not_true, Bool.false_or] at h1
 exact of_decide_eq_true h1
end Go.Proofs.YtfokkdofcekdbaaGreatDoor
set_option maxRecDepth 20000
namespace Go.Proofs.YtfokkdofcekdbaaGreatDoor
open Go.Lib (decodeL decodeN)
end Go.Proofs.YtfokkdofcekdbaaGreatDoor
set_option maxRecDepth 20000
namespace Go.Proofs.YtfokkdofcekdbaaGreatDoor
open Go.Lib (decodeL decodeN)
theorem sk_all {P : UInt8 → Bool} : ∀ (n : Nat) {s : List UInt8} {i k : Nat}, k = i + n → k < sk P s i → ∃ c, s[k]? = some c ∧ P c = true
 | n, s, i, k, hk, h => by
  have hlt : i < s.length := by
   rcases Nat.lt_or_ge i s.length with h' | h'
   ·exact h'
   ·exfalso
    unfold sk at h
    rw [List.drop_of_length_le h'] at h
    simp at h; omega
  rw [sk_step hlt] at h
  split at h
  ·rename_i hp
   cases n with
   | zero => subst hk; exact ⟨_, List.getElem?_eq_getElem hlt, hp⟩
   | succ n => exact sk_all n (i := i + 1) (by omega) h
  ·omega
structure Spc (nm a v g : List UInt8) (d : UInt8) (g' : List UInt8) (p q : List UInt8) : Prop where
 hp : p = 60 :: (nm ++ 32 :: (a ++ 61 :: 39 :: (v ++ [39, 47, 62])))
 hq : q = 60 :: (nm ++ (g ++ (a ++ (g ++ 61 :: (g ++ 39 :: (v ++ 39 :: (g ++ [47, 62])))))))
 hg : g = d :: g'
 hw : ∀ c ∈ g, wsP c = true
 lp : p.length ≤ 65536
 lq : q.length ≤ 65536
end Go.Proofs.YtfokkdofcekdbaaGreatDoor

set_option linter.unusedSimpArgs false
set_option linter.unusedVariables false
set_option maxRecDepth 20000
namespace Go.Proofs.YtfokkdofcekdbaaGreatDoor
open Go.Lib (decodeL decodeN)
theorem iter_congr {σ ρ : Type} {b1 b2 : (σ → Option ρ) → σ → Option ρ} (Inv : σ → Prop) (h : ∀ rec1 rec2 x, Inv x → (∀ y, Inv y → rec1 y = rec2 y) → b1 rec1 x = b2 rec2 x) : ∀ n x, Inv x → iter b1 n x = iter b2 n x
 | 0, x, hx => rfl
 | n + 1, x, hx => h _ _ x hx (fun y hy => iter_congr Inv h n y hy)
theorem F_char1 (r : Int) : F_lecternref01_Char r = some (charP r) := by
 unfold F_lecternref01_Char charP
 congr 1
 rw [Bool.eq_iff_iff]
 simp only [Bool.or_eq_true, Bool.and_eq_true, beq_iff_eq, decide_eq_true_eq]
 omega
theorem F_start1 (r : Int) : F_lecternref01_Start r = some (startP r) := by
 unfold F_lecternref01_Start startP
 simp only [letJ, Bool.cond_eq_ite, Bool.and_eq_true, decide_eq_true_eq, beq_iff_eq]
 have hT : ∀ (P : Prop) [Decidable P], P → some true = some (decide P) := fun P _ h => by rw [decide_eq_true h]
 by_cases h1 : 65 ≤ r ∧ r ≤ 90
 ·rw [if_pos h1, if_pos h1]; exact hT _ (by omega)
 rw [if_neg h1]
 by_cases h2 : r = 95
 ·rw [if_pos h2, if_pos h2]; exact hT _ (by omega)
 rw [if_neg h2]
 by_cases h3 : 97 ≤ r ∧ r ≤ 122
 ·rw [if_pos h3]; exact hT _ (by omega)
 rw [if_neg h3]
 by_cases h4 : 192 ≤ r ∧ r ≤ 767
 ·rw [if_pos h4]; congr 1; rw [Bool.eq_iff_iff]; simp only [Bool.and_eq_true, bne_iff_ne, ne_eq, decide_eq_true_eq]; omega
 rw [if_neg h4]
 by_cases h5 : 880 ≤ r ∧ r ≤ 8191
 ·rw [if_pos h5]; congr 1; rw [Bool.eq_iff_iff]; simp only [bne_iff_ne, ne_eq, decide_eq_true_eq]; omega
 rw [if_neg h5]
 by_cases h6 : r = 8204
 ·rw [if_pos h6, if_pos h6]; exact hT _ (by omega)
 rw [if_neg h6]
 by_cases h7 : r = 8205
 ·rw [if_pos h7]; exact hT _ (by omega)
 rw [if_neg h7]
 by_cases h8 : 8304 ≤ r ∧ r ≤ 8591
 ·rw [if_pos h8, if_pos h8]; exact hT _ (by omega)
 rw [if_neg h8]
 by_cases h9 : 11264 ≤ r ∧ r ≤ 12271
 ·rw [if_pos h9, if_pos h9]; exact hT _ (by omega)
 rw [if_neg h9]
 by_cases h10 : 12289 ≤ r ∧ r ≤ 55295
 ·rw [if_pos h10]; exact hT _ (by omega)
 rw [if_neg h10]
 by_cases h11 : 63744 ≤ r ∧ r ≤ 65533
 ·rw [if_pos h11]; congr 1; rw [Bool.eq_iff_iff]; simp only [Bool.or_eq_true, decide_eq_true_eq]; omega
 rw [if_neg h11]
 congr 1; rw [Bool.eq_iff_iff]; simp only [Bool.and_eq_true, decide_eq_true_eq]; omega
theorem F_part1 (r : Int) : F_lecternref01_Part r = some (partP r) := by
 unfold F_lecternref01_Part partP
 rw [F_start1, Option.bind_some]
 congr 1
 cases startP r
 ·simp only [Bool.false_or]
  rw [Bool.eq_iff_iff]
  simp only [Bool.or_eq_true, Bool.and_eq_true, beq_iff_eq, decide_eq_true_eq]
  omega
 ·simp
theorem F_fault (p : List UInt8) (hl : p.length ≤ 1073741824) : F_lecternref01_Fault p = F_char_Fault p := by
 unfold F_lecternref01_Fault F_char_Fault
 simp only [letJ]
 have := iter_congr (b1 := F_lecternref01_Fault_l0 p) (b2 := F_char_Fault_l0 p) (fun x => ∃ j : Nat, x = (j : Int) ∧ j ≤ p.length) (fun rec1 rec2 x ⟨j, hx, hj⟩ hrec => by
  subst hx
  unfold F_lecternref01_Fault_l0 F_char_Fault_l0
  by_cases hjl : j < p.length
  ·obtain ⟨d1, d2, d3, d4⟩ := dec_bytes p j hjl
   rw [decide_eq_true (show (j : Int) < (p.length : Int) by omega), cond_true, cond_true, F_read1 p j hjl hl, F_next p j hjl hl, Option.bind_some, Option.bind_some]
   cases badR (decodeL (p.drop j))
   ·simp only [Bool.false_eq_true, if_false, F_char1, Option.bind_some]
    have hz : (((decodeL (p.drop j)).2 : Int) == (0 : Int)) = false := by simp only [beq_eq_false_iff_ne, ne_eq]; omega
    rw [hz, cond_false]
    cases charP ((decodeL (p.drop j)).1 : Int)
    ·rfl
    ·simp only [Bool.not_true, cond_false, if_true, bne_self_eq_false]
     rw [w64 (by omega) (by omega)]
     have := hrec ((j + (decodeL (p.drop j)).2 : Nat) : Int) ⟨_, rfl, d2⟩
     rw [← this]; rfl
   ·rfl
  ·rw [decide_eq_false (by omega), cond_false, cond_false]) FUEL (0 : Int) ⟨0, rfl, Nat.zero_le _⟩
 rw [this]
theorem F_name1 (l : List UInt8) : F_lecternref01_Name l = some (nameP l) := by
 unfold F_lecternref01_Name nameP
 by_cases c : l = [] ∨ 100 < l.length
 ·have e1 : (((l.length : Int) == (0 : Int)) || decide ((100 : Int) < (l.length : Int))) = true := by
   simp only [Bool.or_eq_true, beq_iff_eq, decide_eq_true_eq]
   rcases c with rfl | c
   ·left; rfl
   ·right; omega
  have e2 : (decide (l = []) || decide (100 < l.length)) = true := by simpa using c
  rw [e1, e2]; rfl
 ·have hl : l.length ≤ 100 := by omega
  have hne : 0 < l.length := List.length_pos_iff.2 fun h => c (.inl h)
  have e1 : (((l.length : Int) == (0 : Int)) || decide ((100 : Int) < (l.length : Int))) = false := by
   simp only [Bool.or_eq_false_iff, beq_eq_false_iff_ne, decide_eq_false_iff_not]; omega
  have e2 : (decide (l = []) || decide (100 < l.length)) = false := by
   simp only [Bool.or_eq_false_iff, decide_eq_false_iff_not]
   exact ⟨fun h => c (.inl h), by omega⟩
  rw [e1, e2, cond_false, Bool.not_false, Bool.true_and]
  simp only [letJ]
  obtain ⟨o, h1, h2⟩ := iter_spec (b := F_lecternref01_Name_l0 l) (fun i x => ∃ j : Nat, x = (j : Int) ∧ i ≤ j ∧ j ≤ l.length ∧ okN l l.length 0 = okN l (l.length - i) j) (fun o => match o with | .inl _ => okN l l.length 0 = true | .inr b => b = false ∧ okN l l.length 0 = false) l.length (x0 := (0 : Int)) ⟨0, rfl, Nat.le_refl _, Nat.zero_le _, rfl⟩
   (fun i x rec hi ⟨j, hx, hij, hjl, hI⟩ => by
    subst hx
    have es : l.length - i = (l.length - (i + 1)) + 1 := by omega
    rw [es, okN] at hI
    unfold F_lecternref01_Name_l0
    by_cases hj : j < l.length
    ·obtain ⟨d1, d2, d3, d4⟩ := dec_bytes l j hj
     rw [if_pos hj] at hI
     simp only [letJ]
     rw [decide_eq_true (show (j : Int) < (l.length : Int) by omega), cond_true, F_read1 l j hj (by omega), Option.bind_some]
     cases hb : badR (decodeL (l.drop j))
     ·rw [hb] at hI
      simp only [Bool.false_eq_true, if_false, F_part1, F_start1, Option.bind_some]
      have hz : (((decodeL (l.drop j)).2 : Int) == (0 : Int)) = false := by simp only [beq_eq_false_iff_ne, ne_eq]; omega
      rw [hz, cond_false]
      cases hp : partP ((decodeL (l.drop j)).1 : Int)
      ·rw [hp] at hI
       exact .inr ⟨.inr false, rfl, rfl, by simpa using hI⟩
      ·rw [hp] at hI
       simp only [Bool.not_true, cond_false]
       have ez : ((j : Int) == (0 : Int)) = decide (j = 0) := by
        rw [Bool.eq_iff_iff]; simp only [beq_iff_eq, decide_eq_true_eq]; omega
       rw [ez, w64 (by omega) (by omega)]
       cases hd0 : decide (j = 0)
       ·rw [hd0] at hI
        exact .inl ⟨((j + (decodeL (l.drop j)).2 : Nat) : Int), rfl, _, rfl, by omega, d2, by simpa using hI⟩
       ·rw [hd0] at hI
        cases hs : startP ((decodeL (l.drop j)).1 : Int)
        ·rw [hs] at hI
         exact .inr ⟨.inr false, rfl, rfl, by simpa using hI⟩
        ·rw [hs] at hI
         exact .inl ⟨((j + (decodeL (l.drop j)).2 : Nat) : Int), rfl, _, rfl, by omega, d2, by simpa using hI⟩
     ·rw [hb] at hI
      exact .inr ⟨.inr false, rfl, rfl, by simpa using hI⟩
    ·rw [if_neg hj] at hI
     rw [decide_eq_false (by omega), cond_false]
     exact .inr ⟨.inl (), rfl, hI⟩)
   (fun x rec ⟨j, hx, hij, hjl, hI⟩ => ⟨.inl (), by
    subst hx
    unfold F_lecternref01_Name_l0
    rw [decide_eq_false (by omega), cond_false], by show okN l l.length 0 = true; rw [hI, Nat.sub_self]; rfl⟩) (n := FUEL) (by unfold FUEL; omega)
  rw [h1, Option.bind_some]
  cases o with
  | inl u => simp only at h2; rw [h2]
  | inr b => obtain ⟨rfl, h3⟩ := h2; rw [h3]
theorem slc_seg {α : Type} {l : List α} {i j : Nat} (h1 : i ≤ j) (h2 : j ≤ l.length) : slc l (i : Int) (j : Int) = some ((l.drop i).take (j - i)) := by
 unfold slc; rw [if_pos (by omega)]; simp only [Int.toNat_natCast]
theorem stands_at (b : List UInt8) (i : Nat) (w : List UInt8) (hi : i ≤ b.length) (hb : b.length ≤ 1073741824) (hw : w.length ≤ 1000) : F_lecternref03_Stands b (i : Int) w = some (hereP b i w) := by
 unfold F_lecternref03_Stands hereP
 simp only [letJ]
 rw [w64 (by omega) (by omega), isPre_take, List.length_drop]
 by_cases h : i + w.length ≤ b.length
 ·rw [decide_eq_true (by omega), cond_true, show (i : Int) + (w.length : Int) = ((i + w.length : Nat) : Int) by omega, slc_seg (by omega) h, Option.bind_some, decide_eq_true (by omega), Bool.true_and, show i + w.length - i = w.length by omega]
 ·rw [decide_eq_false (by omega), cond_false, decide_eq_false (by omega), Bool.false_and]
theorem ws_any (c : UInt8) : wsP c = ((((c.toNat : Int) == (32 : Int)) || ((c.toNat : Int) == (9 : Int))) || ((c.toNat : Int) == (10 : Int)) || ((c.toNat : Int) == (13 : Int))) := by
 have := all_u8 (p := fun c => wsP c == ((((c.toNat : Int) == (32 : Int)) || ((c.toNat : Int) == (9 : Int))) || ((c.toNat : Int) == (10 : Int)) || ((c.toNat : Int) == (13 : Int)))) (by decide +kernel) c
 simpa using this
theorem white_at (b : List UInt8) (i : Nat) (hi : i ≤ b.length) (hb : b.length ≤ 1073741824) : F_lecternref03_White b (i : Int) = some ((sk wsP b i : Nat) : Int) := by
 unfold F_lecternref03_White
 simp only [letJ]
 have := scan_loop (b := F_lecternref03_White_l0 b) wsP b (fun rec i h => by
  unfold F_lecternref03_White_l0
  simp only [letJ]
  rw [decide_eq_true (by omega), cond_true, idx_some h, Option.bind_some, w64 (by omega) (by omega), ws_any]
  simp only [Option.bind_some]
  cases ((b[i].toNat : Int) == (32 : Int)) <;> cases ((b[i].toNat : Int) == (9 : Int)) <;> cases ((b[i].toNat : Int) == (10 : Int)) <;> cases ((b[i].toNat : Int) == (13 : Int)) <;> rfl) (fun rec => by
  unfold F_lecternref03_White_l0
  simp only [letJ]
  rw [decide_eq_false (by omega), cond_false, cond_false]) FUEL (b.length - i) i (by omega) (by unfold FUEL; omega)
 rw [this, Option.bind_some]
theorem index_none_short {s w : List UInt8} (hw : w ≠ []) (h : s.length < w.length) : Lib.index s w = -1 := by
 by_cases hn : Lib.index s w < 0
 ·have := Lib.index_ge s w; omega
 ·obtain ⟨m, e⟩ : ∃ m : Nat, Lib.index s w = (m : Int) := ⟨(Lib.index s w).toNat, by omega⟩
  have := index_occ e hw; omega
def fndR (b : List UInt8) (k : Nat) (w : List UInt8) : Unit ⊕ Int := if Lib.index (b.drop k) w < 0 then .inl () else .inr ((k : Int) + Lib.index (b.drop k) w)
theorem find_step (b w : List UInt8) (k : Nat) (hk : k ≤ b.length) (hb : b.length ≤ 1073741824) (hwl : w.length ≤ 1000) (rec) : F_lecternref03_Find_l0 b w rec (k : Int) = if k + w.length ≤ b.length then cond (w.isPrefixOf (b.drop k)) (some (.inr (k : Int))) (rec ((k + 1 : Nat) : Int)) else some (.inl ()) := by
 unfold F_lecternref03_Find_l0
 rw [w64 (x := (k : Int) + (w.length : Int)) (by omega) (by omega)]
 by_cases hl : k + w.length ≤ b.length
 ·have hp : w.isPrefixOf (b.drop k) = ((b.drop k).take w.length == w) := by
   rw [isPre_take, decide_eq_true (by rw [List.length_drop]; omega), Bool.true_and]
  rw [decide_eq_true (by omega), cond_true, show (k : Int) + (w.length : Int) = ((k + w.length : Nat) : Int) by omega, slc_seg (by omega) hl, Option.bind_some, show k + w.length - k = w.length by omega, if_pos hl, hp, w64 (by omega) (by omega)]
  rfl
 ·rw [decide_eq_false (by omega), cond_false, if_neg hl]
theorem find_iter (b w : List UInt8) (hb : b.length ≤ 1073741824) (hw : w ≠ []) (hwl : w.length ≤ 1000) : ∀ (n k : Nat), k ≤ b.length → b.length - k < n → iter (F_lecternref03_Find_l0 b w) n (k : Int) = some (fndR b k w)
 | 0, k, _, h => by omega
 | n + 1, k, hk, h => by
  have hwp : 0 < w.length := List.length_pos_iff.2 hw
  rw [iter_succ, find_step b w k hk hb hwl]
  by_cases hl : k + w.length ≤ b.length
  ·rw [if_pos hl]
   have hd : b.drop k = b[k] :: b.drop (k + 1) := List.drop_eq_getElem_cons (by omega)
   have hix : Lib.index (b.drop k) w = if w.isPrefixOf (b.drop k) = true then 0 else if Lib.index (b.drop (k + 1)) w == -1 then -1 else Lib.index (b.drop (k + 1)) w + 1 := by
    conv => lhs; rw [hd]
    rw [hd]; rfl
   cases hpre : w.isPrefixOf (b.drop k) with
   | true =>
    rw [hpre, if_pos rfl] at hix
    unfold fndR
    rw [cond_true, hix, if_neg (by omega)]; simp
   | false =>
    rw [hpre, if_neg (by simp)] at hix
    rw [cond_false, find_iter b w hb hw hwl n (k + 1) (by omega) (by omega)]
    unfold fndR
    have := Lib.index_ge (b.drop (k + 1)) w
    by_cases hn : Lib.index (b.drop (k + 1)) w = -1
    ·rw [hn] at hix
     rw [hix, hn]; rfl
    ·have e : (Lib.index (b.drop (k + 1)) w == -1) = false := by simpa using hn
     rw [e, if_neg (by simp)] at hix
     rw [hix, if_neg (by omega), if_neg (by omega)]
     congr 2; omega
  ·rw [if_neg hl]
   unfold fndR
   rw [index_none_short hw (by rw [List.length_drop]; omega), if_pos (by omega)]
theorem find_at (b : List UInt8) (i : Nat) (w : List UInt8) (hi : i ≤ b.length) (hb : b.length ≤ 1073741824) (hw : w ≠ []) (hwl : w.length ≤ 1000) : F_lecternref03_Find b (i : Int) w = some (if Lib.index (b.drop i) w < 0 then -1 else (i : Int) + Lib.index (b.drop i) w) := by
 unfold F_lecternref03_Find
 simp only [letJ]
 rw [find_iter b w hb hw hwl FUEL i hi (by unfold FUEL; omega), Option.bind_some]
 unfold fndR
 by_cases h : Lib.index (b.drop i) w < 0
 ·rw [if_pos h, if_pos h]
 ·rw [if_neg h, if_neg h]
theorem index_one : ∀ (l : List UInt8) (c : UInt8), Lib.index l [c] = Lib.indexByte l c
 | [], c => rfl
 | b :: l, c => by
  show (if List.isPrefixOf [c] (b :: l) = true then (0 : Int) else if Lib.index l [c] == -1 then -1 else Lib.index l [c] + 1) = (if (b == c) = true then 0 else if Lib.indexByte l c == -1 then -1 else Lib.indexByte l c + 1)
  rw [index_one l c]
  have : List.isPrefixOf [c] (b :: l) = (b == c) := by
   simp only [List.isPrefixOf, Bool.and_true]
   rw [Bool.eq_iff_iff, beq_iff_eq, beq_iff_eq]; exact ⟨fun h => h.symm, fun h => h.symm⟩
  rw [this]
end Go.Proofs.YtfokkdofcekdbaaGreatDoor

set_option linter.unusedSimpArgs false
set_option linter.unusedVariables false
set_option maxRecDepth 20000
namespace Go.Proofs.YtfokkdofcekdbaaGreatDoor
open Go.Lib (decodeL decodeN)
def hexv (c : UInt8) : Int := if 48 ≤ c.toNat ∧ c.toNat ≤ 57 then (c.toNat : Int) - 48 else if 97 ≤ c.toNat ∧ c.toNat ≤ 102 then (c.toNat : Int) - 87 else if 65 ≤ c.toNat ∧ c.toNat ≤ 70 then (c.toNat : Int) - 55 else -1
theorem hex_at (c : UInt8) : F_lecternref02_hex (c.toNat : Int) = some (hexv c) := by
 have := all_u8 (p := fun c => F_lecternref02_hex (c.toNat : Int) == some (hexv c)) (by decide +kernel) c
 simpa using this
theorem digit_at (c : UInt8) : F_refer_digit (c.toNat : Int) = some (if hexv c < 0 then 99 else hexv c) := by
 have := all_u8 (p := fun c => F_refer_digit (c.toNat : Int) == some (if hexv c < 0 then 99 else hexv c)) (by decide +kernel) c
 simpa using this
theorem hexv_lt (c : UInt8) : -1 ≤ hexv c ∧ hexv c ≤ 15 := by
 unfold hexv
 split
 ·omega
 ·split
  ·omega
  ·split <;> omega
def dgP (base : Int) (c : UInt8) : Bool := decide (0 ≤ hexv c) && decide (hexv c < base)
def fv (base : Int) (f : Int) (l : List UInt8) : Int := l.foldl (fun f c => if f < 2097152 then base * f + hexv c else f) f
def gv (base : Int) (g : Int) (l : List UInt8) : Int := l.foldl (fun g c => if 1114112 < g * base + hexv c then 1114112 else g * base + hexv c) g
theorem tw_cases (P : UInt8 → Bool) : ∀ a : List UInt8, (a.all P = true ∧ a.takeWhile P = a) ∨ (a.all P = false ∧ (a.takeWhile P).length < a.length)
 | [] => .inl ⟨rfl, rfl⟩
 | c :: a => by
  cases hc : P c with
  | false => right; rw [List.all_cons, hc, List.takeWhile_cons, hc]; simp
  | true =>
   rw [List.all_cons, hc, List.takeWhile_cons, hc, Bool.true_and, if_pos rfl]
   rcases tw_cases P a with ⟨h1, h2⟩ | ⟨h1, h2⟩
   ·left; rw [h2]; exact ⟨h1, rfl⟩
   ·right; exact ⟨h1, by simpa using h2⟩
theorem ex_step (p : List UInt8) (base : Int) (hbase : base = 10 ∨ base = 16) (k : Nat) (hk : k < p.length) (hp : p.length ≤ 1073741824) (f cnt : Int) (hf : 0 ≤ f ∧ f ≤ 33554447) (hc : 0 ≤ cnt ∧ cnt ≤ k) (rec) :
  F_lecternref02_Expand_l0 p base rec ((k : Int), f, cnt) = cond (dgP base p[k]) (rec (((k + 1 : Nat) : Int), (if f < 2097152 then base * f + hexv p[k] else f), cnt + 1)) (some ((k : Int), f, cnt)) := by
 have hh := hexv_lt p[k]
 unfold F_lecternref02_Expand_l0 dgP
 simp only [letJ]
 rw [decide_eq_true (show (k : Int) < (p.length : Int) by omega), cond_true, idx_some hk]
 simp only [Option.bind_some, hex_at]
 cases h0 : decide (0 ≤ hexv p[k]) with
 | false => rfl
 | true =>
  rw [cond_true, Bool.true_and]
  have h0 := of_decide_eq_true h0
  cases h1 : decide (hexv p[k] < base) with
  | false => rfl
  | true =>
   rw [cond_true, cond_true, w64 (x := (k : Int) + 1) (by omega) (by omega), w64 (x := cnt + 1) (by omega) (by omega)]
   by_cases hf2 : f < 2097152
   ·have hbf : 0 ≤ base * f ∧ base * f ≤ 33554432 := by rcases hbase with rfl | rfl <;> omega
    rw [decide_eq_true hf2, cond_true, if_pos hf2, w64 (x := base * f) (by omega) (by omega), w64 (x := base * f + hexv p[k]) (by omega) (by omega)]; rfl
   ·rw [decide_eq_false hf2, cond_false, if_neg hf2]; rfl
theorem ex_loop (p : List UInt8) (base : Int) (hbase : base = 10 ∨ base = 16) (hp : p.length ≤ 1073741824) : ∀ (n k : Nat) (f cnt : Int), k ≤ p.length → p.length - k < n → (0 ≤ f ∧ f ≤ 33554447) → (0 ≤ cnt ∧ cnt ≤ k) →
  iter (F_lecternref02_Expand_l0 p base) n ((k : Int), f, cnt) = some (((k + ((p.drop k).takeWhile (dgP base)).length : Nat) : Int), fv base f ((p.drop k).takeWhile (dgP base)), cnt + (((p.drop k).takeWhile (dgP base)).length : Int))
 | 0, k, f, cnt, _, h, _, _ => by omega
 | n + 1, k, f, cnt, hk, h, hf, hc => by
  rw [iter_succ]
  by_cases hl : k < p.length
  ·rw [ex_step p base hbase k hl hp f cnt hf hc, List.drop_eq_getElem_cons hl, List.takeWhile_cons]
   cases hd : dgP base p[k] with
   | false => simp [fv]
   | true =>
    have hh := hexv_lt p[k]
    have h0 : 0 ≤ hexv p[k] := by unfold dgP at hd; simp at hd; exact hd.1
    rw [cond_true, if_pos rfl, ex_loop p base hbase hp n (k + 1) _ _ (by omega) (by omega) (by
     split
     ·rcases hbase with rfl | rfl <;> omega
     ·exact hf) (by omega), List.length_cons]
    have e1 : ((k + 1 + ((p.drop (k + 1)).takeWhile (dgP base)).length : Nat) : Int) = ((k + (((p.drop (k + 1)).takeWhile (dgP base)).length + 1) : Nat) : Int) := by omega
    have e2 : cnt + 1 + (((p.drop (k + 1)).takeWhile (dgP base)).length : Int) = cnt + ((((p.drop (k + 1)).takeWhile (dgP base)).length + 1 : Nat) : Int) := by omega
    rw [e1, e2]; rfl
  ·have : k = p.length := by omega
   subst this
   unfold F_lecternref02_Expand_l0
   simp only [letJ]
   rw [decide_eq_false (by omega), cond_false, cond_false, cond_false, List.drop_length]
   simp [fv]
theorem mt_step (a : List UInt8) (base : Int) (hbase : base = 10 ∨ base = 16) (k : Nat) (hk : k < a.length) (ha : a.length ≤ 1073741824) (g : Int) (hg : 0 ≤ g ∧ g ≤ 1114112) (rec) :
  F_refer_meant_l0 a base rec (g, (k : Int)) = cond (dgP base a[k]) (rec ((if 1114112 < g * base + hexv a[k] then 1114112 else g * base + hexv a[k]), ((k + 1 : Nat) : Int))) (some (.inr (0, 22))) := by
 have hh := hexv_lt a[k]
 have hbg : 0 ≤ g * base ∧ g * base ≤ 17825792 := by rcases hbase with rfl | rfl <;> omega
 unfold F_refer_meant_l0 dgP
 dsimp only
 rw [decide_eq_true (show (k : Int) < (a.length : Int) by omega), cond_true, idx_some hk, Option.bind_some, digit_at, Option.bind_some]
 by_cases h0 : hexv a[k] < 0
 ·rw [if_pos h0, decide_eq_true (show base ≤ 99 by omega), cond_true, decide_eq_false (by omega), Bool.false_and, cond_false]
 ·rw [if_neg h0, decide_eq_true (show 0 ≤ hexv a[k] by omega), Bool.true_and]
  by_cases h1 : hexv a[k] < base
  ·rw [decide_eq_false (show ¬ base ≤ hexv a[k] by omega), cond_false, decide_eq_true h1, cond_true, w64 (x := g * base) (by omega) (by omega), w64 (x := g * base + hexv a[k]) (by omega) (by omega), w64 (x := (k : Int) + 1) (by omega) (by omega)]; rfl
  ·rw [decide_eq_true (show base ≤ hexv a[k] by omega), cond_true, decide_eq_false h1, cond_false]
theorem mt_loop (a : List UInt8) (base : Int) (hbase : base = 10 ∨ base = 16) (ha : a.length ≤ 1073741824) : ∀ (n k : Nat) (g : Int), k ≤ a.length → a.length - k < n → (0 ≤ g ∧ g ≤ 1114112) →
  iter (F_refer_meant_l0 a base) n (g, (k : Int)) = some (if (a.drop k).all (dgP base) = true then .inl (gv base g (a.drop k)) else .inr (0, 22))
 | 0, k, g, _, h, _ => by omega
 | n + 1, k, g, hk, h, hg => by
  rw [iter_succ]
  by_cases hl : k < a.length
  ·rw [mt_step a base hbase k hl ha g hg, List.drop_eq_getElem_cons hl, List.all_cons]
   cases hd : dgP base a[k] with
   | false => rfl
   | true =>
    have hh := hexv_lt a[k]
    have h0 : 0 ≤ hexv a[k] := by unfold dgP at hd; simp at hd; exact hd.1
    rw [cond_true, Bool.true_and, mt_loop a base hbase ha n (k + 1) _ (by omega) (by omega) (by
     split
     ·omega
     ·rcases hbase with rfl | rfl <;> omega)]
    rfl
  ·have : k = a.length := by omega
   subst this
   unfold F_refer_meant_l0
   dsimp only
   rw [decide_eq_false (by omega), cond_false, List.drop_length]
   rfl
theorem fg_rel (base : Int) (hbase : base = 10 ∨ base = 16) : ∀ (l : List UInt8) (f g : Int), l.all (dgP base) = true → ((g = f ∧ 0 ≤ f ∧ f ≤ 1114111) ∨ (g = 1114112 ∧ 1114112 ≤ f)) → ((gv base g l = fv base f l ∧ 0 ≤ fv base f l ∧ fv base f l ≤ 1114111) ∨ (gv base g l = 1114112 ∧ 1114112 ≤ fv base f l))
 | [], f, g, _, h => h
 | c :: l, f, g, ha, h => by
  rw [List.all_cons, Bool.and_eq_true] at ha
  have hd := ha.1
  unfold dgP at hd
  simp only [Bool.and_eq_true, decide_eq_true_eq] at hd
  have hh := hexv_lt c
  show ((gv base (if 1114112 < g * base + hexv c then 1114112 else g * base + hexv c) l = fv base (if f < 2097152 then base * f + hexv c else f) l ∧ _) ∨ _)
  refine fg_rel base hbase l _ _ ha.2 ?_
  rcases h with ⟨rfl, h1, h2⟩ | ⟨rfl, h1⟩
  ·rw [if_pos (show g < 2097152 by omega), Int.mul_comm base g]
   have : 0 ≤ g * base := by rcases hbase with rfl | rfl <;> omega
   split
   ·right; omega
   ·by_cases h3 : g * base + hexv c ≤ 1114111
    ·left; omega
    ·right; omega
  ·right
   rw [if_pos (by rcases hbase with rfl | rfl <;> omega)]
   refine ⟨rfl, ?_⟩
   split
   ·rcases hbase with rfl | rfl <;> omega
   ·omega
theorem w32 {x : Int} (h1 : -2147483648 ≤ x) (h2 : x ≤ 2147483647) : IntKind.wrap .i32 x = x := by rw [IntKind.wrap_i32]; omega
theorem fg_zero (base : Int) (hbase : base = 10 ∨ base = 16) (l : List UInt8) (ha : l.all (dgP base) = true) : charP (IntKind.wrap .i32 (gv base 0 l)) = charP (fv base 0 l) ∧ (charP (fv base 0 l) = true → IntKind.wrap .i32 (gv base 0 l) = fv base 0 l) := by
 rcases fg_rel base hbase l 0 0 ha (.inl ⟨rfl, by omega, by omega⟩) with ⟨h1, h2, h3⟩ | ⟨h1, h2⟩
 ·rw [h1, w32 (by omega) (by omega)]; exact ⟨rfl, fun _ => rfl⟩
 ·have e : charP (fv base 0 l) = false := by unfold charP; exact decide_eq_false (by omega)
  rw [h1, e]
  exact ⟨by decide, fun h => by cases h⟩
end Go.Proofs.YtfokkdofcekdbaaGreatDoor

set_option linter.unusedSimpArgs false
set_option linter.unusedVariables false
set_option maxRecDepth 20000
namespace Go.Proofs.YtfokkdofcekdbaaGreatDoor
open Go.Lib (decodeL decodeN)
abbrev WordsL : List (List UInt8) := [([108, 116, 59] : List UInt8), ([103, 116, 59] : List UInt8), ([97, 109, 112, 59] : List UInt8), ([97, 112, 111, 115, 59] : List UInt8), ([113, 117, 111, 116, 59] : List UInt8)]
theorem word_step (p : List UInt8) (m k : Nat) (w : List UInt8) (v : Int) (hm : m ≤ p.length) (hp : p.length ≤ 1073741824) (hk : k < 5) (h1 : idxN 5 WordsL (k : Int) = some w) (h2 : idxN 5 [(60 : Int), (62 : Int), (38 : Int), (39 : Int), (34 : Int)] (k : Int) = some v) (hw : w.length ≤ 10) (rec) :
  F_lecternref02_word_l0 p (m : Int) rec (k : Int) = cond (hereP p m w) (some (.inr (v, ((m + w.length : Nat) : Int)))) (rec ((k + 1 : Nat) : Int)) := by
 unfold F_lecternref02_word_l0 hereP
 simp only [letJ]
 rw [decide_eq_true (show (k : Int) < 5 by omega), cond_true, h1, Option.bind_some, w64 (x := (m : Int) + (w.length : Int)) (by omega) (by omega), isPre_take, List.length_drop, w64 (x := (k : Int) + 1) (by omega) (by omega), h2]
 by_cases h : m + w.length ≤ p.length
 ·rw [decide_eq_true (by omega), cond_true, show (m : Int) + (w.length : Int) = ((m + w.length : Nat) : Int) by omega, slc_seg (by omega) h, Option.bind_some, decide_eq_true (show w.length ≤ p.length - m by omega), Bool.true_and, show m + w.length - m = w.length by omega, Option.bind_some]; rfl
 ·rw [decide_eq_false (by omega), cond_false, decide_eq_false (show ¬ w.length ≤ p.length - m by omega), Bool.false_and]; rfl
def wordR (p : List UInt8) (m : Nat) : Int × Int :=
 if hereP p m [108, 116, 59] = true then (60, ((m + 3 : Nat) : Int)) else if hereP p m [103, 116, 59] = true then (62, ((m + 3 : Nat) : Int)) else if hereP p m [97, 109, 112, 59] = true then (38, ((m + 4 : Nat) : Int))
 else if hereP p m [97, 112, 111, 115, 59] = true then (39, ((m + 5 : Nat) : Int)) else if hereP p m [113, 117, 111, 116, 59] = true then (34, ((m + 5 : Nat) : Int)) else (0, 0)
theorem word_eq (p : List UInt8) (m : Nat) (hm : m ≤ p.length) (hp : p.length ≤ 1073741824) : F_lecternref02_word p (m : Int) = some (wordR p m) := by
 unfold F_lecternref02_word wordR
 simp only [letJ]
 rw [show FUEL = 18446744073709551610 + 1 + 1 + 1 + 1 + 1 + 1 from rfl]
 rw [iter_succ, show (0 : Int) = ((0 : Nat) : Int) from rfl, word_step p m 0 _ _ hm hp (by omega) rfl rfl (by decide)]
 cases hereP p m [108, 116, 59] with
 | true => rfl
 | false =>
 rw [cond_false, iter_succ, word_step p m 1 _ _ hm hp (by omega) rfl rfl (by decide)]
 cases hereP p m [103, 116, 59] with
 | true => rfl
 | false =>
 rw [cond_false, iter_succ, word_step p m 2 _ _ hm hp (by omega) rfl rfl (by decide)]
 cases hereP p m [97, 109, 112, 59] with
 | true => rfl
 | false =>
 rw [cond_false, iter_succ, word_step p m 3 _ _ hm hp (by omega) rfl rfl (by decide)]
 cases hereP p m [97, 112, 111, 115, 59] with
 | true => rfl
 | false =>
 rw [cond_false, iter_succ, word_step p m 4 _ _ hm hp (by omega) rfl rfl (by decide)]
 cases hereP p m [113, 117, 111, 116, 59] with
 | true => rfl
 | false => rfl
def numR (p : List UInt8) (m : Nat) (base : Int) : Int × Int × Int :=
 if ((p.drop m).takeWhile (dgP base)).length = 0 ∨ p[m + ((p.drop m).takeWhile (dgP base)).length]? ≠ some 59 then (0, 0, 22)
 else if charP (fv base 0 ((p.drop m).takeWhile (dgP base))) = true then (fv base 0 ((p.drop m).takeWhile (dgP base)), ((m + ((p.drop m).takeWhile (dgP base)).length + 1 : Nat) : Int), 0) else (0, 0, 21)
def numM (a : List UInt8) (base : Int) : Int × Int :=
 if a = [] ∨ a.all (dgP base) = false then (0, 22) else if charP (fv base 0 a) = true then (fv base 0 a, 0) else (0, 21)
theorem dg59 (base : Int) : dgP base 59 = false := by
 unfold dgP
 rw [show hexv 59 = -1 by decide]; rfl
theorem num_eq (p : List UInt8) (m d : Nat) (base : Int) (h : Lib.indexByte (p.drop m) 59 = (d : Int)) : numR p m base = if (numM ((p.drop m).take d) base).2 ≠ 0 then (0, 0, (numM ((p.drop m).take d) base).2) else ((numM ((p.drop m).take d) base).1, ((m + d + 1 : Nat) : Int), 0) := by
 obtain ⟨g1, g2⟩ := Lib.indexByte_some h
 have hd : d < (p.drop m).length := (List.getElem?_eq_some_iff.1 g1).1
 have hsp : p.drop m = (p.drop m).take d ++ 59 :: (p.drop m).drop (d + 1) := by
  conv => lhs; rw [← List.take_append_drop d (p.drop m)]
  rw [List.drop_eq_getElem_cons hd]
  have := (List.getElem?_eq_some_iff.1 g1).2
  rw [this]
 have hal : ((p.drop m).take d).length = d := by rw [List.length_take]; omega
 have hno : ∀ k, k < d → ((p.drop m).take d)[k]? ≠ some 59 := fun k hk => by rw [List.getElem?_take_of_lt hk]; exact g2 k hk
 generalize ha : (p.drop m).take d = a at *
 have htw : (p.drop m).takeWhile (dgP base) = a.takeWhile (dgP base) := by
  rw [hsp, List.takeWhile_append]
  split
  ·rename_i hl
   rw [List.takeWhile_cons, dg59]
   rcases tw_cases (dgP base) a with ⟨_, h2⟩ | ⟨_, h2⟩
   ·rw [h2]; simp
   ·omega
  ·rfl
 have hget : ∀ k, k ≤ d → p[m + k]? = (a ++ 59 :: (p.drop m).drop (d + 1))[k]? := fun k _ => by rw [← hsp, List.getElem?_drop]
 unfold numR numM
 rw [htw]
 rcases tw_cases (dgP base) a with ⟨h1, h2⟩ | ⟨h1, h2⟩
 ·rw [h2, h1, hal, hget d (Nat.le_refl _), List.getElem?_append_right (by omega), hal, Nat.sub_self]
  by_cases he : a = []
  ·rw [if_pos (.inl (by rw [he] at hal; simpa using hal.symm)), if_pos (c := a = [] ∨ _) (.inl he)]; simp
  ·have hdz : ¬ d = 0 := fun e => he (List.eq_nil_of_length_eq_zero (by omega))
   rw [if_neg (c := d = 0 ∨ _) (by rintro (h | h); exact hdz h; exact h rfl), if_neg (c := a = [] ∨ _) (by rintro (h | h); exact he h; cases h)]
   cases charP (fv base 0 a) with
   | true => simp
   | false => simp
 ·have hlt : (a.takeWhile (dgP base)).length < d := by omega
  rw [if_pos (.inr (by
   rw [hget _ (by omega), List.getElem?_append_left (by omega)]
   exact hno _ hlt)), h1, if_pos (c := a = [] ∨ _) (.inr rfl)]
  simp
theorem num_none (p : List UInt8) (m : Nat) (base : Int) (h : Lib.indexByte (p.drop m) 59 < 0) : numR p m base = (0, 0, 22) := by
 have := Lib.indexByte_ge (p.drop m) 59
 unfold numR
 rw [if_pos (.inr (by
  rw [← List.getElem?_drop]
  exact Lib.indexByte_none (by omega) _))]
theorem numT (p : List UInt8) (m : Nat) (base : Int) (hbase : base = 10 ∨ base = 16) (hm : m ≤ p.length) (hp : p.length ≤ 1073741824) :
  ((iter (F_lecternref02_Expand_l0 p base) FUEL ((m : Int), (0 : Int), (0 : Int))).bind fun o => (match o with
    | (a42, a43, a44) => cond ((a44 == (0 : Int)) || (decide ((p.length : Int) ≤ a42))) (cond true (some ((0 : Int), (0 : Int), (22 : Int))) ((F_lecternref01_Char a43).bind fun x78 => cond (!x78) (some ((0 : Int), (0 : Int), (21 : Int))) (some (a43, (IntKind.wrap .i64 (a42 + (1 : Int))), (0 : Int)))))
     ((idx p a42).bind fun x76 => cond ((x76.toNat : Int) != (59 : Int)) (some ((0 : Int), (0 : Int), (22 : Int))) ((F_lecternref01_Char a43).bind fun x78 => cond (!x78) (some ((0 : Int), (0 : Int), (21 : Int))) (some (a43, (IntKind.wrap .i64 (a42 + (1 : Int))), (0 : Int))))) : Option (Int × Int × Int))) = some (numR p m base) := by
 rw [ex_loop p base hbase hp FUEL m 0 0 hm (by unfold FUEL; omega) (by omega) (by omega), Option.bind_some]
 unfold numR
 have hl : ((p.drop m).takeWhile (dgP base)).length ≤ p.length - m := by
  have := (List.takeWhile_sublist (dgP base) (l := p.drop m)).length_le
  rwa [List.length_drop] at this
 generalize (p.drop m).takeWhile (dgP base) = l at *
 dsimp only
 by_cases h0 : l.length = 0
 ·rw [if_pos (.inl h0), h0]; rfl
 ·rw [show ((0 : Int) + (l.length : Int) == 0) = false by simp only [beq_eq_false_iff_ne]; omega, Bool.false_or]
  by_cases h1 : m + l.length < p.length
  ·rw [decide_eq_false (by omega), cond_false, idx_some h1, Option.bind_some, List.getElem?_eq_getElem h1, F_char1, Option.bind_some, w64 (by omega) (by omega)]
   by_cases h2 : p[m + l.length] = 59
   ·rw [h2, show ((((59 : UInt8).toNat : Int)) != 59) = false from rfl, cond_false, if_neg (by rintro (h | h); exact h0 h; exact h rfl)]
    cases charP (fv base 0 l) <;> rfl
   ·have : ((p[m + l.length].toNat : Int) != 59) = true := by
     rw [bne_iff_ne]; intro h; exact h2 (UInt8.toNat_inj.1 (by show _ = 59; omega))
    rw [this, cond_true, if_pos (.inr (by simpa using h2))]
  ·rw [decide_eq_true (by omega), cond_true, cond_true, if_pos (.inr (by rw [List.getElem?_eq_none (by omega)]; simp))]
theorem meantT (a : List UInt8) (base : Int) (hbase : base = 10 ∨ base = 16) (ha : a.length ≤ 1073741824) :
  (cond (a == ([] : List UInt8)) (some ((0 : Int), (22 : Int))) ((iter (F_refer_meant_l0 a base) FUEL ((0 : Int), (0 : Int))).bind fun o => match o with
    | .inl o1 => (F_char_IsChar (IntKind.wrap .i32 o1)).bind fun x34 => cond (!x34) (some ((0 : Int), (21 : Int))) (some ((IntKind.wrap .i32 o1), (0 : Int)))
    | .inr o1 => some o1)) = some (numM a base) := by
 unfold numM
 by_cases he : a = []
 ·rw [he]; rfl
 ·rw [ne_nil_beq he, cond_false, show ((0 : Int), (0 : Int)) = ((0 : Int), ((0 : Nat) : Int)) from rfl, mt_loop a base hbase ha FUEL 0 0 (Nat.zero_le _) (by unfold FUEL; omega) (by omega), Option.bind_some, List.drop_zero]
  cases hall : a.all (dgP base) with
  | false => rw [if_neg (c := false = true) (by simp), if_pos (c := a = [] ∨ _) (.inr rfl)]
  | true =>
   rw [if_pos rfl, if_neg (by rintro (h | h); exact he h; cases h)]
   obtain ⟨f1, f2⟩ := fg_zero base hbase a hall
   dsimp only
   rw [F_isChar, Option.bind_some, f1]
   cases hc : charP (fv base 0 a) with
   | true => rw [f2 hc]; rfl
   | false => rfl
end Go.Proofs.YtfokkdofcekdbaaGreatDoor

set_option linter.unusedSimpArgs false
set_option linter.unusedVariables false
set_option maxRecDepth 20000
namespace Go.Proofs.YtfokkdofcekdbaaGreatDoor
open Go.Lib (decodeL decodeN)
theorem semi (D w : List UInt8) (hw : (59 : UInt8) ∉ w) : (w ++ [59]).isPrefixOf D = true ↔ ∃ d : Nat, Lib.indexByte D 59 = (d : Int) ∧ D.take d = w := by
 constructor
 ·intro h
  rw [List.isPrefixOf_iff_prefix] at h
  obtain ⟨R, rfl⟩ := h
  refine ⟨w.length, ixB_of (by rw [List.append_assoc, List.getElem?_append_right (Nat.le_refl _), Nat.sub_self]; rfl) fun k hk => ?_, by rw [List.append_assoc, List.take_left' rfl]⟩
  rw [List.append_assoc, List.getElem?_append_left hk]
  intro hc
  exact hw (List.mem_of_getElem? hc)
 ·rintro ⟨d, h1, rfl⟩
  obtain ⟨g1, _⟩ := Lib.indexByte_some h1
  rw [List.isPrefixOf_iff_prefix]
  obtain ⟨hd, hg⟩ := List.getElem?_eq_some_iff.1 g1
  refine ⟨D.drop (d + 1), ?_⟩
  conv => rhs; rw [← List.take_append_drop d D, List.drop_eq_getElem_cons hd, hg]
  simp
theorem semi_b (p : List UInt8) (m : Nat) (w : List UInt8) (hw : (59 : UInt8) ∉ w) {d : Nat} (h : Lib.indexByte (p.drop m) 59 = (d : Int)) : hereP p m (w ++ [59]) = ((p.drop m).take d == w) := by
 unfold hereP
 rw [Bool.eq_iff_iff, semi _ w hw, beq_iff_eq]
 constructor
 ·rintro ⟨d', h1, h2⟩
  have : d' = d := by omega
  subst this; exact h2
 ·intro h2; exact ⟨d, h, h2⟩
def numQ : List UInt8 → Int × Int
 | 35 :: 120 :: a => numM a 16
 | 35 :: a => numM a 10
 | _ => (0, 22)
def meantR (q : List UInt8) : Int × Int :=
 if q == [108, 116] then (60, 0) else if q == [103, 116] then (62, 0) else if q == [97, 109, 112] then (38, 0) else if q == [97, 112, 111, 115] then (39, 0) else if q == [113, 117, 111, 116] then (34, 0) else numQ q
theorem meant_eq (q : List UInt8) (hq : q.length ≤ 1073741824) : F_refer_meant q = some (meantR q) := by
 unfold F_refer_meant meantR
 cases q == ([108, 116] : List UInt8) with
 | true => rfl
 | false =>
 cases q == ([103, 116] : List UInt8) with
 | true => rfl
 | false =>
 cases q == ([97, 109, 112] : List UInt8) with
 | true => rfl
 | false =>
 cases q == ([97, 112, 111, 115] : List UInt8) with
 | true => rfl
 | false =>
 cases q == ([113, 117, 111, 116] : List UInt8) with
 | true => rfl
 | false =>
  simp only [cond_false, letJ, Bool.false_eq_true, if_false]
  rw [cutPrefix_eq, Option.bind_some]
  have hne : ([35] : List UInt8).isPrefixOf q = false → some ((0 : Int), (22 : Int)) = some (numQ q) := by
   intro h
   match q, h with
   | [], _ => rfl
   | c :: q', h =>
    have hc : c ≠ 35 := by rintro rfl; simp [List.isPrefixOf] at h
    unfold numQ
    split
    ·rename_i e; injection e with e _; exact absurd e hc
    ·rename_i e; injection e with e _; exact absurd e hc
    ·rfl
  cases h35 : ([35] : List UInt8).isPrefixOf q with
  | false =>
   rw [if_neg (by simp), cutPrefix_eq, Option.bind_some]
   rw [← hne h35]
   cases ([120] : List UInt8).isPrefixOf q with
   | true => rw [if_pos rfl, cond_true, Bool.not_false, Bool.true_or, cond_true]
   | false => rw [if_neg (by simp), cond_false, Bool.not_false, Bool.true_or, cond_true]
  | true =>
   rw [if_pos rfl, cutPrefix_eq, Option.bind_some]
   obtain ⟨a0, rfl⟩ : ∃ a0, q = 35 :: a0 := by
    rw [List.isPrefixOf_iff_prefix] at h35
    obtain ⟨a0, h⟩ := h35
    exact ⟨a0, h.symm⟩
   have ed : ∀ (c : UInt8) (l : List UInt8), (c :: l).drop ([c] : List UInt8).length = l := fun _ _ => rfl
   simp only [ed]
   simp only [List.length_cons] at hq
   cases h120 : ([120] : List UInt8).isPrefixOf a0 with
   | true =>
    obtain ⟨a, rfl⟩ : ∃ a, a0 = 120 :: a := by
     rw [List.isPrefixOf_iff_prefix] at h120
     obtain ⟨a, h⟩ := h120
     exact ⟨a, h.symm⟩
    have e16 : numQ (35 :: 120 :: a) = numM a 16 := by simp only [numQ]
    simp only [List.length_cons] at hq
    rw [e16]
    rw [if_pos rfl, ed]
    dsimp only
    rw [cond_true]
    simp only [Bool.not_true, Bool.false_or]
    exact meantT a 16 (.inr rfl) (by omega)
   | false =>
    have : numQ (35 :: a0) = numM a0 10 := by
     match a0, h120 with
     | [], _ => rfl
     | c :: a', h =>
      have hc : c ≠ 120 := by rintro rfl; simp [List.isPrefixOf] at h
      unfold numQ
      split
      ·rename_i e; injection e with _ e; injection e with e _; exact absurd e hc
      ·rename_i e; injection e with _ e; rw [e]
      ·rename_i _ e; exact (e _ rfl).elim
    rw [this]
    simp only [Bool.false_eq_true, if_false, cond_false, Bool.not_true, Bool.false_or]
    exact meantT a0 10 (.inl rfl) (by omega)
def expR (p : List UInt8) (i : Nat) : Int × Int × Int :=
 if Lib.indexByte (p.drop (i + 1)) 59 < 0 then (0, 0, 22)
 else if (meantR ((p.drop (i + 1)).take (Lib.indexByte (p.drop (i + 1)) 59).toNat)).2 ≠ 0 then (0, 0, (meantR ((p.drop (i + 1)).take (Lib.indexByte (p.drop (i + 1)) 59).toNat)).2)
 else ((meantR ((p.drop (i + 1)).take (Lib.indexByte (p.drop (i + 1)) 59).toNat)).1, (i : Int) + 1 + Lib.indexByte (p.drop (i + 1)) 59 + 1, 0)
theorem expand_w (p : List UInt8) (i : Nat) (h38 : p[i]? = some 38) (hp : p.length ≤ 1073741824) : F_refer_Expand p (i : Int) = some (expR p i) := by
 obtain ⟨hi, hg⟩ := List.getElem?_eq_some_iff.1 h38
 unfold F_refer_Expand expR
 simp only [letJ]
 rw [decide_eq_false (show ¬ (i : Int) < 0 by omega), decide_eq_false (show ¬ (p.length : Int) ≤ (i : Int) by omega), show (false || false) = false from rfl, cond_false, idx_some hi, Option.bind_some, hg, show ((((38 : UInt8).toNat : Int)) != 38) = false from rfl, cond_false, slc_drop (Nat.le_of_lt hi), Option.bind_some]
 unfold L_bIndexByte
 rw [Option.bind_some, show (59 : Int).toNat.toUInt8 = 59 from rfl]
 have hix : Lib.indexByte (p.drop i) 59 = if Lib.indexByte (p.drop (i + 1)) 59 == -1 then -1 else Lib.indexByte (p.drop (i + 1)) 59 + 1 := by
  rw [List.drop_eq_getElem_cons hi, hg]; rfl
 have hge := Lib.indexByte_ge (p.drop (i + 1)) 59
 by_cases hn : Lib.indexByte (p.drop (i + 1)) 59 < 0
 ·have e : Lib.indexByte (p.drop (i + 1)) 59 = -1 := by omega
  rw [hix, e]; rfl
 ·obtain ⟨d, e1, e2⟩ := ixB_nat _ _ hn
  rw [List.length_drop] at e2
  have e : (Lib.indexByte (p.drop (i + 1)) 59 == -1) = false := by rw [beq_eq_false_iff_ne]; omega
  rw [e, if_neg (by simp), e1] at hix
  rw [hix, decide_eq_false (by omega), cond_false, w64 (x := (i : Int) + 1) (by omega) (by omega), w64 (x := (i : Int) + ((d : Int) + 1)) (by omega) (by omega), if_neg hn, e1, Int.toNat_natCast]
  have hsl : slc p ((i : Int) + 1) ((i : Int) + ((d : Int) + 1)) = some ((p.drop (i + 1)).take d) := by
   rw [show (i : Int) + 1 = ((i + 1 : Nat) : Int) by omega, show (i : Int) + ((d : Int) + 1) = ((i + 1 + d : Nat) : Int) by omega, slc_seg (by omega) (by omega), show i + 1 + d - (i + 1) = d by omega]
  rw [hsl, Option.bind_some, meant_eq _ (by rw [List.length_take, List.length_drop]; omega), Option.bind_some]
  by_cases h2 : (meantR ((p.drop (i + 1)).take d)).2 = 0
  ·rw [show ((meantR ((p.drop (i + 1)).take d)).2 != 0) = false by simpa using h2, cond_false, w64 (by omega) (by omega), if_neg (by simpa using h2)]
   congr 3; omega
  ·rw [show ((meantR ((p.drop (i + 1)).take d)).2 != 0) = true by simpa using h2, cond_true, if_pos h2]
theorem expand_r (p : List UInt8) (i : Nat) (h38 : p[i]? = some 38) (hp : p.length ≤ 1073741824) : F_lecternref02_Expand p (i : Int) = some (expR p i) := by
 obtain ⟨hi, hg⟩ := List.getElem?_eq_some_iff.1 h38
 have hge := Lib.indexByte_ge (p.drop (i + 1)) 59
 unfold F_lecternref02_Expand
 simp only [letJ]
 rw [w64 (x := (i : Int) + 1) (by omega) (by omega), show (i : Int) + 1 = ((i + 1 : Nat) : Int) by omega, word_eq p (i + 1) hi hp, Option.bind_some]
 have tail : (cond (decide ((p.length : Int) ≤ ((i + 1 : Nat) : Int))) (some ((0 : Int), (0 : Int), (22 : Int))) (some ((0 : Int), (0 : Int), (22 : Int)))) = some ((0 : Int), (0 : Int), (22 : Int)) := by cases decide ((p.length : Int) ≤ ((i + 1 : Nat) : Int)) <;> rfl
 have hw : ∀ (w : List UInt8) (v : Int) (n : Nat), (59 : UInt8) ∉ w → n = w.length + 1 → hereP p (i + 1) (w ++ [59]) = true → meantR w = (v, 0) → expR p i = (v, ((i + 1 + n : Nat) : Int), 0) := by
  intro w v n h59 hn h hm
  obtain ⟨d, h1, h2⟩ := (semi _ w h59).1 h
  have hdl : d = w.length := by
   have h3 : d < (p.drop (i + 1)).length := (List.getElem?_eq_some_iff.1 (Lib.indexByte_some h1).1).1
   rw [← h2, List.length_take]; omega
  unfold expR
  rw [h1, if_neg (by omega), Int.toNat_natCast, h2, hm, if_neg (by simp)]
  simp only [Prod.mk.injEq, true_and, and_true]
  omega
 unfold wordR
 by_cases c1 : hereP p (i + 1) [108, 116, 59] = true
 ·rw [if_pos c1, decide_eq_true (show (0 : Int) < ((60 : Int), ((i + 1 + 3 : Nat) : Int)).2 by simp only; omega), cond_true, hw [108, 116] 60 3 (by decide) rfl c1 rfl]
 rw [if_neg c1]
 by_cases c2 : hereP p (i + 1) [103, 116, 59] = true
 ·rw [if_pos c2, decide_eq_true (show (0 : Int) < ((62 : Int), ((i + 1 + 3 : Nat) : Int)).2 by simp only; omega), cond_true, hw [103, 116] 62 3 (by decide) rfl c2 rfl]
 rw [if_neg c2]
 by_cases c3 : hereP p (i + 1) [97, 109, 112, 59] = true
 ·rw [if_pos c3, decide_eq_true (show (0 : Int) < ((38 : Int), ((i + 1 + 4 : Nat) : Int)).2 by simp only; omega), cond_true, hw [97, 109, 112] 38 4 (by decide) rfl c3 rfl]
 rw [if_neg c3]
 by_cases c4 : hereP p (i + 1) [97, 112, 111, 115, 59] = true
 ·rw [if_pos c4, decide_eq_true (show (0 : Int) < ((39 : Int), ((i + 1 + 5 : Nat) : Int)).2 by simp only; omega), cond_true, hw [97, 112, 111, 115] 39 5 (by decide) rfl c4 rfl]
 rw [if_neg c4]
 by_cases c5 : hereP p (i + 1) [113, 117, 111, 116, 59] = true
 ·rw [if_pos c5, decide_eq_true (show (0 : Int) < ((34 : Int), ((i + 1 + 5 : Nat) : Int)).2 by simp only; omega), cond_true, hw [113, 117, 111, 116] 34 5 (by decide) rfl c5 rfl]
 rw [if_neg c5, show (decide ((0 : Int) < ((0 : Int), (0 : Int)).2)) = false from rfl, cond_false]
 have nq : ∀ d : Nat, Lib.indexByte (p.drop (i + 1)) 59 = (d : Int) → meantR ((p.drop (i + 1)).take d) = numQ ((p.drop (i + 1)).take d) := by
  intro d h
  have b1 := semi_b p (i + 1) [108, 116] (by decide) h
  have b2 := semi_b p (i + 1) [103, 116] (by decide) h
  have b3 := semi_b p (i + 1) [97, 109, 112] (by decide) h
  have b4 := semi_b p (i + 1) [97, 112, 111, 115] (by decide) h
  have b5 := semi_b p (i + 1) [113, 117, 111, 116] (by decide) h
  unfold meantR
  rw [← b1, ← b2, ← b3, ← b4, ← b5, if_neg (by exact c1), if_neg (by exact c2), if_neg (by exact c3), if_neg (by exact c4), if_neg (by exact c5)]
 have e22 : numQ ((p.drop (i + 1)).take (Lib.indexByte (p.drop (i + 1)) 59).toNat) = (0, 22) → expR p i = (0, 0, 22) := by
  intro h
  unfold expR
  by_cases hn : Lib.indexByte (p.drop (i + 1)) 59 < 0
  ·rw [if_pos hn]
  ·obtain ⟨d, e1, e2⟩ := ixB_nat _ _ hn
   rw [e1, Int.toNat_natCast] at h
   rw [if_neg hn, e1, Int.toNat_natCast, nq d e1, h, if_pos (by simp)]
 by_cases h1 : i + 1 < p.length
 ·rw [decide_eq_false (by omega), cond_false, idx_some h1, Option.bind_some]
  by_cases h35 : p[i + 1] = 35
  ·rw [h35, show ((((35 : UInt8).toNat : Int)) != 35) = false from rfl, cond_false, w64 (x := ((i + 1 : Nat) : Int) + 1) (by omega) (by omega), show ((i + 1 : Nat) : Int) + 1 = ((i + 2 : Nat) : Int) by omega, w64 (x := ((i + 2 : Nat) : Int) + 1) (by omega) (by omega), show ((i + 2 : Nat) : Int) + 1 = ((i + 3 : Nat) : Int) by omega]
   have hD : p.drop (i + 1) = 35 :: p.drop (i + 2) := by rw [List.drop_eq_getElem_cons h1, h35]
   have hix : Lib.indexByte (p.drop (i + 1)) 59 = if Lib.indexByte (p.drop (i + 2)) 59 == -1 then -1 else Lib.indexByte (p.drop (i + 2)) 59 + 1 := by
    rw [hD]; rfl
   have hge2 := Lib.indexByte_ge (p.drop (i + 2)) 59
   have k10 : (p[i + 2]? ≠ some 120) → numR p (i + 2) 10 = expR p i := by
    intro h120
    by_cases hn : Lib.indexByte (p.drop (i + 2)) 59 < 0
    ·rw [num_none p _ _ hn]
     have e : Lib.indexByte (p.drop (i + 2)) 59 = -1 := by omega
     rw [e] at hix
     unfold expR
     rw [hix]; rfl
    ·obtain ⟨d, e1, e2⟩ := ixB_nat _ _ hn
     rw [show (Lib.indexByte (p.drop (i + 2)) 59 == -1) = false by rw [beq_eq_false_iff_ne]; omega, if_neg (by simp), e1, show (d : Int) + 1 = ((d + 1 : Nat) : Int) by omega] at hix
     rw [num_eq p (i + 2) d 10 e1]
     have hq : numQ ((p.drop (i + 1)).take (d + 1)) = numM ((p.drop (i + 2)).take d) 10 := by
      rw [hD, List.take_succ_cons]
      have hx : ∀ a', (p.drop (i + 2)).take d ≠ 120 :: a' := by
       intro a' h
       have h0 : ((p.drop (i + 2)).take d)[0]? = some 120 := by rw [h]; rfl
       rw [List.getElem?_take] at h0
       split at h0
       ·rw [List.getElem?_drop, Nat.add_zero] at h0; exact h120 h0
       ·cases h0
      unfold numQ
      split
      ·rename_i e; injection e with _ e; exact absurd e (hx _)
      ·rename_i e; injection e with _ e; rw [e]
      ·rename_i _ e; exact (e _ rfl).elim
     unfold expR
     rw [hix, if_neg (c := ((d + 1 : Nat) : Int) < 0) (by omega), Int.toNat_natCast, nq _ hix, hq]
     split
     ·rfl
     ·congr 2; omega
   by_cases h2 : i + 2 < p.length
   ·rw [decide_eq_true (by omega), cond_true, idx_some h2, Option.bind_some]
    by_cases h120 : p[i + 2] = 120
    ·rw [h120, show ((((120 : UInt8).toNat : Int)) == 120) = true from rfl, cond_true]
     refine (numT p (i + 3) 16 (.inr rfl) (by omega) hp).trans ?_
     congr 1
     have hD2 : p.drop (i + 2) = 120 :: p.drop (i + 3) := by rw [List.drop_eq_getElem_cons h2, h120]
     have hix2 : Lib.indexByte (p.drop (i + 2)) 59 = if Lib.indexByte (p.drop (i + 3)) 59 == -1 then -1 else Lib.indexByte (p.drop (i + 3)) 59 + 1 := by
      rw [hD2]; rfl
     have hge3 := Lib.indexByte_ge (p.drop (i + 3)) 59
     by_cases hn : Lib.indexByte (p.drop (i + 3)) 59 < 0
     ·rw [num_none p _ _ hn]
      have e : Lib.indexByte (p.drop (i + 3)) 59 = -1 := by omega
      rw [hix2, e] at hix
      unfold expR
      rw [hix]; rfl
     ·obtain ⟨d, e1, e2⟩ := ixB_nat _ _ hn
      rw [show (Lib.indexByte (p.drop (i + 3)) 59 == -1) = false by rw [beq_eq_false_iff_ne]; omega, if_neg (by simp), e1] at hix2
      rw [show (Lib.indexByte (p.drop (i + 2)) 59 == -1) = false by rw [beq_eq_false_iff_ne]; omega, if_neg (by simp), hix2, show (d : Int) + 1 + 1 = ((d + 2 : Nat) : Int) by omega] at hix
      rw [num_eq p (i + 3) d 16 e1]
      have hq : numQ ((p.drop (i + 1)).take (d + 2)) = numM ((p.drop (i + 3)).take d) 16 := by
       rw [hD, List.take_succ_cons, hD2, List.take_succ_cons]; rfl
      unfold expR
      rw [hix, if_neg (c := ((d + 2 : Nat) : Int) < 0) (by omega), Int.toNat_natCast, nq _ hix, hq]
      split
      ·rfl
      ·congr 2; omega
    ·have : ((p[i + 2].toNat : Int) == 120) = false := by
      rw [beq_eq_false_iff_ne]; intro h; exact h120 (UInt8.toNat_inj.1 (by show _ = 120; omega))
     rw [this, cond_false]
     refine (numT p (i + 2) 10 (.inl rfl) (by omega) hp).trans ?_
     rw [k10 (by rw [List.getElem?_eq_getElem h2]; simpa using h120)]
   ·rw [decide_eq_false (by omega), cond_false, cond_false]
    refine (numT p (i + 2) 10 (.inl rfl) (by omega) hp).trans ?_
    rw [k10 (by rw [List.getElem?_eq_none (by omega)]; simp)]
  ·have : ((p[i + 1].toNat : Int) != 35) = true := by
    rw [bne_iff_ne]; intro h; exact h35 (UInt8.toNat_inj.1 (by show _ = 35; omega))
   rw [this, cond_true, e22 (by
    rw [List.drop_eq_getElem_cons h1]
    cases (Lib.indexByte (p[i + 1] :: p.drop (i + 1 + 1)) 59).toNat with
    | zero => rfl
    | succ n =>
     rw [List.take_succ_cons]
     unfold numQ
     split
     ·rename_i e; injection e with e _; exact absurd e h35
     ·rename_i e; injection e with e _; exact absurd e h35
     ·rfl)]
 ·rw [decide_eq_true (by omega), cond_true, cond_true, e22 (by rw [List.drop_eq_nil_of_le (by omega)]; rfl)]
theorem expand_rng (p : List UInt8) (i : Nat) (h38 : p[i]? = some 38) (hp : p.length ≤ 1073741824) : (expR p i).2.2 = 0 → ((charP (expR p i).1 = true) ∧ ∃ m : Nat, (expR p i).2.1 = (m : Int) ∧ i < m ∧ m ≤ p.length) := by
 intro h0
 unfold expR at h0 ⊢
 have hge := Lib.indexByte_ge (p.drop (i + 1)) 59
 by_cases hn : Lib.indexByte (p.drop (i + 1)) 59 < 0
 ·rw [if_pos hn] at h0; cases h0
 ·obtain ⟨d, e1, e2⟩ := ixB_nat _ _ hn
  rw [List.length_drop] at e2
  rw [if_neg hn, e1, Int.toNat_natCast] at h0 ⊢
  by_cases h2 : (meantR ((p.drop (i + 1)).take d)).2 = 0
  ·rw [if_neg (by simpa using h2)]
   refine ⟨?_, i + 1 + d + 1, by simp only; omega, by omega, by omega⟩
   dsimp only
   generalize (p.drop (i + 1)).take d = q at h2
   have hM : ∀ (a : List UInt8) (base : Int), (numM a base).2 = 0 → charP (numM a base).1 = true := by
    intro a base h
    unfold numM at h ⊢
    split
    ·rename_i hc; rw [if_pos hc] at h; cases h
    ·rename_i hc
     rw [if_neg hc] at h
     split
     ·rename_i hd; exact hd
     ·rename_i hd; rw [if_neg hd] at h; cases h
   have hQ : (numQ q).2 = 0 → charP (numQ q).1 = true := by
    intro h
    unfold numQ at h ⊢
    split at h
    ·exact hM _ _ h
    ·exact hM _ _ h
    ·cases h
   unfold meantR at h2 ⊢
   split
   ·decide
   ·rename_i c; rw [if_neg c] at h2
    split
    ·decide
    ·rename_i c; rw [if_neg c] at h2
     split
     ·decide
     ·rename_i c; rw [if_neg c] at h2
      split
      ·decide
      ·rename_i c; rw [if_neg c] at h2
       split
       ·decide
       ·rename_i c; rw [if_neg c] at h2
        exact hQ h2
  ·rw [if_pos h2] at h0
   exact absurd h0 h2
end Go.Proofs.YtfokkdofcekdbaaGreatDoor

set_option linter.unusedSimpArgs false
set_option linter.unusedVariables false
set_option maxRecDepth 20000
namespace Go.Proofs.YtfokkdofcekdbaaGreatDoor
open Go.Lib (decodeL decodeN)
theorem decN_hi {n b0 b1 b2 b3 : Nat} (h : 128 ≤ b0) : 128 ≤ (decodeN n b0 b1 b2 b3).1 := by
 unfold decodeN
 repeat' split
 all_goals first | omega | (simp only; omega)
theorem rune_lo (p : List UInt8) (x : Nat) (hx : x < p.length) (c : UInt8) (hc : c.toNat < 128) : (decodeL (p.drop x)).1 = c.toNat ↔ p[x] = c := by
 have hg : p.getD x 0 = p[x] := by simp [List.getD, hx]
 obtain ⟨_, _, d3, _⟩ := dec_bytes p x hx
 constructor
 ·intro h
  by_cases hb : (p.getD x 0).toNat < 128
  ·rw [d3 hb, hg] at h
   exact UInt8.toNat_inj.1 h
  ·have := Lib.decodeL_N (p.drop x)
   rw [this] at h
   have hh := decN_hi (n := (p.drop x).length) (b0 := ((p.drop x).getD 0 0).toNat) (b1 := ((p.drop x).getD 1 0).toNat) (b2 := ((p.drop x).getD 2 0).toNat) (b3 := ((p.drop x).getD 3 0).toNat) (by rw [getD_drop, Nat.add_zero]; omega)
   omega
 ·intro h
  rw [d3 (by rw [hg, h]; exact hc), hg, h]
theorem rune_is (p : List UInt8) (x : Nat) (hx : x < p.length) (c : UInt8) (hc : c.toNat < 128) : (((decodeL (p.drop x)).1 : Int) == (c.toNat : Int)) = (p[x] == c) := by
 rw [Bool.eq_iff_iff, beq_iff_eq, beq_iff_eq, ← rune_lo p x hx c hc]; omega
theorem hereP_nil (b : List UInt8) (i : Nat) : hereP b i [] = true := by unfold hereP; cases b.drop i <;> rfl
theorem hereP_cons (b : List UInt8) (i : Nat) (c : UInt8) (w : List UInt8) : hereP b i (c :: w) = ((b[i]? == some c) && hereP b (i + 1) w) := by
 unfold hereP
 by_cases hi : i < b.length
 ·rw [List.drop_eq_getElem_cons hi, List.getElem?_eq_getElem hi]
  simp only [List.isPrefixOf]
  have : (c == b[i]) = (some b[i] == some c) := by rw [Bool.eq_iff_iff, beq_iff_eq, beq_iff_eq, Option.some.injEq]; exact ⟨fun h => h.symm, fun h => h.symm⟩
  rw [this]
 ·rw [List.drop_eq_nil_of_le (by omega), List.getElem?_eq_none (by omega)]; rfl
theorem byte_is (c : UInt8) (n : Nat) (hn : n < 256) : ((c.toNat : Int) == (n : Int)) = (c == UInt8.ofNat n) := by
 rw [u8_beq c n hn]
 rw [Bool.eq_iff_iff, decide_eq_true_eq, beq_iff_eq]
theorem dec_max (p : List UInt8) (x : Nat) : (decodeL (p.drop x)).1 ≤ 2097151 := by
 rw [Lib.decodeL_N]
 unfold decodeN
 repeat' split
 all_goals first | omega | (simp only; omega)
theorem read_two (p : List UInt8) (v : Bool) (hp : p.length ≤ 1073741824) : F_lecternref02_Read p v = F_refer_read p v := by
 unfold F_lecternref02_Read F_refer_read
 simp only [letJ]
 have := iter_congr (b1 := F_lecternref02_Read_l0 p v) (b2 := F_refer_read_l0 p v) (fun x => ∃ j : Nat, x.2 = (j : Int) ∧ j ≤ p.length) (fun rec1 rec2 x ⟨k, hx, hk⟩ hrec => by
  obtain ⟨acc, kk⟩ := x
  dsimp only at hx
  subst hx
  unfold F_lecternref02_Read_l0 F_refer_read_l0
  dsimp only
  by_cases hl : k < p.length
  ·obtain ⟨d1, d2, d3, d4⟩ := dec_bytes p k hl
   have dm := dec_max p k
   rw [decide_eq_true (show (k : Int) < (p.length : Int) by omega), cond_true, cond_true, F_read1 p k hl hp, F_next p k hl hp, Option.bind_some, Option.bind_some]
   cases hb : badR (decodeL (p.drop k)) with
   | true => rfl
   | false =>
    simp only [Bool.false_eq_true, if_false, F_char1, Option.bind_some, letJ]
    rw [show (((decodeL (p.drop k)).2 : Int) == (0 : Int)) = false by rw [beq_eq_false_iff_ne]; omega, cond_false]
    cases hc : charP ((decodeL (p.drop k)).1 : Int) with
    | false => rfl
    | true =>
     simp only [Bool.not_true, cond_false, if_true, bne_self_eq_false]
     have hgo : IntKind.wrap .i64 ((k : Int) + ((decodeL (p.drop k)).2 : Int)) = ((k + (decodeL (p.drop k)).2 : Nat) : Int) := by rw [w64 (by omega) (by omega)]; omega
     have r60 := rune_is p k hl 60 (by decide)
     have r93 := rune_is p k hl 93 (by decide)
     have r38 := rune_is p k hl 38 (by decide)
     rw [show ((60 : UInt8).toNat : Int) = 60 from rfl] at r60
     rw [show ((93 : UInt8).toNat : Int) = 93 from rfl] at r93
     rw [show ((38 : UInt8).toNat : Int) = 38 from rfl] at r38
     have go : ∀ (r : Int) (m : Nat), m ≤ p.length → -2147483648 ≤ r → r ≤ 2147483647 →
       ((app 1 acc (Utf8.encode (IntKind.wrap .i32 r)).data.toList).bind fun _ => rec1 ((acc ++ (Utf8.encode (IntKind.wrap .i32 r)).data.toList), (m : Int))) =
       ((app 1 acc (Utf8.encode r).data.toList).bind fun _ => rec2 ((acc ++ (Utf8.encode r).data.toList), (m : Int))) := by
      intro r m hm h1 h2
      rw [w32 h1 h2]
      congr 1
      funext _
      exact hrec _ ⟨m, rfl, hm⟩
     have hbar : ∀ (A B : Option (((List UInt8)) ⊕ ((List UInt8) × Int × Int))), A = B →
       (cond (((!v) && ((decodeL (p.drop k)).1 : Int) == (93 : Int)) && (decide ((IntKind.wrap .i64 ((k : Int) + (2 : Int))) < (p.length : Int)))) ((idx p (IntKind.wrap .i64 ((k : Int) + (1 : Int)))).bind fun x68 => cond ((x68.toNat : Int) == (93 : Int)) ((idx p (IntKind.wrap .i64 ((k : Int) + (2 : Int)))).bind fun x72 => cond ((x72.toNat : Int) == (62 : Int)) (some (.inr (([] : List UInt8), (k : Int), (23 : Int)))) A) (cond false (some (.inr (([] : List UInt8), (k : Int), (23 : Int)))) A)) (cond false (cond false (some (.inr (([] : List UInt8), (k : Int), (23 : Int)))) A) (cond false (some (.inr (([] : List UInt8), (k : Int), (23 : Int)))) A))) =
       cond (!v) ((slc p (k : Int) (p.length : Int)).bind fun x95 => (F_bytes_HasPrefix x95 ([93, 93, 62] : List UInt8)).bind fun x98 => cond x98 (some (.inr (([] : List UInt8), (k : Int), (23 : Int)))) B) (cond false (some (.inr (([] : List UInt8), (k : Int), (23 : Int)))) B) := by
      rintro A _ rfl
      cases v with
      | true => rfl
      | false =>
       rw [Bool.not_false, Bool.true_and, cond_true, slc_drop (Nat.le_of_lt hl), Option.bind_some, hasPrefix_eq, Option.bind_some, r93, w64 (x := (k : Int) + 2) (by omega) (by omega), w64 (x := (k : Int) + 1) (by omega) (by omega)]
       have e : ([93, 93, 62] : List UInt8).isPrefixOf (p.drop k) = hereP p k [93, 93, 62] := rfl
       rw [e, hereP_cons, hereP_cons, hereP_cons, hereP_nil, Bool.and_true, List.getElem?_eq_getElem hl]
       have e2 : ((some p[k] : Option UInt8) == some 93) = (p[k] == 93) := rfl
       rw [e2]
       cases p[k] == 93 with
       | false => rfl
       | true =>
        rw [Bool.true_and, Bool.true_and]
        by_cases h2 : k + 2 < p.length
        ·rw [decide_eq_true (by omega), cond_true, show (k : Int) + 1 = ((k + 1 : Nat) : Int) by omega, show (k : Int) + 2 = ((k + 2 : Nat) : Int) by omega, idx_some (by omega), idx_some h2, Option.bind_some, Option.bind_some, List.getElem?_eq_getElem (show k + 1 < p.length by omega), List.getElem?_eq_getElem (show k + 1 + 1 < p.length by omega)]
         rw [show (93 : Int) = ((93 : Nat) : Int) from rfl, show (62 : Int) = ((62 : Nat) : Int) from rfl, byte_is _ 93 (by decide), byte_is _ 62 (by decide)]
         show _ = cond ((p[k + 1] == 93) && (p[k + 1 + 1] == 62)) _ _
         show cond (p[k + 1] == 93) (cond (p[k + 1 + 1] == 62) _ _) _ = _
         cases p[k + 1] == 93 <;> rfl
        ·rw [decide_eq_false (by omega), cond_false, cond_false, cond_false, List.getElem?_eq_none (show p.length ≤ k + 1 + 1 by omega)]
         rw [show ((none : Option UInt8) == some 62) = false from rfl, Bool.and_false, cond_false]
     rw [r60]
     cases hc60 : p[k] == 60 with
     | true => rfl
     | false =>
      rw [cond_false, cond_false]
      refine hbar _ _ ?_
      rw [r38]
      cases h38 : p[k] == 38 with
      | true =>
       have h38' : p[k]? = some 38 := by rw [List.getElem?_eq_getElem hl]; simpa using h38
       rw [cond_true, cond_true, expand_r p k h38' hp, expand_w p k h38' hp, Option.bind_some, Option.bind_some]
       by_cases h2 : (expR p k).2.2 = 0
       ·rw [show ((expR p k).2.2 != 0) = false by simpa using h2, cond_false, cond_false]
        obtain ⟨g1, m, g2, g3, g4⟩ := expand_rng p k h38' hp h2
        rw [g2]
        unfold charP at g1
        have g1 := of_decide_eq_true g1
        exact go _ m g4 (by omega) (by omega)
       ·rw [show ((expR p k).2.2 != 0) = true by simpa using h2, cond_true, cond_true]
      | false =>
       rw [cond_false, cond_false, hgo]
       cases v && ((((((decodeL (p.drop k)).1 : Int) == (9 : Int)) || (((decodeL (p.drop k)).1 : Int) == (10 : Int))) || (((decodeL (p.drop k)).1 : Int) == (13 : Int)))) with
       | true => rw [cond_true, cond_true]; exact go 32 _ d2 (by omega) (by omega)
       | false => rw [cond_false, cond_false]; exact go _ _ d2 (by omega) (by omega)
  ·rw [decide_eq_false (by omega), cond_false, cond_false]) FUEL (([] : List UInt8), (0 : Int)) ⟨0, rfl, Nat.zero_le _⟩
 rw [this]
end Go.Proofs.YtfokkdofcekdbaaGreatDoor
