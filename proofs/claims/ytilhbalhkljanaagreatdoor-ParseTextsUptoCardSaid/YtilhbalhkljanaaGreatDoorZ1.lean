/- Characters and names: what the program's functions answer. No condition. -/
import Derived.Test.YtilhbalhkljanaaGreatDoorWs
import Derived.Test.YtilhbalhkljanaaGreatDoorPf
import Derived.Test.YtilhbalhkljanaaGreatDoorPl1
import Derived.KernelRfl
import Derived.Lib.MapLaws
import Derived.Lib.TrimUEq
import Derived.Lib.ValidLaws
import Derived.Lib.Index
import Derived.Laws.BitsAllLaws
import Derived.Lib.SlTrimSet
import Derived.Laws.Cover4
import Derived.Lib.IndexMore
import Derived.Lib.IndexLaws
set_option linter.unusedSimpArgs false
set_option linter.unusedVariables false
set_option maxRecDepth 20000
namespace Go.Proofs.YtilhbalhkljanaaGreatDoor
open Go.Lib (decodeL decodeN)
theorem getD_drop (p : LB) (x k : Nat) : (p.drop x).getD k 0 = p.getD (x + k) 0 := by simp [List.getD, List.getElem?_drop]
theorem decN_facts (n b0 b1 b2 b3 : Nat) : (b0 < 128 → decodeN n b0 b1 b2 b3 = (b0, 1)) ∧ (2 ≤ (decodeN n b0 b1 b2 b3).2 → 128 ≤ b1) ∧ (3 ≤ (decodeN n b0 b1 b2 b3).2 → 128 ≤ b2) ∧ (4 ≤ (decodeN n b0 b1 b2 b3).2 → 128 ≤ b3) ∧ (decodeN n b0 b1 b2 b3).2 ≤ 4 := by
 unfold decodeN
 repeat' split
 all_goals refine ⟨fun h => ?_, fun h => ?_, fun h => ?_, fun h => ?_, ?_⟩
 all_goals first | rfl | omega | (simp only at *; omega)
theorem drop_ne {α : Type} {l : List α} {i : Nat} (h : i < l.length) : l.drop i = l[i] :: l.drop (i + 1) := List.drop_eq_getElem_cons h
theorem dec_bytes (p : LB) (x : Nat) (hx : x < p.length) : 1 ≤ (decodeL (p.drop x)).2 ∧ x + (decodeL (p.drop x)).2 ≤ p.length ∧ ((p.getD x 0).toNat < 128 → decodeL (p.drop x) = ((p.getD x 0).toNat, 1)) ∧ ∀ k, 1 ≤ k → k < (decodeL (p.drop x)).2 → 128 ≤ (p.getD (x + k) 0).toNat := by
 have hne : p.drop x ≠ [] := by intro h; have := congrArg List.length h; simp at this; omega
 have h1 := Lib.decodeL_width (p.drop x)
 have h2 := Lib.decodeL_le (p.drop x) hne
 have e := Lib.decodeL_N (p.drop x)
 simp only [getD_drop] at e
 have f := decN_facts (p.drop x).length (p.getD (x + 0) 0).toNat (p.getD (x + 1) 0).toNat (p.getD (x + 2) 0).toNat (p.getD (x + 3) 0).toNat
 rw [← e] at f
 obtain ⟨f0, f1, f2, f3, f4⟩ := f
 rw [List.length_drop] at h2
 refine ⟨h1, by omega, fun h => f0 h, fun k hk1 hk2 => ?_⟩
 match k, hk1, hk2 with
 | 1, _, hk => exact f1 (by omega)
 | 2, _, hk => exact f2 (by omega)
 | 3, _, hk => exact f3 (by omega)
 | k + 4, _, hk => omega
theorem dec_at (p : LB) (x : Nat) : (rnS p x = ((decodeL (p.drop x)).1 : Int)) ∧ wdS p x = (decodeL (p.drop x)).2 := by
 have := Lib.decodeL_drop ⟨p.toArray⟩ x
 simp only at this
 unfold rnS wdS
 rw [← this]
 exact ⟨rfl, rfl⟩
def badR (d : Nat × Nat) : Bool := decide (d.1 = 65533 ∧ d.2 = 1)
def inP (r : Int) : List T_char_span → Bool
 | [] => false
 | s :: l => if r ≤ s.hi then decide (s.lo ≤ r) else inP r l
theorem F_in (r : Int) (l : List T_char_span) (hl : l.length ≤ 9223372036854775807) : F_char_in r l = some (inP r l) := by
 unfold F_char_in
 simp only [letJ]
 obtain ⟨o, h1, h2⟩ := iter_spec (b := F_char_in_l0 r l) (fun i x => x = (i : Int) ∧ inP r l = inP r (l.drop i)) (fun o => match o with | .inl _ => inP r l = false | .inr b => inP r l = b) l.length (x0 := (0 : Int)) ⟨rfl, by simp⟩
  (fun i x rec hi ⟨hx, hI⟩ => by
   subst hx
   rw [drop_ne hi, inP] at hI
   unfold F_char_in_l0
   rw [dT (by omega), cT, idx_some hi, bS, w64 (by omega) (by omega)]
   by_cases c : r ≤ l[i].hi
   ·rw [if_pos c] at hI
    rw [dT c]
    exact .inr ⟨.inr _, rfl, hI⟩
   ·rw [if_neg c] at hI
    rw [dF c]
    exact .inl ⟨_, rfl, rfl, hI⟩)
  (fun x rec ⟨hx, hI⟩ => ⟨.inl (), by
   subst hx
   unfold F_char_in_l0
   rw [dF (by omega), cF], by show inP r l = false; rw [hI, List.drop_length]; rfl⟩) (n := FUEL) (by unfold FUEL; omega)
 rw [h1, bS]
 cases o with
 | inl u => simp only at h2; rw [h2]
 | inr b => simp only at h2; rw [h2]
def srt : List T_char_span → Bool
 | [] => true
 | s :: l => l.all (fun t => decide (s.hi < t.lo)) && srt l
theorem inP_any (r : Int) : ∀ l, srt l = true → inP r l = l.any fun s => decide (s.lo ≤ r ∧ r ≤ s.hi)
 | [], _ => rfl
 | s :: l, h => by
  simp only [srt, Bool.and_eq_true, List.all_eq_true, decide_eq_true_eq] at h
  simp only [inP, List.any_cons]
  by_cases c : r ≤ s.hi
  ·rw [if_pos c]
   have : (l.any fun s => decide (s.lo ≤ r ∧ r ≤ s.hi)) = false := by
    rw [List.any_eq_false]
    intro t ht
    have := h.1 t ht
    simp only [decide_eq_true_eq]; omega
   rw [this, Bool.or_false]
   by_cases c2 : s.lo ≤ r <;> simp [c, c2]
  ·rw [if_neg c, inP_any r l h.2, dF (fun hh => c hh.2), Bool.false_or]
def charP (r : Int) : Bool := decide (r = 9 ∨ r = 10 ∨ r = 13 ∨ (32 ≤ r ∧ r ≤ 55295) ∨ (57344 ≤ r ∧ r ≤ 65533) ∨ (65536 ≤ r ∧ r ≤ 1114111))
def startP (r : Int) : Bool := decide ((65 ≤ r ∧ r ≤ 90) ∨ r = 95 ∨ (97 ≤ r ∧ r ≤ 122) ∨ (192 ≤ r ∧ r ≤ 214) ∨ (216 ≤ r ∧ r ≤ 246) ∨ (248 ≤ r ∧ r ≤ 767) ∨ (880 ≤ r ∧ r ≤ 893) ∨ (895 ≤ r ∧ r ≤ 8191) ∨ (8204 ≤ r ∧ r ≤ 8205) ∨ (8304 ≤ r ∧ r ≤ 8591) ∨ (11264 ≤ r ∧ r ≤ 12271) ∨ (12289 ≤ r ∧ r ≤ 55295) ∨ (63744 ≤ r ∧ r ≤ 64975) ∨ (65008 ≤ r ∧ r ≤ 65533) ∨ (65536 ≤ r ∧ r ≤ 983039))
def partP (r : Int) : Bool := startP r || decide (r = 45 ∨ r = 46 ∨ (48 ≤ r ∧ r ≤ 57) ∨ r = 183 ∨ (768 ≤ r ∧ r ≤ 879) ∨ (8255 ≤ r ∧ r ≤ 8256))
theorem in_eq (r : Int) (k : Bool → Option Bool) (l : List T_char_span) (hl : l.length ≤ 9223372036854775807) : (F_char_in r l).bind k = k (inP r l) := by rw [F_in r l hl]; rfl
theorem F_isChar (r : Int) : F_char_IsChar r = some (charP r) := by
 unfold F_char_IsChar charP
 simp only [letJ]
 by_cases c : r = 9 ∨ r = 10 ∨ r = 13
 ·have e : (((r == (9 : Int)) || (r == (10 : Int))) || (r == (13 : Int))) = true := by simp only [Bool.or_eq_true, beq_iff_eq]; omega
  rw [e, cT, dT (by omega)]
 ·have e : (((r == (9 : Int)) || (r == (10 : Int))) || (r == (13 : Int))) = false := by simp only [Bool.or_eq_false_iff, beq_eq_false_iff_ne]; omega
  rw [e, cF, in_eq _ _ _ (by decide)]
  congr 1
  rw [inP_any _ _ (by decide), Bool.eq_iff_iff]
  simp only [List.any_cons, List.any_nil, Bool.or_eq_true, decide_eq_true_eq, Bool.false_eq_true, or_false]
  omega
theorem F_isStart (r : Int) : F_char_IsStart r = some (startP r) := by
 unfold F_char_IsStart startP
 by_cases c : r < 128
 ·rw [dT c, cT]
  congr 1
  rw [Bool.eq_iff_iff]
  simp only [Bool.or_eq_true, Bool.and_eq_true, beq_iff_eq, decide_eq_true_eq]
  omega
 ·rw [dF c, cF, in_eq _ _ _ (by decide)]
  congr 1
  rw [inP_any _ _ (by decide), Bool.eq_iff_iff]
  simp only [List.any_cons, List.any_nil, Bool.or_eq_true, decide_eq_true_eq, Bool.false_eq_true, or_false]
  omega
theorem F_isPart (r : Int) : F_char_IsPart r = some (partP r) := by
 unfold F_char_IsPart partP
 rw [F_isStart, bS]
 simp only [letJ]
 by_cases c : startP r = true ∨ r = 45 ∨ r = 46 ∨ (48 ≤ r ∧ r ≤ 57) ∨ r = 183
 ·have e : ((((startP r || (r == (45 : Int))) || (r == (46 : Int))) || ((decide ((48 : Int) ≤ r)) && (decide (r ≤ (57 : Int))))) || (r == (183 : Int))) = true := by
   simp only [Bool.or_eq_true, Bool.and_eq_true, beq_iff_eq, decide_eq_true_eq]
   rcases c with c | c
   ·simp [c]
   ·omega
  rw [e, cT]
  congr 1
  rcases c with c | c
  ·simp [c]
  ·rw [dT (by omega), Bool.or_true]
 ·have hs : startP r = false := by simpa using fun h => c (.inl h)
  have e : ((((startP r || (r == (45 : Int))) || (r == (46 : Int))) || ((decide ((48 : Int) ≤ r)) && (decide (r ≤ (57 : Int))))) || (r == (183 : Int))) = false := by
   rw [Bool.eq_false_iff]
   simp only [ne_eq, Bool.or_eq_true, Bool.and_eq_true, beq_iff_eq, decide_eq_true_eq, hs, Bool.false_eq_true, false_or]
   intro h; apply c; right; omega
  rw [e, cF, in_eq _ _ _ (by decide)]
  congr 1
  rw [hs, Bool.false_or]
  rw [inP_any _ _ (by decide), Bool.eq_iff_iff]
  simp only [List.any_cons, List.any_nil, Bool.or_eq_true, decide_eq_true_eq, Bool.false_eq_true, or_false]
  omega
theorem decN_two (n b0 b1 b2 b3 : Nat) : (decodeN n b0 b1 b2 b3).2 = 2 → (decodeN n b0 b1 b2 b3).1 ≤ 2047 := by
 unfold decodeN
 repeat' split
 all_goals first | (intro h; simp only at h; omega) | (intro _; simp only; omega)
theorem badR_iff (l : LB) (x : Nat) (hx : x < l.length) : ((((decodeL (l.drop x)).1 : Int) == (65533 : Int)) && decide (((decodeL (l.drop x)).2 : Int) < (3 : Int))) = badR (decodeL (l.drop x)) := by
 obtain ⟨d1, _⟩ := dec_bytes l x hx
 have e := Lib.decodeL_N (l.drop x)
 have h2 := decN_two (l.drop x).length ((l.drop x).getD 0 0).toNat ((l.drop x).getD 1 0).toNat ((l.drop x).getD 2 0).toNat ((l.drop x).getD 3 0).toNat
 rw [← e] at h2
 unfold badR
 rw [Bool.eq_iff_iff]
 simp only [Bool.and_eq_true, beq_iff_eq, decide_eq_true_eq]
 omega
theorem F_next (p : LB) (x : Nat) (hx : x < p.length) (hl : p.length ≤ 1073741824) : F_char_Next p (x : Int) = some (if badR (decodeL (p.drop x)) then (0, 0, 20) else if charP (decodeL (p.drop x)).1 then (((decodeL (p.drop x)).1 : Int), ((x + (decodeL (p.drop x)).2 : Nat) : Int), 0) else (0, 0, 21)) := by
 obtain ⟨d1, d2, d3, d4⟩ := dec_bytes p x hx
 unfold F_char_Next
 rw [dF (by omega), dF (by omega)]
 simp only [Bool.or_self, cF]
 have hs : slc p (x : Int) (p.length : Int) = some (p.drop x) := by
  unfold slc; rw [if_pos (by omega)]; simp only [Int.toNat_natCast]; rw [List.take_of_length_le (by simp)]
 rw [hs, bS]
 have hne : p.drop x ≠ [] := by intro h; have := congrArg List.length h; simp at this; omega
 have hd : L_DecodeRune (p.drop x) = some (((decodeL (p.drop x)).1 : Int), ((decodeL (p.drop x)).2 : Int)) := by
  unfold L_DecodeRune Lib.decodeGo
  rw [if_neg hne, if_neg (by
   show ¬ ((p.drop x).toArray.size = 0)
   simp; omega)]
  rfl
 rw [hd, bS]
 simp only [badR_iff p x hx, F_isChar, bS]
 cases badR (decodeL (p.drop x))
 ·cases charP ((decodeL (p.drop x)).1 : Int)
  ·rfl
  ·simp only [cF, Bool.not_true, Bool.false_eq_true, if_false, if_true]
   rw [w64 (by omega) (by omega)]; rfl
 ·rfl
def okN (l : LB) : Nat → Nat → Bool
 | 0, _ => true
 | n + 1, j => if j < l.length then !badR (decodeL (l.drop j)) && (partP (decodeL (l.drop j)).1 && ((!decide (j = 0) || startP (decodeL (l.drop j)).1) && okN l n (j + (decodeL (l.drop j)).2))) else true
def nameP (l : LB) : Bool := !(decide (l = []) || decide (100 < l.length)) && okN l l.length 0
def sk (P : UInt8 → Bool) (s : LB) (i : Nat) : Nat := i + ((s.drop i).takeWhile P).length
theorem sk_le (P : UInt8 → Bool) (s : LB) (i : Nat) (h : i ≤ s.length) : i ≤ sk P s i ∧ sk P s i ≤ s.length := by
 unfold sk
 have := (List.takeWhile_sublist P (l := s.drop i)).length_le
 rw [List.length_drop] at this
 omega
theorem sk_end (P : UInt8 → Bool) (s : LB) : sk P s s.length = s.length := by simp [sk]
theorem sk_step {P : UInt8 → Bool} {s : LB} {i : Nat} (h : i < s.length) : sk P s i = if P s[i] = true then sk P s (i + 1) else i := by
 unfold sk
 rw [List.drop_eq_getElem_cons h, List.takeWhile_cons]
 split
 ·rw [List.length_cons]; omega
 ·rfl
theorem scan_loop {b : (Int → Option Int) → Int → Option Int} (P : UInt8 → Bool) (s : LB)
  (hb : ∀ (rec : Int → Option Int) (i : Nat) (h : i < s.length), b rec (i : Int) = cond (P s[i]) (rec ((i + 1 : Nat) : Int)) (some (i : Int)))
  (he : ∀ rec : Int → Option Int, b rec (s.length : Int) = some (s.length : Int)) :
  ∀ (n j i : Nat), i + j = s.length → j < n → iter b n (i : Int) = some ((sk P s i : Nat) : Int)
 | 0, j, i, _, h => by omega
 | n + 1, 0, i, e, h => by
  have : i = s.length := by omega
  subst this
  show b (iter b n) _ = _
  rw [he, sk_end]
 | n + 1, j + 1, i, e, h => by
  have hi : i < s.length := by omega
  show b (iter b n) _ = _
  rw [hb _ i hi, sk_step hi]
  cases hP : P s[i] with
  | true => rw [cT, if_pos rfl]; exact scan_loop P s hb he n j (i + 1) (by omega) (by omega)
  | false => rw [cF, if_neg (by simp)]
theorem all_u8 {p : UInt8 → Bool} (h : (List.range 256).all (fun n => p (UInt8.ofNat n)) = true) (c : UInt8) : p c = true := by
 rw [List.all_eq_true] at h
 have := h c.toNat (List.mem_range.2 c.toNat_lt)
 simpa using this
theorem nat_u8 (c : UInt8) : ((c.toNat : Int)).toNat.toUInt8 = c := by simp
theorem iter_succ {σ ρ : Type} (b : (σ → Option ρ) → σ → Option ρ) (n : Nat) (x : σ) : iter b (n + 1) x = b (iter b n) x := rfl
def readN (n b0 b1 b2 b3 : Nat) : Int × Int :=
 if b0 < 128 then (b0, 1)
 else if 192 ≤ b0 ∧ b0 < 224 then
  (if n < 2 then (0, 0) else if b1 < 128 ∨ 191 < b1 then (0, 0) else
   if (64 * ((b0 : Int) - 192) + b1 - 128 < 128 ∨ 1114111 < 64 * ((b0 : Int) - 192) + b1 - 128) ∨ (55296 ≤ 64 * ((b0 : Int) - 192) + b1 - 128 ∧ 64 * ((b0 : Int) - 192) + b1 - 128 ≤ 57343) then (0, 0) else (64 * ((b0 : Int) - 192) + b1 - 128, 2))
 else if 224 ≤ b0 ∧ b0 < 240 then
  (if n < 3 then (0, 0) else if b1 < 128 ∨ 191 < b1 then (0, 0) else if b2 < 128 ∨ 191 < b2 then (0, 0) else
   if (64 * (64 * ((b0 : Int) - 224) + b1 - 128) + b2 - 128 < 2048 ∨ 1114111 < 64 * (64 * ((b0 : Int) - 224) + b1 - 128) + b2 - 128) ∨ (55296 ≤ 64 * (64 * ((b0 : Int) - 224) + b1 - 128) + b2 - 128 ∧ 64 * (64 * ((b0 : Int) - 224) + b1 - 128) + b2 - 128 ≤ 57343) then (0, 0) else (64 * (64 * ((b0 : Int) - 224) + b1 - 128) + b2 - 128, 3))
 else if 240 ≤ b0 ∧ b0 < 248 then
  (if n < 4 then (0, 0) else if b1 < 128 ∨ 191 < b1 then (0, 0) else if b2 < 128 ∨ 191 < b2 then (0, 0) else if b3 < 128 ∨ 191 < b3 then (0, 0) else
   if (64 * (64 * (64 * ((b0 : Int) - 240) + b1 - 128) + b2 - 128) + b3 - 128 < 65536 ∨ 1114111 < 64 * (64 * (64 * ((b0 : Int) - 240) + b1 - 128) + b2 - 128) + b3 - 128) ∨ (55296 ≤ 64 * (64 * (64 * ((b0 : Int) - 240) + b1 - 128) + b2 - 128) + b3 - 128 ∧ 64 * (64 * (64 * ((b0 : Int) - 240) + b1 - 128) + b2 - 128) + b3 - 128 ≤ 57343) then (0, 0) else (64 * (64 * (64 * ((b0 : Int) - 240) + b1 - 128) + b2 - 128) + b3 - 128, 4))
 else (0, 0)
theorem readN_eq (n b0 b1 b2 b3 : Nat) (hn : 1 ≤ n) (h0 : b0 < 256) (h1 : b1 < 256) (h2 : b2 < 256) (h3 : b3 < 256) :
  readN n b0 b1 b2 b3 = if badR (decodeN n b0 b1 b2 b3) then (0, 0) else (((decodeN n b0 b1 b2 b3).1 : Int), ((decodeN n b0 b1 b2 b3).2 : Int)) := by
 have key : (decodeN n b0 b1 b2 b3).1 = 65533 ∧ (decodeN n b0 b1 b2 b3).2 = 1 ∧ readN n b0 b1 b2 b3 = (0, 0) ∨ ((decodeN n b0 b1 b2 b3).2 ≠ 1 ∨ (decodeN n b0 b1 b2 b3).1 ≠ 65533) ∧ readN n b0 b1 b2 b3 = (((decodeN n b0 b1 b2 b3).1 : Int), ((decodeN n b0 b1 b2 b3).2 : Int)) := by
  by_cases c0 : b0 < 128
  ·right
   have hD : decodeN n b0 b1 b2 b3 = (b0, 1) := by unfold decodeN; rw [if_pos c0]
   have hR : readN n b0 b1 b2 b3 = ((b0 : Int), 1) := by unfold readN; rw [if_pos c0]
   rw [hD, hR]; exact ⟨.inr (by simp only; omega), rfl⟩
  by_cases c1 : b0 < 192 ∨ 248 ≤ b0
  ·
   left
   have hD : decodeN n b0 b1 b2 b3 = (65533, 1) := by unfold decodeN; rw [if_neg (show ¬ (b0 < 128) by omega), if_neg (show ¬ (b0 / 32 = 6 ∧ (1 < n ∧ b1 / 64 = 2)) by omega), if_neg (show ¬ (b0 / 16 = 14 ∧ (1 < n ∧ b1 / 64 = 2) ∧ (2 < n ∧ b2 / 64 = 2)) by omega), if_neg (show ¬ (b0 / 8 = 30 ∧ (1 < n ∧ b1 / 64 = 2) ∧ (2 < n ∧ b2 / 64 = 2) ∧ (3 < n ∧ b3 / 64 = 2)) by omega)]
   have hR : readN n b0 b1 b2 b3 = (0, 0) := by unfold readN; rw [if_neg (show ¬ (b0 < 128) by omega), if_neg (show ¬ (192 ≤ b0 ∧ b0 < 224) by omega), if_neg (show ¬ (224 ≤ b0 ∧ b0 < 240) by omega), if_neg (show ¬ (240 ≤ b0 ∧ b0 < 248) by omega)]
   rw [hD, hR]; exact ⟨rfl, rfl, rfl⟩
  by_cases c2 : b0 < 224
  ·
   by_cases g : b0 / 32 = 6 ∧ (1 < n ∧ b1 / 64 = 2)
   ·
    by_cases g2 : b0 % 32 * 64 + b1 % 64 ≥ 128
    ·
     right
     have hD : decodeN n b0 b1 b2 b3 = (b0 % 32 * 64 + b1 % 64, 2) := by unfold decodeN; rw [if_neg (show ¬ (b0 < 128) by omega), if_pos g, if_pos g2]
     have hR : readN n b0 b1 b2 b3 = (64 * ((b0 : Int) - 192) + b1 - 128, 2) := by unfold readN; rw [if_neg (show ¬ (b0 < 128) by omega), if_pos (show 192 ≤ b0 ∧ b0 < 224 by omega), if_neg (show ¬ (n < 2) by omega), if_neg (show ¬ (b1 < 128 ∨ 191 < b1) by omega), if_neg (show ¬ ((64 * ((b0 : Int) - 192) + b1 - 128 < 128 ∨ 1114111 < 64 * ((b0 : Int) - 192) + b1 - 128) ∨ (55296 ≤ 64 * ((b0 : Int) - 192) + b1 - 128 ∧ 64 * ((b0 : Int) - 192) + b1 - 128 ≤ 57343)) by omega)]
     rw [hD, hR]; exact ⟨.inl (by simp only; omega), by simp only [Prod.mk.injEq]; omega⟩
    ·
     left
     have hD : decodeN n b0 b1 b2 b3 = (65533, 1) := by unfold decodeN; rw [if_neg (show ¬ (b0 < 128) by omega), if_pos g, if_neg g2]
     have hR : readN n b0 b1 b2 b3 = (0, 0) := by unfold readN; rw [if_neg (show ¬ (b0 < 128) by omega), if_pos (show 192 ≤ b0 ∧ b0 < 224 by omega), if_neg (show ¬ (n < 2) by omega), if_neg (show ¬ (b1 < 128 ∨ 191 < b1) by omega), if_pos (show (64 * ((b0 : Int) - 192) + b1 - 128 < 128 ∨ 1114111 < 64 * ((b0 : Int) - 192) + b1 - 128) ∨ (55296 ≤ 64 * ((b0 : Int) - 192) + b1 - 128 ∧ 64 * ((b0 : Int) - 192) + b1 - 128 ≤ 57343) by omega)]
     rw [hD, hR]; exact ⟨rfl, rfl, rfl⟩
   ·
    by_cases g3 : n < 2
    ·
     left
     have hD : decodeN n b0 b1 b2 b3 = (65533, 1) := by unfold decodeN; rw [if_neg (show ¬ (b0 < 128) by omega), if_neg g, if_neg (show ¬ (b0 / 16 = 14 ∧ (1 < n ∧ b1 / 64 = 2) ∧ (2 < n ∧ b2 / 64 = 2)) by omega), if_neg (show ¬ (b0 / 8 = 30 ∧ (1 < n ∧ b1 / 64 = 2) ∧ (2 < n ∧ b2 / 64 = 2) ∧ (3 < n ∧ b3 / 64 = 2)) by omega)]
     have hR : readN n b0 b1 b2 b3 = (0, 0) := by unfold readN; rw [if_neg (show ¬ (b0 < 128) by omega), if_pos (show 192 ≤ b0 ∧ b0 < 224 by omega), if_pos g3]
     rw [hD, hR]; exact ⟨rfl, rfl, rfl⟩
    have f1 : b1 < 128 ∨ 191 < b1 := by omega
    left
    have hD : decodeN n b0 b1 b2 b3 = (65533, 1) := by unfold decodeN; rw [if_neg (show ¬ (b0 < 128) by omega), if_neg g, if_neg (show ¬ (b0 / 16 = 14 ∧ (1 < n ∧ b1 / 64 = 2) ∧ (2 < n ∧ b2 / 64 = 2)) by omega), if_neg (show ¬ (b0 / 8 = 30 ∧ (1 < n ∧ b1 / 64 = 2) ∧ (2 < n ∧ b2 / 64 = 2) ∧ (3 < n ∧ b3 / 64 = 2)) by omega)]
    have hR : readN n b0 b1 b2 b3 = (0, 0) := by unfold readN; rw [if_neg (show ¬ (b0 < 128) by omega), if_pos (show 192 ≤ b0 ∧ b0 < 224 by omega), if_neg g3, if_pos f1]
    rw [hD, hR]; exact ⟨rfl, rfl, rfl⟩
  by_cases c3 : b0 < 240
  ·
   by_cases g : b0 / 16 = 14 ∧ (1 < n ∧ b1 / 64 = 2) ∧ (2 < n ∧ b2 / 64 = 2)
   ·
    by_cases g2 : b0 % 16 * 4096 + b1 % 64 * 64 + b2 % 64 ≥ 2048 ∧ (b0 % 16 * 4096 + b1 % 64 * 64 + b2 % 64 < 55296 ∨ (57344 ≤ b0 % 16 * 4096 + b1 % 64 * 64 + b2 % 64 ∧ b0 % 16 * 4096 + b1 % 64 * 64 + b2 % 64 ≤ 1114111))
    ·
     right
     have hD : decodeN n b0 b1 b2 b3 = (b0 % 16 * 4096 + b1 % 64 * 64 + b2 % 64, 3) := by unfold decodeN; rw [if_neg (show ¬ (b0 < 128) by omega), if_neg (show ¬ (b0 / 32 = 6 ∧ (1 < n ∧ b1 / 64 = 2)) by omega), if_pos g, if_pos g2]
     have hR : readN n b0 b1 b2 b3 = (64 * (64 * ((b0 : Int) - 224) + b1 - 128) + b2 - 128, 3) := by unfold readN; rw [if_neg (show ¬ (b0 < 128) by omega), if_neg (show ¬ (192 ≤ b0 ∧ b0 < 224) by omega), if_pos (show 224 ≤ b0 ∧ b0 < 240 by omega), if_neg (show ¬ (n < 3) by omega), if_neg (show ¬ (b1 < 128 ∨ 191 < b1) by omega), if_neg (show ¬ (b2 < 128 ∨ 191 < b2) by omega), if_neg (show ¬ ((64 * (64 * ((b0 : Int) - 224) + b1 - 128) + b2 - 128 < 2048 ∨ 1114111 < 64 * (64 * ((b0 : Int) - 224) + b1 - 128) + b2 - 128) ∨ (55296 ≤ 64 * (64 * ((b0 : Int) - 224) + b1 - 128) + b2 - 128 ∧ 64 * (64 * ((b0 : Int) - 224) + b1 - 128) + b2 - 128 ≤ 57343)) by omega)]
     rw [hD, hR]; exact ⟨.inl (by simp only; omega), by simp only [Prod.mk.injEq]; omega⟩
    ·
     left
     have hD : decodeN n b0 b1 b2 b3 = (65533, 1) := by unfold decodeN; rw [if_neg (show ¬ (b0 < 128) by omega), if_neg (show ¬ (b0 / 32 = 6 ∧ (1 < n ∧ b1 / 64 = 2)) by omega), if_pos g, if_neg g2]
     have hR : readN n b0 b1 b2 b3 = (0, 0) := by unfold readN; rw [if_neg (show ¬ (b0 < 128) by omega), if_neg (show ¬ (192 ≤ b0 ∧ b0 < 224) by omega), if_pos (show 224 ≤ b0 ∧ b0 < 240 by omega), if_neg (show ¬ (n < 3) by omega), if_neg (show ¬ (b1 < 128 ∨ 191 < b1) by omega), if_neg (show ¬ (b2 < 128 ∨ 191 < b2) by omega), if_pos (show (64 * (64 * ((b0 : Int) - 224) + b1 - 128) + b2 - 128 < 2048 ∨ 1114111 < 64 * (64 * ((b0 : Int) - 224) + b1 - 128) + b2 - 128) ∨ (55296 ≤ 64 * (64 * ((b0 : Int) - 224) + b1 - 128) + b2 - 128 ∧ 64 * (64 * ((b0 : Int) - 224) + b1 - 128) + b2 - 128 ≤ 57343) by omega)]
     rw [hD, hR]; exact ⟨rfl, rfl, rfl⟩
   ·
    by_cases g3 : n < 3
    ·
     left
     have hD : decodeN n b0 b1 b2 b3 = (65533, 1) := by unfold decodeN; rw [if_neg (show ¬ (b0 < 128) by omega), if_neg (show ¬ (b0 / 32 = 6 ∧ (1 < n ∧ b1 / 64 = 2)) by omega), if_neg g, if_neg (show ¬ (b0 / 8 = 30 ∧ (1 < n ∧ b1 / 64 = 2) ∧ (2 < n ∧ b2 / 64 = 2) ∧ (3 < n ∧ b3 / 64 = 2)) by omega)]
     have hR : readN n b0 b1 b2 b3 = (0, 0) := by unfold readN; rw [if_neg (show ¬ (b0 < 128) by omega), if_neg (show ¬ (192 ≤ b0 ∧ b0 < 224) by omega), if_pos (show 224 ≤ b0 ∧ b0 < 240 by omega), if_pos g3]
     rw [hD, hR]; exact ⟨rfl, rfl, rfl⟩
    by_cases f1 : b1 < 128 ∨ 191 < b1
    ·
     left
     have hD : decodeN n b0 b1 b2 b3 = (65533, 1) := by unfold decodeN; rw [if_neg (show ¬ (b0 < 128) by omega), if_neg (show ¬ (b0 / 32 = 6 ∧ (1 < n ∧ b1 / 64 = 2)) by omega), if_neg g, if_neg (show ¬ (b0 / 8 = 30 ∧ (1 < n ∧ b1 / 64 = 2) ∧ (2 < n ∧ b2 / 64 = 2) ∧ (3 < n ∧ b3 / 64 = 2)) by omega)]
     have hR : readN n b0 b1 b2 b3 = (0, 0) := by unfold readN; rw [if_neg (show ¬ (b0 < 128) by omega), if_neg (show ¬ (192 ≤ b0 ∧ b0 < 224) by omega), if_pos (show 224 ≤ b0 ∧ b0 < 240 by omega), if_neg g3, if_pos f1]
     rw [hD, hR]; exact ⟨rfl, rfl, rfl⟩
    have f2 : b2 < 128 ∨ 191 < b2 := by omega
    left
    have hD : decodeN n b0 b1 b2 b3 = (65533, 1) := by unfold decodeN; rw [if_neg (show ¬ (b0 < 128) by omega), if_neg (show ¬ (b0 / 32 = 6 ∧ (1 < n ∧ b1 / 64 = 2)) by omega), if_neg g, if_neg (show ¬ (b0 / 8 = 30 ∧ (1 < n ∧ b1 / 64 = 2) ∧ (2 < n ∧ b2 / 64 = 2) ∧ (3 < n ∧ b3 / 64 = 2)) by omega)]
    have hR : readN n b0 b1 b2 b3 = (0, 0) := by unfold readN; rw [if_neg (show ¬ (b0 < 128) by omega), if_neg (show ¬ (192 ≤ b0 ∧ b0 < 224) by omega), if_pos (show 224 ≤ b0 ∧ b0 < 240 by omega), if_neg g3, if_neg f1, if_pos f2]
    rw [hD, hR]; exact ⟨rfl, rfl, rfl⟩
  by_cases c4 : b0 < 248
  ·
   by_cases g : b0 / 8 = 30 ∧ (1 < n ∧ b1 / 64 = 2) ∧ (2 < n ∧ b2 / 64 = 2) ∧ (3 < n ∧ b3 / 64 = 2)
   ·
    by_cases g2 : b0 % 8 * 262144 + b1 % 64 * 4096 + b2 % 64 * 64 + b3 % 64 ≥ 65536 ∧ (b0 % 8 * 262144 + b1 % 64 * 4096 + b2 % 64 * 64 + b3 % 64 < 55296 ∨ (57344 ≤ b0 % 8 * 262144 + b1 % 64 * 4096 + b2 % 64 * 64 + b3 % 64 ∧ b0 % 8 * 262144 + b1 % 64 * 4096 + b2 % 64 * 64 + b3 % 64 ≤ 1114111))
    ·
     right
     have hD : decodeN n b0 b1 b2 b3 = (b0 % 8 * 262144 + b1 % 64 * 4096 + b2 % 64 * 64 + b3 % 64, 4) := by unfold decodeN; rw [if_neg (show ¬ (b0 < 128) by omega), if_neg (show ¬ (b0 / 32 = 6 ∧ (1 < n ∧ b1 / 64 = 2)) by omega), if_neg (show ¬ (b0 / 16 = 14 ∧ (1 < n ∧ b1 / 64 = 2) ∧ (2 < n ∧ b2 / 64 = 2)) by omega), if_pos g, if_pos g2]
     have hR : readN n b0 b1 b2 b3 = (64 * (64 * (64 * ((b0 : Int) - 240) + b1 - 128) + b2 - 128) + b3 - 128, 4) := by unfold readN; rw [if_neg (show ¬ (b0 < 128) by omega), if_neg (show ¬ (192 ≤ b0 ∧ b0 < 224) by omega), if_neg (show ¬ (224 ≤ b0 ∧ b0 < 240) by omega), if_pos (show 240 ≤ b0 ∧ b0 < 248 by omega), if_neg (show ¬ (n < 4) by omega), if_neg (show ¬ (b1 < 128 ∨ 191 < b1) by omega), if_neg (show ¬ (b2 < 128 ∨ 191 < b2) by omega), if_neg (show ¬ (b3 < 128 ∨ 191 < b3) by omega), if_neg (show ¬ ((64 * (64 * (64 * ((b0 : Int) - 240) + b1 - 128) + b2 - 128) + b3 - 128 < 65536 ∨ 1114111 < 64 * (64 * (64 * ((b0 : Int) - 240) + b1 - 128) + b2 - 128) + b3 - 128) ∨ (55296 ≤ 64 * (64 * (64 * ((b0 : Int) - 240) + b1 - 128) + b2 - 128) + b3 - 128 ∧ 64 * (64 * (64 * ((b0 : Int) - 240) + b1 - 128) + b2 - 128) + b3 - 128 ≤ 57343)) by omega)]
     rw [hD, hR]; exact ⟨.inl (by simp only; omega), by simp only [Prod.mk.injEq]; omega⟩
    ·
     left
     have hD : decodeN n b0 b1 b2 b3 = (65533, 1) := by unfold decodeN; rw [if_neg (show ¬ (b0 < 128) by omega), if_neg (show ¬ (b0 / 32 = 6 ∧ (1 < n ∧ b1 / 64 = 2)) by omega), if_neg (show ¬ (b0 / 16 = 14 ∧ (1 < n ∧ b1 / 64 = 2) ∧ (2 < n ∧ b2 / 64 = 2)) by omega), if_pos g, if_neg g2]
     have hR : readN n b0 b1 b2 b3 = (0, 0) := by unfold readN; rw [if_neg (show ¬ (b0 < 128) by omega), if_neg (show ¬ (192 ≤ b0 ∧ b0 < 224) by omega), if_neg (show ¬ (224 ≤ b0 ∧ b0 < 240) by omega), if_pos (show 240 ≤ b0 ∧ b0 < 248 by omega), if_neg (show ¬ (n < 4) by omega), if_neg (show ¬ (b1 < 128 ∨ 191 < b1) by omega), if_neg (show ¬ (b2 < 128 ∨ 191 < b2) by omega), if_neg (show ¬ (b3 < 128 ∨ 191 < b3) by omega), if_pos (show (64 * (64 * (64 * ((b0 : Int) - 240) + b1 - 128) + b2 - 128) + b3 - 128 < 65536 ∨ 1114111 < 64 * (64 * (64 * ((b0 : Int) - 240) + b1 - 128) + b2 - 128) + b3 - 128) ∨ (55296 ≤ 64 * (64 * (64 * ((b0 : Int) - 240) + b1 - 128) + b2 - 128) + b3 - 128 ∧ 64 * (64 * (64 * ((b0 : Int) - 240) + b1 - 128) + b2 - 128) + b3 - 128 ≤ 57343) by omega)]
     rw [hD, hR]; exact ⟨rfl, rfl, rfl⟩
   ·
    by_cases g3 : n < 4
    ·
     left
     have hD : decodeN n b0 b1 b2 b3 = (65533, 1) := by unfold decodeN; rw [if_neg (show ¬ (b0 < 128) by omega), if_neg (show ¬ (b0 / 32 = 6 ∧ (1 < n ∧ b1 / 64 = 2)) by omega), if_neg (show ¬ (b0 / 16 = 14 ∧ (1 < n ∧ b1 / 64 = 2) ∧ (2 < n ∧ b2 / 64 = 2)) by omega), if_neg g]
     have hR : readN n b0 b1 b2 b3 = (0, 0) := by unfold readN; rw [if_neg (show ¬ (b0 < 128) by omega), if_neg (show ¬ (192 ≤ b0 ∧ b0 < 224) by omega), if_neg (show ¬ (224 ≤ b0 ∧ b0 < 240) by omega), if_pos (show 240 ≤ b0 ∧ b0 < 248 by omega), if_pos g3]
     rw [hD, hR]; exact ⟨rfl, rfl, rfl⟩
    by_cases f1 : b1 < 128 ∨ 191 < b1
    ·
     left
     have hD : decodeN n b0 b1 b2 b3 = (65533, 1) := by unfold decodeN; rw [if_neg (show ¬ (b0 < 128) by omega), if_neg (show ¬ (b0 / 32 = 6 ∧ (1 < n ∧ b1 / 64 = 2)) by omega), if_neg (show ¬ (b0 / 16 = 14 ∧ (1 < n ∧ b1 / 64 = 2) ∧ (2 < n ∧ b2 / 64 = 2)) by omega), if_neg g]
     have hR : readN n b0 b1 b2 b3 = (0, 0) := by unfold readN; rw [if_neg (show ¬ (b0 < 128) by omega), if_neg (show ¬ (192 ≤ b0 ∧ b0 < 224) by omega), if_neg (show ¬ (224 ≤ b0 ∧ b0 < 240) by omega), if_pos (show 240 ≤ b0 ∧ b0 < 248 by omega), if_neg g3, if_pos f1]
     rw [hD, hR]; exact ⟨rfl, rfl, rfl⟩
    by_cases f2 : b2 < 128 ∨ 191 < b2
    ·
     left
     have hD : decodeN n b0 b1 b2 b3 = (65533, 1) := by unfold decodeN; rw [if_neg (show ¬ (b0 < 128) by omega), if_neg (show ¬ (b0 / 32 = 6 ∧ (1 < n ∧ b1 / 64 = 2)) by omega), if_neg (show ¬ (b0 / 16 = 14 ∧ (1 < n ∧ b1 / 64 = 2) ∧ (2 < n ∧ b2 / 64 = 2)) by omega), if_neg g]
     have hR : readN n b0 b1 b2 b3 = (0, 0) := by unfold readN; rw [if_neg (show ¬ (b0 < 128) by omega), if_neg (show ¬ (192 ≤ b0 ∧ b0 < 224) by omega), if_neg (show ¬ (224 ≤ b0 ∧ b0 < 240) by omega), if_pos (show 240 ≤ b0 ∧ b0 < 248 by omega), if_neg g3, if_neg f1, if_pos f2]
     rw [hD, hR]; exact ⟨rfl, rfl, rfl⟩
    have f3 : b3 < 128 ∨ 191 < b3 := by omega
    left
    have hD : decodeN n b0 b1 b2 b3 = (65533, 1) := by unfold decodeN; rw [if_neg (show ¬ (b0 < 128) by omega), if_neg (show ¬ (b0 / 32 = 6 ∧ (1 < n ∧ b1 / 64 = 2)) by omega), if_neg (show ¬ (b0 / 16 = 14 ∧ (1 < n ∧ b1 / 64 = 2) ∧ (2 < n ∧ b2 / 64 = 2)) by omega), if_neg g]
    have hR : readN n b0 b1 b2 b3 = (0, 0) := by unfold readN; rw [if_neg (show ¬ (b0 < 128) by omega), if_neg (show ¬ (192 ≤ b0 ∧ b0 < 224) by omega), if_neg (show ¬ (224 ≤ b0 ∧ b0 < 240) by omega), if_pos (show 240 ≤ b0 ∧ b0 < 248 by omega), if_neg g3, if_neg f1, if_neg f2, if_pos f3]
    rw [hD, hR]; exact ⟨rfl, rfl, rfl⟩
  exact absurd c4 (by omega)
 unfold badR
 rcases key with ⟨k1, k2, k3⟩ | ⟨k1, k2⟩
 ·rw [dT ⟨k1, k2⟩, k3]; rfl
 ·rw [dF (by omega), k2]; rfl
open Go.Lib (decodeL decodeN)
abbrev bt (l : LB) (k : Nat) : Nat := (l.getD k 0).toNat
theorem bt_lt (l : LB) (k : Nat) : bt l k < 256 := (l.getD k 0).toNat_lt
theorem idx_bt {l : LB} {k : Nat} (h : k < l.length) : idx l (k : Int) = some (l.getD k 0) := by
 rw [idx_some h]; simp [List.getD, h]
theorem loop_step (l : LB) (i k : Nat) (n : Int) (rec : Int × Int → Option (Int ⊕ (Int × Int))) (r : Int) (hk : (k : Int) < n) (hik : i + k < l.length) (hl : l.length ≤ 1073741824) (hr0 : 0 ≤ r) (hr1 : r ≤ 1073741824) :
  F_lecternref01_Read_l0 l (i : Int) n rec (r, (k : Int)) = if bt l (i + k) < 128 ∨ 191 < bt l (i + k) then some (.inr ((0 : Int), (0 : Int))) else rec (64 * r + (bt l (i + k) : Int) - 128, ((k + 1 : Nat) : Int)) := by
 have hb := bt_lt l (i + k)
 unfold F_lecternref01_Read_l0
 simp only
 rw [dT hk, cT, w64 (x := (i : Int) + (k : Int)) (by omega) (by omega), show ((i : Int) + (k : Int)) = ((i + k : Nat) : Int) by omega, idx_bt hik, bS]
 have e : (((l.getD (i + k) 0).toNat : Nat) : Int) = (bt l (i + k) : Int) := rfl
 rw [e, w64 (x := (bt l (i + k) : Int)) (by omega) (by omega)]
 by_cases c : bt l (i + k) < 128 ∨ 191 < bt l (i + k)
 ·rw [if_pos c]
  have : (decide ((bt l (i + k) : Int) < (128 : Int)) || decide ((191 : Int) < (bt l (i + k) : Int))) = true := by simp only [Bool.or_eq_true, decide_eq_true_eq]; omega
  rw [this, cT]
 ·rw [if_neg c]
  have : (decide ((bt l (i + k) : Int) < (128 : Int)) || decide ((191 : Int) < (bt l (i + k) : Int))) = false := by simp only [Bool.or_eq_false_iff, decide_eq_false_iff_not]; omega
  rw [this, cF, w64 (x := (64 : Int) * r) (by omega) (by omega), w64 (x := (64 : Int) * r + (bt l (i + k) : Int)) (by omega) (by omega), w64 (x := (64 : Int) * r + (bt l (i + k) : Int) - 128) (by omega) (by omega), w64 (x := (k : Int) + 1) (by omega) (by omega)]; rfl
theorem loop_end (l : LB) (i : Int) (n : Int) (rec : Int × Int → Option (Int ⊕ (Int × Int))) (r : Int) : F_lecternref01_Read_l0 l i n rec (r, n) = some (.inl r) := by
 unfold F_lecternref01_Read_l0
 simp only
 rw [dF (by omega), cF]
theorem loop2 (l : LB) (i : Nat) (r : Int) (hik : i + 2 ≤ l.length) (hl : l.length ≤ 1073741824) (hr0 : 0 ≤ r) (hr1 : r ≤ 1000) :
  iter (F_lecternref01_Read_l0 l (i : Int) 2) FUEL (r, 1) = some (if bt l (i + 1) < 128 ∨ 191 < bt l (i + 1) then .inr (0, 0) else .inl (64 * r + (bt l (i + 1) : Int) - 128)) := by
 have key : ∀ N, iter (F_lecternref01_Read_l0 l (i : Int) 2) (N + 2) (r, ((1 : Nat) : Int)) = some (if bt l (i + 1) < 128 ∨ 191 < bt l (i + 1) then .inr (0, 0) else .inl (64 * r + (bt l (i + 1) : Int) - 128)) := fun N => by
  show F_lecternref01_Read_l0 l (i : Int) 2 (iter _ (N + 1)) (r, ((1 : Nat) : Int)) = _
  rw [loop_step l i 1 2 _ r (by omega) (by omega) hl hr0 (by omega)]
  split
  ·rfl
  ·show F_lecternref01_Read_l0 l (i : Int) 2 (iter _ N) (_, 2) = _
   rw [loop_end]
 rw [show FUEL = 18446744073709551614 + 2 from rfl]; exact key _
theorem loop3 (l : LB) (i : Nat) (r : Int) (hik : i + 3 ≤ l.length) (hl : l.length ≤ 1073741824) (hr0 : 0 ≤ r) (hr1 : r ≤ 1000) :
  iter (F_lecternref01_Read_l0 l (i : Int) 3) FUEL (r, 1) = some (if bt l (i + 1) < 128 ∨ 191 < bt l (i + 1) then .inr (0, 0) else if bt l (i + 2) < 128 ∨ 191 < bt l (i + 2) then .inr (0, 0) else .inl (64 * (64 * r + (bt l (i + 1) : Int) - 128) + (bt l (i + 2) : Int) - 128)) := by
 have h1 := bt_lt l (i + 1)
 have key : ∀ N, iter (F_lecternref01_Read_l0 l (i : Int) 3) (N + 3) (r, ((1 : Nat) : Int)) = some (if bt l (i + 1) < 128 ∨ 191 < bt l (i + 1) then .inr (0, 0) else if bt l (i + 2) < 128 ∨ 191 < bt l (i + 2) then .inr (0, 0) else .inl (64 * (64 * r + (bt l (i + 1) : Int) - 128) + (bt l (i + 2) : Int) - 128)) := fun N => by
  show F_lecternref01_Read_l0 l (i : Int) 3 (iter _ (N + 2)) (r, ((1 : Nat) : Int)) = _
  rw [loop_step l i 1 3 _ r (by omega) (by omega) hl hr0 (by omega)]
  split
  ·rfl
  ·rename_i c
   show F_lecternref01_Read_l0 l (i : Int) 3 (iter _ (N + 1)) (_, ((2 : Nat) : Int)) = _
   rw [loop_step l i 2 3 _ _ (by omega) (by omega) hl (by omega) (by omega)]
   split
   ·rfl
   ·show F_lecternref01_Read_l0 l (i : Int) 3 (iter _ N) (_, 3) = _
    rw [loop_end]
 rw [show FUEL = 18446744073709551613 + 3 from rfl]; exact key _
theorem loop4 (l : LB) (i : Nat) (r : Int) (hik : i + 4 ≤ l.length) (hl : l.length ≤ 1073741824) (hr0 : 0 ≤ r) (hr1 : r ≤ 1000) :
  iter (F_lecternref01_Read_l0 l (i : Int) 4) FUEL (r, 1) = some (if bt l (i + 1) < 128 ∨ 191 < bt l (i + 1) then .inr (0, 0) else if bt l (i + 2) < 128 ∨ 191 < bt l (i + 2) then .inr (0, 0) else if bt l (i + 3) < 128 ∨ 191 < bt l (i + 3) then .inr (0, 0) else .inl (64 * (64 * (64 * r + (bt l (i + 1) : Int) - 128) + (bt l (i + 2) : Int) - 128) + (bt l (i + 3) : Int) - 128)) := by
 have h1 := bt_lt l (i + 1)
 have h2 := bt_lt l (i + 2)
 have key : ∀ N, iter (F_lecternref01_Read_l0 l (i : Int) 4) (N + 4) (r, ((1 : Nat) : Int)) = some (if bt l (i + 1) < 128 ∨ 191 < bt l (i + 1) then .inr (0, 0) else if bt l (i + 2) < 128 ∨ 191 < bt l (i + 2) then .inr (0, 0) else if bt l (i + 3) < 128 ∨ 191 < bt l (i + 3) then .inr (0, 0) else .inl (64 * (64 * (64 * r + (bt l (i + 1) : Int) - 128) + (bt l (i + 2) : Int) - 128) + (bt l (i + 3) : Int) - 128)) := fun N => by
  show F_lecternref01_Read_l0 l (i : Int) 4 (iter _ (N + 3)) (r, ((1 : Nat) : Int)) = _
  rw [loop_step l i 1 4 _ r (by omega) (by omega) hl hr0 (by omega)]
  split
  ·rfl
  ·rename_i c
   show F_lecternref01_Read_l0 l (i : Int) 4 (iter _ (N + 2)) (_, ((2 : Nat) : Int)) = _
   rw [loop_step l i 2 4 _ _ (by omega) (by omega) hl (by omega) (by omega)]
   split
   ·rfl
   ·rename_i c2
    show F_lecternref01_Read_l0 l (i : Int) 4 (iter _ (N + 1)) (_, ((3 : Nat) : Int)) = _
    rw [loop_step l i 3 4 _ _ (by omega) (by omega) hl (by omega) (by omega)]
    split
    ·rfl
    ·show F_lecternref01_Read_l0 l (i : Int) 4 (iter _ N) (_, 4) = _
     rw [loop_end]
 rw [show FUEL = 18446744073709551612 + 4 from rfl]; exact key _
theorem bad3 {r least : Int} : (((decide (r < least)) || (decide ((1114111 : Int) < r))) || ((decide ((55296 : Int) ≤ r)) && (decide (r ≤ (57343 : Int))))) = decide ((r < least ∨ 1114111 < r) ∨ (55296 ≤ r ∧ r ≤ 57343)) := by
 simp only [Bool.decide_or, Bool.decide_and]
theorem F_readN (l : LB) (i : Nat) (hi : i < l.length) (hl : l.length ≤ 1073741824) : F_lecternref01_Read l (i : Int) = some (readN (l.length - i) (bt l i) (bt l (i + 1)) (bt l (i + 2)) (bt l (i + 3))) := by
 have h0 := bt_lt l i
 unfold F_lecternref01_Read
 rw [idx_bt hi, bS]
 have e : (((l.getD i 0).toNat : Nat) : Int) = (bt l i : Int) := rfl
 simp only [e, letJ, bad3]
 rw [w64 (x := (bt l i : Int)) (by omega) (by omega)]
 unfold readN
 by_cases c0 : bt l i < 128
 ·rw [if_pos c0, dT (by omega), cT]
 rw [if_neg c0, dF (show ¬ ((bt l i : Int) < 128) by omega), cF]
 by_cases c2 : 192 ≤ bt l i ∧ bt l i < 224
 ·rw [if_pos c2, dT (show (192 : Int) ≤ (bt l i : Int) by omega), dT (show (bt l i : Int) < 224 by omega), Bool.and_self, cT, w64 (x := (i : Int) + 2) (by omega) (by omega)]
  by_cases g : l.length - i < 2
  ·rw [if_pos g, dT (show (l.length : Int) < (i : Int) + 2 by omega), cT]
  ·rw [if_neg g, dF (show ¬ ((l.length : Int) < (i : Int) + 2) by omega), cF, w64 (x := (bt l i : Int) - 192) (by omega) (by omega), loop2 l i _ (by omega) hl (by omega) (by omega), bS]
   by_cases f1 : bt l (i + 1) < 128 ∨ 191 < bt l (i + 1)
   ·rw [if_pos f1, if_pos f1]
   ·rw [if_neg f1, if_neg f1]
    simp only
    split
    ·rename_i hh; rw [dT hh, cT]
    ·rename_i hh; rw [dF hh, cF]
 rw [if_neg c2, show (decide ((192 : Int) ≤ (bt l i : Int)) && decide ((bt l i : Int) < 224)) = false by simp only [Bool.and_eq_false_iff, decide_eq_false_iff_not]; omega, cF]
 by_cases c3 : 224 ≤ bt l i ∧ bt l i < 240
 ·rw [if_pos c3, dT (show (224 : Int) ≤ (bt l i : Int) by omega), dT (show (bt l i : Int) < 240 by omega), Bool.and_self, cT, w64 (x := (i : Int) + 3) (by omega) (by omega)]
  by_cases g : l.length - i < 3
  ·rw [if_pos g, dT (show (l.length : Int) < (i : Int) + 3 by omega), cT]
  ·rw [if_neg g, dF (show ¬ ((l.length : Int) < (i : Int) + 3) by omega), cF, w64 (x := (bt l i : Int) - 224) (by omega) (by omega), loop3 l i _ (by omega) hl (by omega) (by omega), bS]
   by_cases f1 : bt l (i + 1) < 128 ∨ 191 < bt l (i + 1)
   ·rw [if_pos f1, if_pos f1]
   ·rw [if_neg f1, if_neg f1]
    by_cases f2 : bt l (i + 2) < 128 ∨ 191 < bt l (i + 2)
    ·rw [if_pos f2, if_pos f2]
    ·rw [if_neg f2, if_neg f2]
     simp only
     split
     ·rename_i hh; rw [dT hh, cT]
     ·rename_i hh; rw [dF hh, cF]
 rw [if_neg c3, show (decide ((224 : Int) ≤ (bt l i : Int)) && decide ((bt l i : Int) < 240)) = false by simp only [Bool.and_eq_false_iff, decide_eq_false_iff_not]; omega, cF]
 by_cases c4 : 240 ≤ bt l i ∧ bt l i < 248
 ·rw [if_pos c4, dT (show (240 : Int) ≤ (bt l i : Int) by omega), dT (show (bt l i : Int) < 248 by omega), Bool.and_self, cT, w64 (x := (i : Int) + 4) (by omega) (by omega)]
  by_cases g : l.length - i < 4
  ·rw [if_pos g, dT (show (l.length : Int) < (i : Int) + 4 by omega), cT]
  ·rw [if_neg g, dF (show ¬ ((l.length : Int) < (i : Int) + 4) by omega), cF, w64 (x := (bt l i : Int) - 240) (by omega) (by omega), loop4 l i _ (by omega) hl (by omega) (by omega), bS]
   by_cases f1 : bt l (i + 1) < 128 ∨ 191 < bt l (i + 1)
   ·rw [if_pos f1, if_pos f1]
   ·rw [if_neg f1, if_neg f1]
    by_cases f2 : bt l (i + 2) < 128 ∨ 191 < bt l (i + 2)
    ·rw [if_pos f2, if_pos f2]
    ·rw [if_neg f2, if_neg f2]
     by_cases f3 : bt l (i + 3) < 128 ∨ 191 < bt l (i + 3)
     ·rw [if_pos f3, if_pos f3]
     ·rw [if_neg f3, if_neg f3]
      simp only
      split
      ·rename_i hh; rw [dT hh, cT]
      ·rename_i hh; rw [dF hh, cF]
 rw [if_neg c4, show (decide ((240 : Int) ≤ (bt l i : Int)) && decide ((bt l i : Int) < 248)) = false by simp only [Bool.and_eq_false_iff, decide_eq_false_iff_not]; omega, cF]
theorem F_read1 (l : LB) (i : Nat) (hi : i < l.length) (hl : l.length ≤ 1073741824) : F_lecternref01_Read l (i : Int) = some (if badR (decodeL (l.drop i)) then (0, 0) else (((decodeL (l.drop i)).1 : Int), ((decodeL (l.drop i)).2 : Int))) := by
 rw [F_readN l i hi hl, readN_eq _ _ _ _ _ (by omega) (bt_lt _ _) (bt_lt _ _) (bt_lt _ _) (bt_lt _ _)]
 have e := Lib.decodeL_N (l.drop i)
 simp only [getD_drop, List.length_drop] at e
 rw [e]; rfl
theorem slc_drop {α : Type} {l : List α} {n : Nat} (h : n ≤ l.length) : slc l (n : Int) (l.length : Int) = some (l.drop n) := by
 unfold slc; rw [if_pos (by omega)]; simp only [Int.toNat_natCast]; rw [List.take_of_length_le (by simp)]
theorem slc_take0 {α : Type} {l : List α} {n : Nat} (h : n ≤ l.length) : slc l (0 : Int) (n : Int) = some (l.take n) := by
 unfold slc; rw [if_pos (by omega)]; simp
def hereP (b : LB) (i : Nat) (w : LB) : Bool := w.isPrefixOf (b.drop i)
theorem isPre_take (w l : LB) : w.isPrefixOf l = (decide (w.length ≤ l.length) && (l.take w.length == w)) := by
 rw [Bool.eq_iff_iff, List.isPrefixOf_iff_prefix, Bool.and_eq_true, decide_eq_true_eq, beq_iff_eq, List.prefix_iff_eq_take]
 constructor
 ·intro h
  refine ⟨?_, h.symm⟩
  have := congrArg List.length h
  rw [List.length_take] at this; omega
 ·rintro ⟨_, h⟩; exact h.symm
theorem hasPrefix_eq (l w : LB) : F_bytes_HasPrefix l w = some (w.isPrefixOf l) := by
 unfold F_bytes_HasPrefix F_bytes_Equal
 simp only [letJ]
 rw [isPre_take]
 by_cases h : w.length ≤ l.length
 ·rw [dT (show (w.length : Int) ≤ (l.length : Int) by omega), cT, slc_take0 h, bS, bS, dT h, Bool.true_and]
 ·rw [dF (show ¬ (w.length : Int) ≤ (l.length : Int) by omega), cF, dF h, Bool.false_and]
theorem here_eq (b : LB) (i : Nat) (w : LB) (hi : i ≤ b.length) : F_scan_scanner_here ⟨b, (i : Int)⟩ w = some (hereP b i w) := by
 unfold F_scan_scanner_here
 dsimp only
 rw [slc_drop hi, bS, hasPrefix_eq, bS]; rfl
theorem hereP_len {b : LB} {i : Nat} {w : LB} (h : hereP b i w = true) (hi : i ≤ b.length) : i + w.length ≤ b.length := by
 unfold hereP at h
 rw [isPre_take, Bool.and_eq_true, decide_eq_true_eq, List.length_drop] at h
 omega
theorem hereP_get {b : LB} {i : Nat} {c : UInt8} {w : LB} (h : hereP b i (c :: w) = true) : b[i]? = some c := by
 unfold hereP at h
 rw [List.isPrefixOf_iff_prefix] at h
 obtain ⟨r, hr⟩ := h
 have : (b.drop i)[0]? = some c := by rw [← hr]; rfl
 rwa [List.getElem?_drop, Nat.add_zero] at this
theorem hereP_one {b : LB} {i : Nat} {c : UInt8} : hereP b i [c] = (b[i]? == some c) := by
 unfold hereP
 by_cases hi : i < b.length
 ·rw [List.drop_eq_getElem_cons hi, List.getElem?_eq_getElem hi]
  simp only [List.isPrefixOf, Bool.and_true]
  rw [Bool.eq_iff_iff, beq_iff_eq, beq_iff_eq, Option.some.injEq]
  exact ⟨fun h => h.symm, fun h => h.symm⟩
 ·rw [List.drop_eq_nil_of_le (by omega), List.getElem?_eq_none (by omega)]; rfl
def wsP (c : UInt8) : Bool := decide ((0 : Int) ≤ Lib.indexByte [32, 9, 10, 13] c)
theorem spaces_eq (b : LB) (a : Int) (i : Nat) (hi : i ≤ b.length) (hb : b.length ≤ 1073741824) : F_scan_scanner_spaces ⟨b, a⟩ (i : Int) = some ((sk wsP b i : Nat) : Int) := by
 unfold F_scan_scanner_spaces
 simp only [letJ]
 have := scan_loop (b := F_scan_scanner_spaces_l0 ⟨b, a⟩) wsP b (fun rec i h => by
  unfold F_scan_scanner_spaces_l0
  simp only [letJ]
  rw [dT (by omega), cT, idx_some h, bS]
  unfold L_IndexByte
  rw [nat_u8, bS, w64 (by omega) (by omega)]
  rfl) (fun rec => by
  unfold F_scan_scanner_spaces_l0
  simp only [letJ]
  rw [dF (by omega), cF, cF]) FUEL (b.length - i) i (by omega) (by unfold FUEL; omega)
 rw [this, bS]
theorem sign_eq (b : LB) (i : Nat) (w : LB) (hi : i ≤ b.length) (hb : b.length ≤ 1073741824) : F_scan_scanner_sign ⟨b, (i : Int)⟩ w = some (if hereP b i w = true then (0, ⟨b, ((i + w.length : Nat) : Int)⟩) else (23, ⟨b, (i : Int)⟩)) := by
 unfold F_scan_scanner_sign
 rw [here_eq b i w hi, bS]
 cases h : hereP b i w with
 | false => rfl
 | true =>
  have := hereP_len h hi
  dsimp only
  rw [Bool.not_true, cF, if_pos rfl, w64 (by omega) (by omega)]; rfl
theorem ixB_lt (l : LB) (c : UInt8) (h : 0 ≤ Lib.indexByte l c) : Lib.indexByte l c < l.length := by
 induction l with
 | nil => simp [Lib.indexByte] at h
 | cons b l ih =>
  simp only [Lib.indexByte] at h ⊢
  split
  ·rw [List.length_cons]; omega
  ·rename_i hb
   rw [if_neg hb] at h
   split at h
   ·omega
   ·rename_i h1
    rw [if_neg h1]
    have h2 := Lib.indexByte_ge l c
    have h3 : Lib.indexByte l c ≠ -1 := by simpa using h1
    have := ih (by omega)
    rw [List.length_cons]; omega
theorem ixB_nat (l : LB) (c : UInt8) (h : ¬ Lib.indexByte l c < 0) : ∃ n : Nat, Lib.indexByte l c = (n : Int) ∧ n < l.length := by
 have := ixB_lt l c (by omega)
 exact ⟨(Lib.indexByte l c).toNat, by omega, by omega⟩
theorem decodeRune_eq (b : LB) (i : Nat) (hi : i < b.length) : L_DecodeRune (b.drop i) = some (((decodeL (b.drop i)).1 : Int), ((decodeL (b.drop i)).2 : Int)) := by
 have hne : b.drop i ≠ [] := by intro h; have := congrArg List.length h; simp at this; omega
 unfold L_DecodeRune Lib.decodeGo
 rw [if_neg hne, if_neg (by
  show ¬ ((b.drop i).toArray.size = 0)
  simp; omega)]
 rfl
theorem iter_dec {σ ρ : Type} {b : (σ → Option ρ) → σ → Option ρ} (μ : σ → Nat) (I : σ → Prop) (R : ρ → Prop)
  (step : ∀ x, I x → (∃ y, (∀ rec, b rec x = rec y) ∧ I y ∧ μ y < μ x) ∨ (∃ o, (∀ rec, b rec x = some o) ∧ R o)) :
  ∀ (n : Nat) (x : σ), I x → μ x < n → ∃ o, iter b n x = some o ∧ R o
 | 0, x, _, h => by omega
 | n + 1, x, hI, h1 => by
  rcases step x hI with ⟨y, e1, hI', hm⟩ | ⟨o, e1, hR⟩
  ·obtain ⟨o, g1, hR⟩ := iter_dec μ I R step n y hI' (by omega)
   exact ⟨o, by show b (iter b n) x = _; rw [e1, g1], hR⟩
  ·exact ⟨o, e1 _, hR⟩
def xmlS (l : LB) : Prop := l = [120, 109, 108] ∨ l = [109, 108] ∨ l = [108] ∨ l = []
theorem cutPrefix_eq (l w : LB) : F_strings_CutPrefix l w = some (if w.isPrefixOf l = true then (l.drop w.length, true) else (l, false)) := by
 have hh : F_stringslite_HasPrefix l w = some (w.isPrefixOf l) := by
  unfold F_stringslite_HasPrefix
  simp only [letJ]
  rw [isPre_take]
  by_cases h : w.length ≤ l.length
  ·rw [dT (show (w.length : Int) ≤ (l.length : Int) by omega), cT, slc_take0 h, bS, dT h, Bool.true_and]
  ·rw [dF (show ¬ (w.length : Int) ≤ (l.length : Int) by omega), cF, dF h, Bool.false_and]
 unfold F_strings_CutPrefix F_stringslite_CutPrefix
 rw [hh, bS]
 cases h : w.isPrefixOf l with
 | false => rfl
 | true =>
  have h2 := h
  rw [isPre_take, Bool.and_eq_true, decide_eq_true_eq] at h2
  rw [Bool.not_true, cF, slc_drop h2.1]; rfl
theorem enc_len (r : Int) : (Utf8.encode r).data.toList.length ≤ 4 := by
 have h : (Utf8.encode r).data.size ≤ 4 := encode_size_le r
 rw [Array.length_toList]; exact h
abbrev Tk := TK
def nmP (l : List TP) : List LB := l.map (·.Name)
def namedP (t : Tk) : Bool := ((((t.Kind == (2 : Int)) || (t.Kind == (3 : Int))) || (t.Kind == (4 : Int))) || (t.Kind == (8 : Int)))
structure TokOk (b : LB) (i : Nat) (t : Tk) (j : Nat) : Prop where
 lt : i < j
 at_ : t.At = (i : Int)
 nm : namedP t = !(t.Name == [])
 nd : (nmP t.Pairs).Nodup
 txt : t.Kind = 5 → b[i]? ≠ some 60 ∧ (j = b.length ∨ b[j]? = some 60)
 oth : t.Kind ≠ 5 → b[i]? = some 60
 dec : t.Kind = 1 → i = 0
 len : t.Pairs.length ≤ b.length + 3
def TokR (b : LB) (i : Nat) (x : Int × TS × Tk) : Prop := ∃ (e : Int) (j : Nat) (t : Tk), x = (e, ⟨b, (j : Int)⟩, t) ∧ j ≤ b.length ∧ (e = 0 → TokOk b i t j)

abbrev DeclW : List LB := [([118, 101, 114, 115, 105, 111, 110] : LB), ([101, 110, 99, 111, 100, 105, 110, 103] : LB), ([115, 116, 97, 110, 100, 97, 108, 111, 110, 101] : LB)]
theorem u8_nat (c : UInt8) : u8 (c.toNat : Int) = some c := by
 unfold u8
 have := c.toNat_lt
 rw [if_pos (by omega), Int.toNat_natCast]
 simp
def lnP (p : LB) (i : Nat) : LB := if p.getD i 0 = 13 then [10] else if p.getD i 0 = 10 ∧ 0 < i ∧ p.getD (i - 1) 0 = 13 then [] else [p.getD i 0]
theorem u8_beq (c : UInt8) (n : Nat) (hn : n < 256) : ((c.toNat : Int) == (n : Int)) = decide (c = UInt8.ofNat n) := by
 rw [Bool.eq_iff_iff, beq_iff_eq, decide_eq_true_eq]
 have h2 : (UInt8.ofNat n).toNat = n := by show n % 256 = n; omega
 constructor
 ·intro h; apply UInt8.toNat_inj.1; rw [h2]; omega
 ·rintro rfl; rw [h2]
theorem lines_step1 (p : LB) (i : Nat) (l : LB) (hi : i < p.length) (hl : l.length ≤ i) (hp : p.length ≤ 1073741824) (rec) : F_char_Lines_l0 p rec (l, (i : Int)) = rec (l ++ lnP p i, ((i + 1 : Nat) : Int)) := by
 have hk1 : IntKind.wrap .i64 ((i : Int) + 1) = ((i + 1 : Nat) : Int) := by rw [w64 (by omega) (by omega)]; omega
 have hg : p.getD i 0 = p[i] := by simp [List.getD, hi]
 unfold F_char_Lines_l0
 dsimp only
 rw [dT (by omega), cT]
 simp only [letJ]
 rw [idx_some hi, bS, hk1, show (10 : Int) = ((10 : Nat) : Int) from rfl, show (13 : Int) = ((13 : Nat) : Int) from rfl, u8_beq _ 10 (by omega), u8_beq _ 13 (by omega)]
 have app1 : ∀ c : UInt8, app 1 l [c] = some (l ++ [c]) := fun c => app_some (by simp; omega) (by simp; omega)
 unfold lnP
 rw [hg]
 by_cases c10 : p[i] = 10
 ·by_cases h0 : 0 < i
  ·have hi1 : i - 1 < p.length := by omega
   have hg1 : p.getD (i - 1) 0 = p[i - 1] := by simp [List.getD, hi1]
   have hk2 : IntKind.wrap .i64 ((i : Int) - 1) = ((i - 1 : Nat) : Int) := by rw [w64 (by omega) (by omega)]; omega
   rw [dT (show p[i] = UInt8.ofNat 10 from c10), dT (show (0 : Int) < (i : Int) by omega), Bool.and_self, cT, hk2, idx_some hi1, bS, u8_beq _ 13 (by omega), hg1, c10]
   by_cases c13 : p[i - 1] = 13
   ·rw [dT (show p[i - 1] = UInt8.ofNat 13 from c13), cT, if_neg (by decide), if_pos ⟨rfl, h0, c13⟩, List.append_nil]
   ·rw [dF (show ¬ p[i - 1] = UInt8.ofNat 13 from c13), cF, dF (by decide), cF, if_neg (by decide), if_neg (fun h => c13 h.2.2), u8_nat, bS, app1, bS, bS]
  ·rw [dF (show ¬ (0 : Int) < (i : Int) by omega), Bool.and_false, cF, cF, c10, dF (by decide), cF, if_neg (by decide), if_neg (fun h => h0 h.2.1), u8_nat, bS, app1, bS, bS]
 ·rw [dF (show ¬ p[i] = UInt8.ofNat 10 from c10), Bool.false_and, cF, cF]
  by_cases c13 : p[i] = 13
  ·rw [dT (show p[i] = UInt8.ofNat 13 from c13), cT, if_pos c13, show u8 ((10 : Nat) : Int) = some 10 from rfl, bS, app1, bS, bS]
  ·rw [dF (show ¬ p[i] = UInt8.ofNat 13 from c13), cF, if_neg c13, if_neg (fun h => c10 h.1), u8_nat, bS, app1, bS, bS]
theorem lnP_len (p : LB) (i : Nat) : (lnP p i).length ≤ 1 := by
 unfold lnP; split
 ·simp
 ·split <;> simp
def Pos (b : LB) (L : List Tk) (j : Nat) : Prop := (∀ k t, L[k]? = some t → ∃ i j', TokOk b i t j' ∧ i < b.length ∧ (k = 0 → i = 0) ∧ (∀ t', 0 < k → L[k - 1]? = some t' → ∃ i', TokOk b i' t' i)) ∧ (L = [] → j = 0) ∧ (∀ t, 0 < L.length → L[L.length - 1]? = some t → ∃ i, TokOk b i t j)
structure Agr (U V : LB) (n : Nat) : Prop where
 tk : U.take n = V.take n
 u : n ≤ U.length
 v : n ≤ V.length
 dec : ∀ j, j < n → decodeL (U.drop j) = decodeL (V.drop j)
def stopN (i k r : Int) : Bool := (r != 58) && (!partP r || ((k == i) && !startP r))
theorem name_step (b : LB) (i k : Nat) (hk : k < b.length) (hb : b.length ≤ 1073741824) (rec : Int → Option Int) : F_scan_scanner_name_l0 ⟨b, (i : Int)⟩ rec (k : Int) = cond (stopN i k ((decodeL (b.drop k)).1 : Int)) (some (k : Int)) (rec ((k + (decodeL (b.drop k)).2 : Nat) : Int)) := by
 obtain ⟨d1, d2, _⟩ := dec_bytes b k hk
 unfold F_scan_scanner_name_l0
 dsimp only
 rw [dT (by omega), cT, slc_drop (Nat.le_of_lt hk), bS, decodeRune_eq b k hk, bS]
 simp only [letJ, F_isPart, F_isStart, bS]
 have hgo : IntKind.wrap .i64 ((k : Int) + ((decodeL (b.drop k)).2 : Int)) = ((k + (decodeL (b.drop k)).2 : Nat) : Int) := by rw [w64 (by omega) (by omega)]; omega
 rw [hgo]
 unfold stopN
 cases ((decodeL (b.drop k)).1 : Int) != 58 with
 | false => rfl
 | true =>
  cases partP ((decodeL (b.drop k)).1 : Int) with
  | false => rfl
  | true =>
   cases ((k : Int) == (i : Int)) with
   | false => rfl
   | true => cases startP ((decodeL (b.drop k)).1 : Int) <;> rfl
theorem name_eq (b : LB) (i j : Nat) (h : iter (F_scan_scanner_name_l0 ⟨b, (i : Int)⟩) FUEL (i : Int) = some (j : Int)) (h1 : i ≤ j) (h2 : j ≤ b.length) :
  F_scan_scanner_name ⟨b, (i : Int)⟩ = cond ((b.drop i).take (j - i) == ([] : LB)) (some (([], 23), ⟨b, (i : Int)⟩)) ((F_char_Split ((b.drop i).take (j - i))).bind fun x => cond (!x.2.2) (some (([], 24), ⟨b, (i : Int)⟩)) (some (((b.drop i).take (j - i), 0), ⟨b, (j : Int)⟩))) := by
 unfold F_scan_scanner_name
 simp only [letJ]
 rw [h, bS]
 have hsl : slc b (i : Int) (j : Int) = some ((b.drop i).take (j - i)) := by
  unfold slc; rw [if_pos (by omega)]; simp only [Int.toNat_natCast]
 rw [hsl, bS]
theorem ixB_of {l : LB} {c : UInt8} {m : Nat} (h1 : l[m]? = some c) (h2 : ∀ k, k < m → l[k]? ≠ some c) : Lib.indexByte l c = (m : Int) := by
 by_cases hn : Lib.indexByte l c < 0
 ·have hge := Lib.indexByte_ge l c
  exact absurd h1 (Lib.indexByte_none (by omega) m)
 ·obtain ⟨o, e1, e2⟩ := ixB_nat l c hn
  obtain ⟨g1, g2⟩ := Lib.indexByte_some e1
  rw [e1]
  rcases Nat.lt_trichotomy o m with h | h | h
  ·exact absurd g1 (h2 o h)
  ·rw [h]
  ·exact absurd h1 (g2 m h)
def quo (b : LB) (i : Nat) : (LB × Int) × TS :=
 if (hereP b i [39] = true ∨ hereP b i [34] = true) ∧ 0 ≤ Lib.indexByte (b.drop (i + 1)) (b.getD i 0) then (((b.drop (i + 1)).take (Lib.indexByte (b.drop (i + 1)) (b.getD i 0)).toNat, 0), ⟨b, ((i + ((Lib.indexByte (b.drop (i + 1)) (b.getD i 0)).toNat + 2) : Nat) : Int)⟩) else (([], 23), ⟨b, (i : Int)⟩)

def HdP (k : Nat) (c : UInt8) : Prop := c = 63 ∨ (k ≤ 0 ∧ c = 118) ∨ (k ≤ 1 ∧ c = 101) ∨ (k ≤ 2 ∧ c = 115)
abbrev tok0 (i : Int) : Tk := ⟨(0 : Int), i, ([] : LB), ([] : List TP), ([] : LB), (0 : Int)⟩
abbrev tokK (k i : Int) : Tk := ⟨k, i, ([] : LB), ([] : List TP), ([] : LB), (0 : Int)⟩
def tokRest (b : LB) (i : Nat) : Option (Int × TS × Tk) :=
 cond (hereP b i [60, 33, 45, 45])
  ((F_scan_scanner_upTo ⟨b, (i : Int)⟩ (tokK 7 i) (4 : Int) ([45, 45] : LB)).bind fun x14 => cond (x14.1 != (0 : Int)) (some x14) ((F_scan_scanner_sign x14.2.1 ([62] : LB)).bind fun x17 => some (x17.1, x17.2, x14.2.2)))
 (cond (hereP b i [60, 33, 91, 67, 68, 65, 84, 65, 91]) (F_scan_scanner_upTo ⟨b, (i : Int)⟩ (tokK 6 i) (9 : Int) ([93, 93, 62] : LB))
 (cond (hereP b i [60, 33, 68, 79, 67, 84, 89, 80, 69]) (some (25, ⟨b, (i : Int)⟩, tok0 i))
 (cond (hereP b i [60, 33]) (some (23, ⟨b, (i : Int)⟩, tok0 i))
 (cond (hereP b i [60, 63]) (F_scan_scanner_instr ⟨b, (i : Int)⟩ (tok0 i))
 (cond (hereP b i [60, 47]) (F_scan_scanner_closing ⟨b, (i : Int)⟩ (tok0 i))
 (cond (hereP b i [60]) (F_scan_scanner_tag ⟨b, (i : Int)⟩ (tok0 i)) (F_scan_scanner_text ⟨b, (i : Int)⟩ (tok0 i))))))))
def declP (b : LB) (i : Nat) : Bool := decide (i = 0) && (hereP b 0 [60, 63, 120, 109, 108] && decide (5 < sk wsP b 5))
theorem bind_eta (o : Option (Int × TS × TK)) : (o.bind fun x => some (x.1, x.2.1, x.2.2)) = o := by cases o <;> rfl
theorem token_eq (b : LB) (i : Nat) (hi : i ≤ b.length) (hb : b.length ≤ 1073741824) : F_scan_scanner_token ⟨b, (i : Int)⟩ (tok0 i) = cond (declP b i) (F_scan_scanner_decl ⟨b, (0 : Int)⟩ (tok0 0)) (tokRest b i) := by
 have rest : ((F_scan_scanner_here (⟨b, (i : Int)⟩ : TS) ([60, 33, 45, 45] : LB)).bind fun x12 =>
    cond x12
    ((F_scan_scanner_upTo ⟨b, (i : Int)⟩ (⟨(7 : Int), (i : Int), ([] : LB), ([] : List TP), ([] : LB), (0 : Int)⟩ : TK) (4 : Int) ([45, 45] : LB)).bind fun x14 =>
    cond (x14.1 != (0 : Int))
     (some (x14.1, x14.2.1, x14.2.2))
     ((F_scan_scanner_sign x14.2.1 ([62] : LB)).bind fun x17 =>
     some (x17.1, x17.2, x14.2.2)))
    ((F_scan_scanner_here (⟨b, (i : Int)⟩ : TS) ([60, 33, 91, 67, 68, 65, 84, 65, 91] : LB)).bind fun x18 =>
    cond x18
     ((F_scan_scanner_upTo ⟨b, (i : Int)⟩ (⟨(6 : Int), (i : Int), ([] : LB), ([] : List TP), ([] : LB), (0 : Int)⟩ : TK) (9 : Int) ([93, 93, 62] : LB)).bind fun x20 =>
     some (x20.1, x20.2.1, x20.2.2))
     ((F_scan_scanner_here (⟨b, (i : Int)⟩ : TS) ([60, 33, 68, 79, 67, 84, 89, 80, 69] : LB)).bind fun x22 =>
     cond x22
     (some ((25 : Int), (⟨b, (i : Int)⟩ : TS), (⟨(0 : Int), (i : Int), ([] : LB), ([] : List TP), ([] : LB), (0 : Int)⟩ : TK)))
     ((F_scan_scanner_here (⟨b, (i : Int)⟩ : TS) ([60, 33] : LB)).bind fun x24 =>
     cond x24
      (some ((23 : Int), (⟨b, (i : Int)⟩ : TS), (⟨(0 : Int), (i : Int), ([] : LB), ([] : List TP), ([] : LB), (0 : Int)⟩ : TK)))
      ((F_scan_scanner_here (⟨b, (i : Int)⟩ : TS) ([60, 63] : LB)).bind fun x26 =>
      cond x26
      ((F_scan_scanner_instr (⟨b, (i : Int)⟩ : TS) ⟨(0 : Int), (i : Int), ([] : LB), ([] : List TP), ([] : LB), (0 : Int)⟩).bind fun x28 =>
      some (x28.1, x28.2.1, x28.2.2))
      ((F_scan_scanner_here (⟨b, (i : Int)⟩ : TS) ([60, 47] : LB)).bind fun x30 =>
      cond x30
       ((F_scan_scanner_closing (⟨b, (i : Int)⟩ : TS) ⟨(0 : Int), (i : Int), ([] : LB), ([] : List TP), ([] : LB), (0 : Int)⟩).bind fun x32 =>
       some (x32.1, x32.2.1, x32.2.2))
       ((F_scan_scanner_here (⟨b, (i : Int)⟩ : TS) ([60] : LB)).bind fun x34 =>
       cond x34
       ((F_scan_scanner_tag (⟨b, (i : Int)⟩ : TS) ⟨(0 : Int), (i : Int), ([] : LB), ([] : List TP), ([] : LB), (0 : Int)⟩).bind fun x36 =>
       some (x36.1, x36.2.1, x36.2.2))
       ((F_scan_scanner_text (⟨b, (i : Int)⟩ : TS) ⟨(0 : Int), (i : Int), ([] : LB), ([] : List TP), ([] : LB), (0 : Int)⟩).bind fun x38 =>
       some (x38.1, x38.2.1, x38.2.2))))))))) = tokRest b i := by
  simp only [here_eq b i _ hi, bS, bind_eta]
  rfl
 unfold F_scan_scanner_token
 simp only [letJ]
 unfold declP
 by_cases h0 : i = 0
 ·subst h0
  rw [show (((0 : Nat) : Int) == (0 : Int)) = true from rfl, cT, here_eq b 0 _ hi, bS, dT (rfl : (0 : Nat) = 0), Bool.true_and]
  cases c0 : hereP b 0 [60, 63, 120, 109, 108] with
  | false => rw [cF, cF, Bool.false_and, cF]; exact rest
  | true =>
   have hl := hereP_len c0 hi
   have h5 : 5 ≤ b.length := by simpa using hl
   rw [cT, show (5 : Int) = ((5 : Nat) : Int) from rfl, spaces_eq b _ 5 h5 hb, bS, Bool.true_and]
   by_cases h5' : 5 < sk wsP b 5
   ·rw [dT (show (((5 : Nat) : Int) < ((sk wsP b 5 : Nat) : Int)) by omega), dT h5', cT, cT, bind_eta]; rfl
   ·rw [dF (show ¬ (((5 : Nat) : Int) < ((sk wsP b 5 : Nat) : Int)) by omega), dF h5', cF, cF]; exact rest
 ·rw [show ((i : Int) == (0 : Int)) = false by rw [beq_eq_false_iff_ne]; omega, cF, cF, dF h0, Bool.false_and, cF]
  exact rest
theorem decN_more {n m b0 b1 b2 b3 c1 c2 c3 : Nat} (h : badR (decodeN n b0 b1 b2 b3) = false) (hnm : n ≤ m) (h1 : 1 < n → c1 = b1) (h2 : 2 < n → c2 = b2) (h3 : 3 < n → c3 = b3) : decodeN m b0 c1 c2 c3 = decodeN n b0 b1 b2 b3 := by
 have hb : ¬ ((decodeN n b0 b1 b2 b3).1 = 65533 ∧ (decodeN n b0 b1 b2 b3).2 = 1) := by
  unfold badR at h; simpa using h
 unfold decodeN at hb ⊢
 by_cases a0 : b0 < 128
 ·rw [if_pos a0, if_pos a0]
 rw [if_neg a0] at hb
 rw [if_neg a0, if_neg a0]
 by_cases a1 : b0 / 32 = 6 ∧ (1 < n ∧ b1 / 64 = 2)
 ·have e1 := h1 a1.2.1
  rw [if_pos a1, if_pos ⟨a1.1, by omega, by rw [e1]; exact a1.2.2⟩, e1]
 rw [if_neg a1] at hb
 rw [if_neg a1]
 by_cases a2 : b0 / 16 = 14 ∧ (1 < n ∧ b1 / 64 = 2) ∧ (2 < n ∧ b2 / 64 = 2)
 ·have e1 := h1 a2.2.1.1
  have e2 := h2 a2.2.2.1
  rw [if_pos a2, if_neg (by omega), if_pos ⟨a2.1, ⟨by omega, by rw [e1]; exact a2.2.1.2⟩, by omega, by rw [e2]; exact a2.2.2.2⟩, e1, e2]
 rw [if_neg a2] at hb
 rw [if_neg a2]
 by_cases a3 : b0 / 8 = 30 ∧ (1 < n ∧ b1 / 64 = 2) ∧ (2 < n ∧ b2 / 64 = 2) ∧ (3 < n ∧ b3 / 64 = 2)
 ·have e1 := h1 a3.2.1.1
  have e2 := h2 a3.2.2.1.1
  have e3 := h3 a3.2.2.2.1
  rw [if_pos a3, if_neg (by omega), if_neg (by omega), if_pos ⟨a3.1, ⟨by omega, by rw [e1]; exact a3.2.1.2⟩, ⟨by omega, by rw [e2]; exact a3.2.2.1.2⟩, by omega, by rw [e3]; exact a3.2.2.2.2⟩, e1, e2, e3]
 rw [if_neg a3] at hb
 exact absurd ⟨rfl, rfl⟩ hb
theorem getD_appL {x y : LB} {k : Nat} (h : k < x.length) : (x ++ y).getD k 0 = x.getD k 0 := by
 simp [List.getD, List.getElem?_append_left h]
theorem dec_app {x y : LB} (hx : x ≠ []) (h : badR (decodeL x) = false) : decodeL (x ++ y) = decodeL x := by
 have hp : 0 < x.length := List.length_pos_iff.2 hx
 rw [Lib.decodeL_N x] at h ⊢
 rw [Lib.decodeL_N (x ++ y), getD_appL hp]
 exact decN_more h (by rw [List.length_append]; omega) (fun g => by rw [getD_appL g]) (fun g => by rw [getD_appL g]) (fun g => by rw [getD_appL g])
theorem dec_ascii (c : UInt8) (y : LB) (hc : c.toNat < 128) : decodeL (c :: y) = (c.toNat, 1) := by
 have := (dec_bytes (c :: y) 0 (by simp)).2.2.1
 simpa using this hc
inductive OkT : LB → Prop
 | nil : OkT []
 | cons {l : LB} : l ≠ [] → badR (decodeL l) = false → charP ((decodeL l).1 : Int) = true → OkT (l.drop (decodeL l).2) → OkT l
theorem okT_inv {l : LB} (h : OkT l) (hl : l ≠ []) : badR (decodeL l) = false ∧ charP ((decodeL l).1 : Int) = true ∧ OkT (l.drop (decodeL l).2) := by
 cases h with
 | nil => exact absurd rfl hl
 | cons _ a b c => exact ⟨a, b, c⟩
theorem dec_pos {l : LB} (h : l ≠ []) : 1 ≤ (decodeL l).2 ∧ (decodeL l).2 ≤ l.length := by
 have := dec_bytes l 0 (List.length_pos_iff.2 h)
 simp only [List.drop_zero, Nat.zero_add] at this
 exact ⟨this.1, this.2.1⟩
theorem okT_app {x y : LB} (hx : OkT x) (hy : OkT y) : OkT (x ++ y) := by
 induction hx with
 | nil => exact hy
 | @cons l h1 h2 h3 h4 ih =>
  have e := dec_app (y := y) h1 h2
  refine .cons (by simp [h1]) (by rw [e]; exact h2) (by rw [e]; exact h3) ?_
  rw [e, List.drop_append_of_le_length (dec_pos h1).2]
  exact ih
theorem okT_ascii (c : UInt8) (y : LB) (hc : c.toNat < 128) (hp : charP (c.toNat : Int) = true) (hy : OkT y) : OkT (c :: y) := by
 have e := dec_ascii c y hc
 refine .cons (by simp) (by rw [e]; unfold badR; simp; omega) (by rw [e]; exact hp) (by rw [e]; exact hy)
theorem fault_step (b : LB) (i : Nat) (hi : i < b.length) (hb : b.length ≤ 1073741824) (rec) : F_char_Fault_l0 b rec (i : Int) = if badR (decodeL (b.drop i)) then some (.inr ((i : Int), (20 : Int))) else if charP ((decodeL (b.drop i)).1 : Int) then rec ((i + (decodeL (b.drop i)).2 : Nat) : Int) else some (.inr ((i : Int), (21 : Int))) := by
 unfold F_char_Fault_l0
 rw [dT (show (i : Int) < (b.length : Int) by omega), cT, F_next b i hi hb, bS]
 cases badR (decodeL (b.drop i)) with
 | true => rfl
 | false => cases charP ((decodeL (b.drop i)).1 : Int) <;> rfl
theorem drop_nn {α : Type} {l : List α} {i : Nat} (h : i < l.length) : l.drop i ≠ [] := fun g => by
 have := congrArg List.length g; simp at this; omega
theorem fault_iff (b : LB) (hb : b.length ≤ 1073741824) : (F_char_Fault b = some (0, 0) ∧ OkT b) ∨ (∃ (i : Nat) (e : Int), F_char_Fault b = some ((i : Int), e) ∧ e ≠ 0 ∧ ¬ OkT b ∧ i ≤ b.length) := by
 obtain ⟨o, e, h⟩ := iter_dec (b := F_char_Fault_l0 b) (fun x => b.length - x.toNat) (fun x => ∃ i : Nat, x = (i : Int) ∧ i ≤ b.length ∧ (OkT b ↔ OkT (b.drop i))) (fun o => (o = .inl () ∧ OkT b) ∨ ∃ (i : Nat) (f : Int), o = .inr ((i : Int), f) ∧ f ≠ 0 ∧ ¬ OkT b ∧ i ≤ b.length) (by
  rintro _ ⟨i, rfl, hi, hiff⟩
  by_cases hlt : i < b.length
  ·obtain ⟨d1, d2, _⟩ := dec_bytes b i hlt
   have hne := drop_nn hlt
   simp only [fault_step b i hlt hb]
   cases hbad : badR (decodeL (b.drop i)) with
   | true =>
    right
    exact ⟨_, fun _ => rfl, .inr ⟨i, 20, rfl, by decide, fun h => (by have := (okT_inv (hiff.1 h) hne).1; rw [hbad] at this; cases this), hi⟩⟩
   | false =>
    cases hc : charP ((decodeL (b.drop i)).1 : Int) with
    | false =>
     right
     exact ⟨_, fun _ => rfl, .inr ⟨i, 21, rfl, by decide, fun h => (by have := (okT_inv (hiff.1 h) hne).2.1; rw [hc] at this; cases this), hi⟩⟩
    | true =>
     left
     refine ⟨_, fun _ => rfl, ⟨i + (decodeL (b.drop i)).2, rfl, d2, hiff.trans ?_⟩, by rw [Int.toNat_natCast, Int.toNat_natCast]; omega⟩
     rw [← List.drop_drop]
     exact ⟨fun h => (okT_inv h hne).2.2, fun h => .cons hne hbad hc h⟩
  ·right
   refine ⟨.inl (), fun rec => ?_, .inl ⟨rfl, ?_⟩⟩
   ·unfold F_char_Fault_l0
    rw [dF (by omega), cF]
   ·rw [hiff, List.drop_eq_nil_of_le (by omega)]; exact .nil) FUEL (0 : Int) ⟨0, rfl, Nat.zero_le _, by rw [List.drop_zero]⟩ (by unfold FUEL; omega)
 unfold F_char_Fault
 simp only [letJ]
 rw [e, bS]
 rcases h with ⟨rfl, h⟩ | ⟨i, f, rfl, hf, hn, hi⟩
 ·exact .inl ⟨rfl, h⟩
 ·exact .inr ⟨i, f, rfl, hf, hn, hi⟩
def lnR : Bool → LB → LB
 | _, [] => []
 | pc, c :: l => if c = 13 then 10 :: lnR true l else if c = 10 ∧ pc = true then lnR false l else c :: lnR false l
theorem lnR_step (p : LB) (i : Nat) (hi : i < p.length) : lnR (decide (0 < i ∧ p.getD (i - 1) 0 = 13)) (p.drop i) = lnP p i ++ lnR (decide (0 < i + 1 ∧ p.getD (i + 1 - 1) 0 = 13)) (p.drop (i + 1)) := by
 have hg : p.getD i 0 = p[i] := by simp [List.getD, hi]
 rw [List.drop_eq_getElem_cons hi, Nat.add_sub_cancel]
 simp only [lnR]
 unfold lnP
 rw [hg]
 by_cases h13 : p[i] = 13
 ·rw [if_pos h13, if_pos h13, dT (by exact ⟨by omega, h13⟩)]; rfl
 ·rw [if_neg h13, if_neg h13, dF (show ¬ (0 < i + 1 ∧ p[i] = 13) from fun h => h13 h.2)]
  by_cases h10 : p[i] = 10 ∧ 0 < i ∧ p.getD (i - 1) 0 = 13
  ·rw [if_pos ⟨h10.1, dT h10.2⟩, if_pos h10]; rfl
  ·rw [if_neg (fun h => h10 ⟨h.1, of_decide_eq_true h.2⟩), if_neg h10]; rfl
theorem lines_eq (p : LB) (hp : p.length ≤ 1073741824) : F_char_Lines p = some (lnR false p) := by
 obtain ⟨o, e, h⟩ := iter_dec (b := F_char_Lines_l0 p) (fun x => p.length - x.2.toNat) (fun x => ∃ (l : LB) (i : Nat), x = (l, (i : Int)) ∧ i ≤ p.length ∧ l.length ≤ i ∧ l ++ lnR (decide (0 < i ∧ p.getD (i - 1) 0 = 13)) (p.drop i) = lnR false p) (fun o => o = lnR false p) (by
  rintro _ ⟨l, i, rfl, hi, hl, hE⟩
  by_cases hlt : i < p.length
  ·left
   have := lnP_len p i
   rw [lnR_step p i hlt, ← List.append_assoc] at hE
   exact ⟨_, fun rec => lines_step1 p i l hlt hl hp rec, ⟨_, i + 1, rfl, by omega, by rw [List.length_append]; omega, hE⟩, by dsimp only; omega⟩
  ·right
   rw [List.drop_eq_nil_of_le (by omega)] at hE
   refine ⟨l, fun rec => ?_, by rw [← hE]; simp [lnR]⟩
   unfold F_char_Lines_l0; dsimp only; rw [dF (by omega), cF]) FUEL (([] : LB), (0 : Int)) ⟨[], 0, rfl, Nat.zero_le _, Nat.le_refl _, by simp⟩ (by unfold FUEL; dsimp only; omega)
 unfold F_char_Lines
 simp only [letJ]
 rw [show mkG 1 (0 : Int) (p.length : Int) = some () by unfold mkG; rw [if_pos (by omega)], bS, bS, show (List.replicate (Int.toNat (0 : Int)) (0 : UInt8)) = [] from rfl, e, bS, h]
def strip (p : LB) : LB := if ([239, 187, 191] : LB).isPrefixOf p = true then p.drop 3 else p
def pln (p : LB) : LB := lnR false (strip p)
theorem plain_eq (p : LB) (hp : p.length ≤ 1073741824) : F_scan_Plain p = some (pln p) := by
 unfold F_scan_Plain F_bytes_TrimPrefix
 rw [show u8 (239 : Int) = some 239 from rfl, show u8 (187 : Int) = some 187 from rfl, show u8 (191 : Int) = some 191 from rfl, bS, bS, bS, hasPrefix_eq, bS]
 unfold pln strip
 cases h : ([239, 187, 191] : LB).isPrefixOf p with
 | true =>
  have h' := h
  rw [isPre_take, Bool.and_eq_true, decide_eq_true_eq] at h'
  rw [cT, if_pos rfl, show slc p ((([239, 187, 191] : LB).length : Nat) : Int) (p.length : Int) = some (p.drop 3) from slc_drop (n := 3) (by simpa using h'.1), bS, bS, lines_eq _ (by rw [List.length_drop]; omega), bS]
 | false => rw [cF, if_neg (by simp), bS, lines_eq p hp, bS]
theorem decN_cut {n b0 b1 b2 b3 w c1 c2 c3 : Nat} (h : badR (decodeN n b0 b1 b2 b3) = false) (hw : (decodeN n b0 b1 b2 b3).2 = w) (h1 : 1 < w → c1 = b1) (h2 : 2 < w → c2 = b2) (h3 : 3 < w → c3 = b3) : decodeN w b0 c1 c2 c3 = decodeN n b0 b1 b2 b3 := by
 have hb : ¬ ((decodeN n b0 b1 b2 b3).1 = 65533 ∧ (decodeN n b0 b1 b2 b3).2 = 1) := by
  unfold badR at h; simpa using h
 unfold decodeN at hb hw ⊢
 by_cases a0 : b0 < 128
 ·rw [if_pos a0, if_pos a0]
 rw [if_neg a0] at hb hw
 rw [if_neg a0, if_neg a0]
 by_cases a1 : b0 / 32 = 6 ∧ (1 < n ∧ b1 / 64 = 2)
 ·rw [if_pos a1] at hb hw
  rw [if_pos a1]
  split at hw
  ·have hw : 2 = w := hw
   subst hw
   have e1 := h1 (by omega)
   rw [if_pos ⟨a1.1, by omega, by rw [e1]; exact a1.2.2⟩, e1]
  ·rename_i hx; rw [if_neg hx] at hb; exact absurd ⟨rfl, rfl⟩ hb
 rw [if_neg a1] at hb hw
 rw [if_neg a1]
 by_cases a2 : b0 / 16 = 14 ∧ (1 < n ∧ b1 / 64 = 2) ∧ (2 < n ∧ b2 / 64 = 2)
 ·rw [if_pos a2] at hb hw
  rw [if_pos a2]
  split at hw
  ·have hw : 3 = w := hw
   subst hw
   have e1 := h1 (by omega)
   have e2 := h2 (by omega)
   rw [if_neg (by omega), if_pos ⟨a2.1, ⟨by omega, by rw [e1]; exact a2.2.1.2⟩, by omega, by rw [e2]; exact a2.2.2.2⟩, e1, e2]
  ·rename_i hx; rw [if_neg hx] at hb; exact absurd ⟨rfl, rfl⟩ hb
 rw [if_neg a2] at hb hw
 rw [if_neg a2]
 by_cases a3 : b0 / 8 = 30 ∧ (1 < n ∧ b1 / 64 = 2) ∧ (2 < n ∧ b2 / 64 = 2) ∧ (3 < n ∧ b3 / 64 = 2)
 ·rw [if_pos a3] at hb hw
  rw [if_pos a3]
  split at hw
  ·have hw : 4 = w := hw
   subst hw
   have e1 := h1 (by omega)
   have e2 := h2 (by omega)
   have e3 := h3 (by omega)
   rw [if_neg (by omega), if_neg (by omega), if_pos ⟨a3.1, ⟨by omega, by rw [e1]; exact a3.2.1.2⟩, ⟨by omega, by rw [e2]; exact a3.2.2.1.2⟩, by omega, by rw [e3]; exact a3.2.2.2.2⟩, e1, e2, e3]
  ·rename_i hx; rw [if_neg hx] at hb; exact absurd ⟨rfl, rfl⟩ hb
 rw [if_neg a3] at hb
 exact absurd ⟨rfl, rfl⟩ hb
theorem getD_take {l : LB} {k w : Nat} (h : k < w) : (l.take w).getD k 0 = l.getD k 0 := by
 simp [List.getD, List.getElem?_take, h]
theorem dec_take {l : LB} (hl : l ≠ []) (h : badR (decodeL l) = false) : decodeL (l.take (decodeL l).2) = decodeL l := by
 have hp := dec_pos hl
 generalize hw : (decodeL l).2 = w at hp ⊢
 rw [Lib.decodeL_N l] at h hw ⊢
 rw [Lib.decodeL_N (l.take w), getD_take (by omega), show (l.take w).length = w by rw [List.length_take]; omega]
 exact decN_cut h hw (fun g => by rw [getD_take g]) (fun g => by rw [getD_take g]) (fun g => by rw [getD_take g])
def textR (b : LB) (i f : Nat) : Option (Int × TS × Tk) :=
 (F_refer_ReadText ((b.drop i).take (f - i))).bind fun x => (L_bCount ((b.drop i).take (f - i)) ([38] : LB)).bind fun y => some (x.2.2, (⟨b, (f : Int)⟩ : TS), (⟨(5 : Int), (i : Int), [], [], x.1, y⟩ : Tk))
structure TxtAt (b : LB) (i f : Nat) : Prop where
 lt : i < f
 le : f ≤ b.length
 no : ∀ x, i ≤ x → x < f → b[x]? ≠ some 60
 ed : f = b.length ∨ b[f]? = some 60
theorem text_mk {b : LB} {i f : Nat} (hb : b.length ≤ 1073741824) (h : TxtAt b i f) : F_scan_scanner_text ⟨b, (i : Int)⟩ (tok0 i) = textR b i f := by
 obtain ⟨h1, h2, h3, h4⟩ := h
 have core : ∀ a : LB, a = (b.drop i).take (f - i) → ((F_refer_ReadText a).bind fun x10 =>
  (L_bCount a ([38] : LB)).bind fun x13 =>
  some (x10.2.2, (⟨b, (IntKind.wrap .i64 ((i : Int) + (a.length : Int)))⟩ : TS), (⟨(5 : Int), (i : Int), ([] : LB), ([] : List TP), x10.1, x13⟩ : TK))) = textR b i f := by
  intro a ha
  have hal : a.length = f - i := by rw [ha, List.length_take, List.length_drop]; omega
  rw [hal, w64 (by omega) (by omega), show (i : Int) + ((f - i : Nat) : Int) = (f : Int) by omega, ha]
  rfl
 unfold F_scan_scanner_text
 dsimp only
 rw [slc_drop (by omega), bS]
 simp only [letJ]
 unfold L_bIndexByte
 rw [bS]
 have h60' : ((60 : Int).toNat.toUInt8) = 60 := by decide
 rw [h60']
 by_cases hf : f = b.length
 ·have hno : Lib.indexByte (b.drop i) 60 < 0 := by
   apply Classical.byContradiction; intro hn
   obtain ⟨m, e1, e2⟩ := ixB_nat (b.drop i) 60 hn
   have := (Lib.indexByte_some e1).1
   rw [List.getElem?_drop] at this
   rw [List.length_drop] at e2
   exact h3 (i + m) (by omega) (by omega) this
  rw [dF (by omega), cF]
  exact core _ (by rw [List.take_of_length_le (by rw [List.length_drop]; omega)])
 ·have hx : Lib.indexByte (b.drop i) 60 = ((f - i : Nat) : Int) := by
   refine ixB_of ?_ fun k hk => ?_
   ·rw [List.getElem?_drop, show i + (f - i) = f by omega]
    rcases h4 with h4 | h4
    ·exact absurd h4 hf
    ·exact h4
   ·rw [List.getElem?_drop]; exact h3 (i + k) (by omega) (by omega)
  rw [hx, dT (by omega), cT, slc_take0 (by rw [List.length_drop]; omega), bS]
  exact core _ rfl
theorem hereP_hd {b : LB} {i : Nat} {w : LB} (h : b[i]? ≠ some 60) : hereP b i (60 :: w) = false := by
 rw [Bool.eq_false_iff]; intro hc; exact h (hereP_get hc)
theorem token_text {b : LB} {i : Nat} (hi : i ≤ b.length) (hb : b.length ≤ 1073741824) (h60 : b[i]? ≠ some 60) : F_scan_scanner_token ⟨b, (i : Int)⟩ (tok0 i) = F_scan_scanner_text ⟨b, (i : Int)⟩ (tok0 i) := by
 have hd : declP b i = false := by
  unfold declP
  by_cases h0 : i = 0
  ·subst h0; rw [hereP_hd h60, Bool.false_and, Bool.and_false]
  ·rw [dF h0, Bool.false_and]
 rw [token_eq b i hi hb, hd, cF]
 unfold tokRest
 rw [hereP_hd h60, hereP_hd h60, hereP_hd h60, hereP_hd h60, hereP_hd h60, hereP_hd h60, hereP_hd h60]
 rfl
inductive Tr (b : LB) : List Tk → Nat → Prop
 | nil : Tr b [] 0
 | snoc {L : List Tk} {j k : Nat} {t : Tk} : Tr b L j → j < b.length → F_scan_scanner_token ⟨b, (j : Int)⟩ (tok0 j) = some (0, ⟨b, (k : Int)⟩, t) → TokOk b j t k → k ≤ b.length → Tr b (L ++ [t]) k
theorem all_step {b : LB} {L : List Tk} {j k : Nat} {t : Tk} (hL : L.length ≤ 65536) (hj : j < b.length) (h : F_scan_scanner_token ⟨b, (j : Int)⟩ (tok0 j) = some (0, ⟨b, (k : Int)⟩, t)) (rec) : F_scan_All_l0 rec (b, (j : Int), L) = rec (b, (k : Int), L ++ [t]) := by
 have hne : ((j : Int) == (b.length : Int)) = false := by rw [beq_eq_false_iff_ne]; omega
 have h' : F_scan_scanner_token ⟨b, (j : Int)⟩ ⟨(0 : Int), (j : Int), ([] : LB), ([] : List TP), ([] : LB), (0 : Int)⟩ = some (0, ⟨b, (k : Int)⟩, t) := h
 unfold F_scan_All_l0
 dsimp only
 rw [hne, cF, h', bS]
 dsimp only
 rw [show ((0 : Int) != 0) = false from rfl, cF, app_some (by simp; omega) (by simp; omega), bS, bS]
theorem all_end (b : LB) (L : List Tk) (rec) : F_scan_All_l0 rec (b, (b.length : Int), L) = some (L, (0 : Int), (0 : Int)) := by
 unfold F_scan_All_l0
 dsimp only
 rw [show ((b.length : Int) == (b.length : Int)) = true by simp, cT]
theorem all_eq (p : LB) (hp : p.length ≤ 65536) : F_scan_All p = (F_char_Fault (pln p)).bind fun x4 => cond (x4.2 != (0 : Int)) (some ([], x4.1, x4.2)) (iter F_scan_All_l0 FUEL (pln p, (0 : Int), ([] : List TK))) := by
 have hbind : ∀ o : Option (List TK × Int × Int), (o.bind fun x => some x) = o := fun o => by cases o <;> rfl
 unfold F_scan_All
 rw [dF (by omega), cF, plain_eq p (by omega), bS]
 dsimp only
 rw [hbind]
theorem okT_one {l : LB} (h1 : l ≠ []) (h2 : badR (decodeL l) = false) (h3 : charP ((decodeL l).1 : Int) = true) : OkT (l.take (decodeL l).2) := by
 have hp := dec_pos h1
 have e := dec_take h1 h2
 refine .cons (fun h => by have := congrArg List.length h; rw [List.length_take, List.length_nil] at this; omega) (by rw [e]; exact h2) (by rw [e]; exact h3) ?_
 rw [e, List.drop_eq_nil_of_le (by rw [List.length_take]; omega)]
 exact .nil

theorem lnR_id : ∀ (l : LB), (13 : UInt8) ∉ l → lnR false l = l
 | [], _ => rfl
 | c :: l, h => by
  simp only [List.mem_cons, not_or] at h
  simp only [lnR]
  rw [if_neg (fun e => h.1 e.symm), if_neg (by simp), lnR_id l h.2]
abbrev bom : LB := [239, 187, 191]
def mrk (x : LB) : LB := if bom.isPrefixOf x = true then bom ++ x else x
theorem sk_pass {P : UInt8 → Bool} : ∀ (g : LB) {b : LB} {i : Nat} {c : UInt8} {y : LB}, b.drop i = g ++ c :: y → (∀ d ∈ g, P d = true) → P c = false → sk P b i = i + g.length
 | [], b, i, c, y, e, _, hc => by
  unfold sk
  rw [e, List.nil_append, List.takeWhile_cons, hc]; rfl
 | d :: g, b, i, c, y, e, hg, hc => by
  unfold sk
  rw [e]
  have : ((d :: g) ++ c :: y).takeWhile P = d :: g := by
   rw [List.takeWhile_append_of_pos (fun x hx => hg x hx), List.takeWhile_cons, hc]
   simp
  rw [this]

theorem drop_go {b x r : LB} {i : Nat} (h : b.drop i = x ++ r) : b.drop (i + x.length) = r := by
 rw [← List.drop_drop, h, List.drop_left]
theorem drop_go1 {b r : LB} {c : UInt8} {i : Nat} (h : b.drop i = c :: r) : b.drop (i + 1) = r := by
 rw [← List.drop_drop, h]; rfl
theorem drop_get {b r : LB} {c : UInt8} {i : Nat} (h : b.drop i = c :: r) : b[i]? = some c := by
 have : (b.drop i)[0]? = some c := by rw [h]; rfl
 rw [List.getElem?_drop, Nat.add_zero] at this
 exact this
theorem drop_lt {b r : LB} {c : UInt8} {i : Nat} (h : b.drop i = c :: r) : i < b.length := (List.getElem?_eq_some_iff.1 (drop_get h)).1
structure Spc (nm a v g : LB) (d : UInt8) (g' : LB) (p q : LB) : Prop where
 hp : p = 60 :: (nm ++ 32 :: (a ++ 61 :: 39 :: (v ++ [39, 47, 62])))
 hq : q = 60 :: (nm ++ (g ++ (a ++ (g ++ 61 :: (g ++ 39 :: (v ++ 39 :: (g ++ [47, 62])))))))
 hg : g = d :: g'
 hw : ∀ c ∈ g, wsP c = true
 lp : p.length ≤ 65536
 lq : q.length ≤ 65536
def encR (r : Int) : LB := (Utf8.encode r).data.toList
theorem encR_1 (r : Nat) (c1 : r < 128) : encR (r : Int) = [UInt8.ofNat r] := by
 have v : Utf8.valid (r : Int) = true := by simp [Utf8.valid]; omega
 simp [encR, Utf8.encode, v, c1]
theorem encR_2 (r : Nat) (c1 : ¬ r < 128) (c2 : r < 2048) : encR (r : Int) = [UInt8.ofNat (192 + r / 64), UInt8.ofNat (128 + r % 64)] := by
 have v : Utf8.valid (r : Int) = true := by simp [Utf8.valid]; omega
 simp [encR, Utf8.encode, v, c1, c2]
theorem encR_3 (r : Nat) (c2 : ¬ r < 2048) (c3 : r < 65536) (hv : r < 55296 ∨ 57344 ≤ r) : encR (r : Int) = [UInt8.ofNat (224 + r / 4096), UInt8.ofNat (128 + r / 64 % 64), UInt8.ofNat (128 + r % 64)] := by
 have v : Utf8.valid (r : Int) = true := by simp [Utf8.valid]; omega
 have c1 : ¬ r < 128 := by omega
 simp [encR, Utf8.encode, v, c1, c2, c3]
theorem encR_4 (r : Nat) (c3 : ¬ r < 65536) (c4 : r ≤ 1114111) : encR (r : Int) = [UInt8.ofNat (240 + r / 262144), UInt8.ofNat (128 + r / 4096 % 64), UInt8.ofNat (128 + r / 64 % 64), UInt8.ofNat (128 + r % 64)] := by
 have v : Utf8.valid (r : Int) = true := by simp [Utf8.valid]; omega
 have c1 : ¬ r < 128 := by omega
 have c2 : ¬ r < 2048 := by omega
 simp [encR, Utf8.encode, v, c1, c2, c3]
theorem ofN {n : Nat} (h : n < 256) : (UInt8.ofNat n).toNat = n := by
 show n % 256 = n; omega
theorem enc_dec {l : LB} (hl : l ≠ []) (h : badR (decodeL l) = false) : encR ((decodeL l).1 : Int) = l.take (decodeL l).2 := by
 have hb : ¬ ((decodeL l).1 = 65533 ∧ (decodeL l).2 = 1) := fun hh => by unfold badR at h; rw [dT hh] at h; cases h
 rw [← Lib.encode_decode l hl hb]
 have hnum : ∀ (a b : LB), a.map (fun x : UInt8 => (x.toNat : Int)) = b.map (fun x : UInt8 => (x.toNat : Int)) → a = b := by
  intro a
  induction a with
  | nil => intro b hb; cases b with
   | nil => rfl
   | cons _ _ => cases hb
  | cons x a ih => intro b hb; cases b with
   | nil => cases hb
   | cons y b =>
    simp only [List.map_cons, List.cons.injEq] at hb
    have : x = y := by apply UInt8.toNat_inj.1; omega
    rw [this, ih b hb.2]
 apply hnum
 generalize (decodeL l).1 = r
 have hz : (Lib.encodeRune (r : Int)).map (fun x : UInt8 => (x.toNat : Int)) = Lib.encodeRuneZ (r : Int) := by
  unfold Lib.encodeRune
  rw [List.map_map]
  conv => rhs; rw [← List.map_id (Lib.encodeRuneZ (r : Int))]
  refine List.map_congr_left fun x hx => ?_
  have := Lib.encodeRuneZ_byte (r : Int) x hx
  show ((UInt8.ofNat x.toNat).toNat : Int) = x
  rw [ofN (by omega)]; omega
 rw [hz]
 by_cases c1 : r < 128
 ·rw [encR_1 r c1, Lib.encodeRuneZ_one (by omega) (by omega)]; simp [ofN (show r < 256 by omega)]
 by_cases c2 : r < 2048
 ·rw [encR_2 r c1 c2, Lib.encodeRuneZ_two (by omega) (by omega)]
  simp only [List.map_cons, List.map_nil]
  rw [ofN (show 192 + r / 64 < 256 by omega), ofN (show 128 + r % 64 < 256 by omega)]
  simp
 by_cases hb' : (55296 ≤ r ∧ r ≤ 57343) ∨ 1114111 < r
 ·rw [Lib.encodeRuneZ_bad (by omega)]
  have v : Utf8.valid (r : Int) = false := by simp [Utf8.valid]; omega
  simp [encR, Utf8.encode, v, Utf8.runeError]
 by_cases c3 : r < 65536
 ·rw [encR_3 r c2 c3 (by omega), Lib.encodeRuneZ_three (by omega)]
  simp only [List.map_cons, List.map_nil]
  rw [ofN (show 224 + r / 4096 < 256 by omega), ofN (show 128 + r / 64 % 64 < 256 by omega), ofN (show 128 + r % 64 < 256 by omega)]
  simp
 ·rw [encR_4 r c3 (by omega), Lib.encodeRuneZ_four (by omega) (by omega)]
  simp only [List.map_cons, List.map_nil]
  rw [ofN (show 240 + r / 262144 < 256 by omega), ofN (show 128 + r / 4096 % 64 < 256 by omega), ofN (show 128 + r / 64 % 64 < 256 by omega), ofN (show 128 + r % 64 < 256 by omega)]
  simp
theorem expand_at {p w R : LB} {i : Nat} {r : Int} (hp : p.length ≤ 1073741824) (h : p.drop i = 38 :: (w ++ 59 :: R)) (hw : (59 : UInt8) ∉ w) (hm : F_refer_meant w = some (r, 0)) : F_refer_Expand p (i : Int) = some (r, ((i + w.length + 2 : Nat) : Int), 0) := by
 have hlt := drop_lt h
 have hl : p.length = i + (w.length + R.length + 2) := by
  have := congrArg List.length h
  rw [List.length_drop] at this; simp at this; omega
 have hg : p[i] = 38 := by
  have := drop_get h
  rw [List.getElem?_eq_getElem hlt] at this
  exact Option.some.inj this
 unfold F_refer_Expand
 simp only [letJ]
 rw [dF (show ¬ (i : Int) < 0 by omega), dF (show ¬ (p.length : Int) ≤ (i : Int) by omega), show (false || false) = false from rfl, cF, idx_some hlt, bS, hg,
  show (((38 : UInt8).toNat : Int) != 38) = false from rfl, cF, slc_drop (Nat.le_of_lt hlt), bS]
 unfold L_bIndexByte
 rw [bS, show (59 : Int).toNat.toUInt8 = 59 from rfl]
 have hix : Lib.indexByte (p.drop i) 59 = ((w.length + 1 : Nat) : Int) := by
  refine ixB_of (by rw [h]; simp) fun k hk => ?_
  rw [h]
  cases k with
  | zero => simp
  | succ k =>
   rw [List.getElem?_cons_succ, List.getElem?_append_left (by omega)]
   exact fun hc => hw (List.mem_of_getElem? hc)
 rw [hix, dF (by omega), cF, w64 (x := (i : Int) + 1) (by omega) (by omega), w64 (x := (i : Int) + ((w.length + 1 : Nat) : Int)) (by omega) (by omega)]
 have hsl : slc p ((i : Int) + 1) ((i : Int) + ((w.length + 1 : Nat) : Int)) = some w := by
  unfold slc; rw [if_pos (by omega), show ((i : Int) + 1).toNat = i + 1 by omega, show ((i : Int) + ((w.length + 1 : Nat) : Int)).toNat - (i + 1) = w.length by omega, drop_go1 h, List.take_left]
 rw [hsl, bS, hm, bS]
 rw [show (((r, 0) : Int × Int).2 != 0) = false from rfl, cF, w64 (by omega) (by omega)]
 congr 3
theorem read_good {p : LB} {v : Bool} {i : Nat} {l : LB} (hi : i < p.length) (hp : p.length ≤ 1073741824) (hb : badR (decodeL (p.drop i)) = false) (hc : charP ((decodeL (p.drop i)).1 : Int) = true)
  (h60 : (decodeL (p.drop i)).1 ≠ 60) (hx : v = true ∨ ([93, 93, 62] : LB).isPrefixOf (p.drop i) = false) (rec) :
  F_refer_read_l0 p v rec (l, (i : Int)) = cond (((decodeL (p.drop i)).1 : Int) == (38 : Int)) ((F_refer_Expand p (i : Int)).bind fun x101 => cond (x101.2.2 != (0 : Int)) (some (.inr (([] : LB), (i : Int), x101.2.2))) ((app 1 l (encR x101.1)).bind fun _ => rec ((l ++ encR x101.1), x101.2.1)))
   (cond (v && (((((decodeL (p.drop i)).1 : Int) == (9 : Int)) || (((decodeL (p.drop i)).1 : Int) == (10 : Int))) || (((decodeL (p.drop i)).1 : Int) == (13 : Int)))) ((app 1 l (encR 32)).bind fun _ => rec ((l ++ encR 32), ((i + (decodeL (p.drop i)).2 : Nat) : Int))) ((app 1 l (encR ((decodeL (p.drop i)).1 : Int))).bind fun _ => rec ((l ++ encR ((decodeL (p.drop i)).1 : Int)), ((i + (decodeL (p.drop i)).2 : Nat) : Int)))) := by
 unfold F_refer_read_l0
 simp only [letJ]
 rw [dT (by omega), cT, F_next p i hi hp, hb, hc, if_neg (by simp), if_pos rfl, bS]
 dsimp only
 rw [show (((0 : Int)) != 0) = false from rfl, cF, show (((decodeL (p.drop i)).1 : Int) == (60 : Int)) = false by rw [beq_eq_false_iff_ne]; omega, cF]
 rcases hx with rfl | hx
 ·rfl
 ·cases v with
  | true => rfl
  | false =>
   simp only [Bool.not_false, cT, slc_drop (Nat.le_of_lt hi), bS, hasPrefix_eq, hx, cF]
   rfl
theorem read_plain {p : LB} {v : Bool} {i : Nat} {l : LB} (hi : i < p.length) (hp : p.length ≤ 1073741824) (hl : l.length ≤ 4 * i) (hb : badR (decodeL (p.drop i)) = false) (hc : charP ((decodeL (p.drop i)).1 : Int) = true)
  (h60 : (decodeL (p.drop i)).1 ≠ 60) (h38 : (decodeL (p.drop i)).1 ≠ 38) (hv : v = true → (decodeL (p.drop i)).1 ≠ 9 ∧ (decodeL (p.drop i)).1 ≠ 10 ∧ (decodeL (p.drop i)).1 ≠ 13) (hx : v = true ∨ ([93, 93, 62] : LB).isPrefixOf (p.drop i) = false) (rec) :
  F_refer_read_l0 p v rec (l, (i : Int)) = rec ((l ++ encR ((decodeL (p.drop i)).1 : Int)), ((i + (decodeL (p.drop i)).2 : Nat) : Int)) := by
 have e4 : ∀ r, (encR r).length ≤ 4 := enc_len
 have := e4 ((decodeL (p.drop i)).1 : Int)
 rw [read_good hi hp hb hc h60 hx, show (((decodeL (p.drop i)).1 : Int) == (38 : Int)) = false by rw [beq_eq_false_iff_ne]; omega, cF]
 have hw : (v && (((((decodeL (p.drop i)).1 : Int) == (9 : Int)) || (((decodeL (p.drop i)).1 : Int) == (10 : Int))) || (((decodeL (p.drop i)).1 : Int) == (13 : Int)))) = false := by
  cases v with
  | false => rfl
  | true =>
   obtain ⟨q1, q2, q3⟩ := hv rfl
   rw [show (((decodeL (p.drop i)).1 : Int) == (9 : Int)) = false by rw [beq_eq_false_iff_ne]; omega, show (((decodeL (p.drop i)).1 : Int) == (10 : Int)) = false by rw [beq_eq_false_iff_ne]; omega, show (((decodeL (p.drop i)).1 : Int) == (13 : Int)) = false by rw [beq_eq_false_iff_ne]; omega]
   rfl
 rw [hw, cF, app_some (by omega) (by omega), bS]
theorem read_ref {p w R : LB} {v : Bool} {i : Nat} {l : LB} {r : Int} (hp : p.length ≤ 1073741824) (hl : l.length ≤ 4 * i) (h : p.drop i = 38 :: (w ++ 59 :: R)) (hw : (59 : UInt8) ∉ w) (hm : F_refer_meant w = some (r, 0)) (rec) :
  F_refer_read_l0 p v rec (l, (i : Int)) = rec ((l ++ encR r), ((i + w.length + 2 : Nat) : Int)) := by
 have e4 : ∀ r, (encR r).length ≤ 4 := enc_len
 have := e4 r
 have hi := drop_lt h
 have hd : decodeL (p.drop i) = (38, 1) := by rw [h, dec_ascii _ _ (by decide)]; rfl
 rw [read_good hi hp (by rw [hd]; decide) (by rw [hd]; decide) (by rw [hd]; decide) (.inr (by rw [h]; rfl)), hd]
 rw [show ((((38, 1) : Nat × Nat).1 : Int) == (38 : Int)) = true from rfl, cT, expand_at hp h hw hm, bS]
 dsimp only
 rw [show (((0 : Int)) != 0) = false from rfl, cF, app_some (by omega) (by omega), bS]
def Esc (v : Bool) (E : UInt8 → LB) : Prop := ∀ c : UInt8, (c.toNat < 128 → charP (c.toNat : Int) = true) →
 (E c = [c] ∧ c ≠ 60 ∧ c ≠ 38 ∧ (v = true → c ≠ 9 ∧ c ≠ 10 ∧ c ≠ 13) ∧ (v = false → c ≠ 62)) ∨ (c.toNat < 128 ∧ ∃ w, E c = 38 :: (w ++ [59]) ∧ (59 : UInt8) ∉ w ∧ (62 : UInt8) ∉ w ∧ F_refer_meant w = some ((c.toNat : Int), 0))
theorem iter_one {σ ρ : Type} {b : (σ → Option ρ) → σ → Option ρ} {n : Nat} {x y : σ} (h : ∀ rec, b rec x = rec y) : iter b (n + 1) x = iter b n y := by rw [iter_succ, h]
theorem read_esc {E : UInt8 → LB} {v : Bool} (hE : Esc v E) {t : LB} (ht : OkT t) : ∀ (W pre l : LB) (m : Nat), W = pre ++ t.flatMap E → W.length ≤ 1073741824 → (v = false → (62 : UInt8) ∉ W) → l.length ≤ 4 * pre.length → t.length < m →
  iter (F_refer_read_l0 W v) m (l, (pre.length : Int)) = some (.inl (l ++ t)) := by
 induction ht with
 | nil =>
  intro W pre l m hW hl hg hle hm
  obtain ⟨m, rfl⟩ : ∃ k, m = k + 1 := ⟨m - 1, by omega⟩
  rw [List.flatMap_nil, List.append_nil] at hW
  subst hW
  rw [iter_succ]
  unfold F_refer_read_l0
  dsimp only
  rw [dF (by omega), cF, List.append_nil]
 | @cons t h1 h2 h3 h4 ih =>
  intro W pre l m hW hl hg hle hm
  obtain ⟨m, rfl⟩ : ∃ k, m = k + 1 := ⟨m - 1, by omega⟩
  have hx : v = true ∨ ([93, 93, 62] : LB).isPrefixOf (W.drop pre.length) = false := by
   cases v with
   | true => exact .inl rfl
   | false =>
    right
    cases hp : ([93, 93, 62] : LB).isPrefixOf (W.drop pre.length) with
    | false => rfl
    | true =>
     rw [List.isPrefixOf_iff_prefix] at hp
     obtain ⟨z, hz⟩ := hp
     exact absurd (List.mem_of_mem_drop (hz ▸ (by simp : (62 : UInt8) ∈ [93, 93, 62] ++ z))) (hg rfl)
  have hdrop : W.drop pre.length = t.flatMap E := by rw [hW, List.drop_left]
  cases t with
  | nil => exact absurd rfl h1
  | cons c t' =>
  by_cases hc : c.toNat < 128
  ·have hd := dec_ascii c t' hc
   rw [hd] at h3 ih
   have henc : encR (c.toNat : Int) = [c] := by rw [encR_1 _ hc]; simp
   rcases hE c (fun _ => h3) with ⟨e1, e2, e3, e4, e5⟩ | ⟨_, w, e1, e2, e3, e4⟩
   ·rw [List.flatMap_cons, e1, List.singleton_append] at hdrop hW
    have hdW : decodeL (W.drop pre.length) = (c.toNat, 1) := by rw [hdrop, dec_ascii _ _ hc]
    have hn : ∀ n : Nat, c.toNat = n → n < 256 → c = UInt8.ofNat n := fun n hn hlt => by rw [← hn]; simp
    rw [iter_one (read_plain (drop_lt hdrop) hl hle (by rw [hdW]; rw [hd] at h2; exact h2) (by rw [hdW]; exact h3) (by rw [hdW]; exact fun h => e2 (hn 60 h (by decide))) (by rw [hdW]; exact fun h => e3 (hn 38 h (by decide)))
     (fun hv => by rw [hdW]; exact ⟨fun h => (e4 hv).1 (hn 9 h (by decide)), fun h => (e4 hv).2.1 (hn 10 h (by decide)), fun h => (e4 hv).2.2 (hn 13 h (by decide))⟩) hx), hdW]
    dsimp only
    rw [henc, show pre.length + 1 = (pre ++ [c]).length by simp]
    have := ih W (pre ++ [c]) (l ++ [c]) m (by rw [hW]; simp) hl hg (by simp; omega) (by simp at hm ⊢; omega)
    rw [this]
    simp
   ·have hdrop' : W.drop pre.length = 38 :: (w ++ 59 :: t'.flatMap E) := by rw [hdrop, List.flatMap_cons, e1]; simp
    rw [iter_one (read_ref hl hle hdrop' e2 e4)]
    rw [henc, show pre.length + w.length + 2 = (pre ++ E c).length by rw [e1]; simp; omega]
    have := ih W (pre ++ E c) (l ++ [c]) m (by rw [hW, List.flatMap_cons]; simp) hl hg (by rw [e1]; simp; omega) (by simp at hm ⊢; omega)
    rw [this]
    simp
  ·have hp := dec_pos h1
   obtain ⟨_, _, _, d4⟩ := dec_bytes (c :: t') 0 (by simp)
   rw [List.drop_zero] at d4
   generalize hT : c :: t' = T at *
   have hu : ∀ b ∈ T.take (decodeL T).2, E b = [b] := by
    intro b hb
    have hb128 : 128 ≤ b.toNat := by
     obtain ⟨k, hk⟩ := List.mem_iff_getElem?.1 hb
     have hkl : k < (decodeL T).2 := by
      have := (List.getElem?_eq_some_iff.1 hk).1
      rw [List.length_take] at this; omega
     rw [List.getElem?_take_of_lt hkl] at hk
     cases k with
     | zero =>
      rw [← hT] at hk
      have : c = b := by simpa using hk
      rw [← this]; omega
     | succ k =>
      have := d4 (k + 1) (by omega) hkl
      rw [Nat.zero_add] at this
      simp [List.getD, hk] at this
      exact this
    rcases hE b (fun h => by omega) with ⟨e1, _⟩ | ⟨e1, _⟩
    ·exact e1
    ·omega
   have hfu : (T.take (decodeL T).2).flatMap E = T.take (decodeL T).2 := by
    have : ∀ u : LB, (∀ b ∈ u, E b = [b]) → u.flatMap E = u := by
     intro u
     induction u with
     | nil => intro _; rfl
     | cons b u ih => intro h; rw [List.flatMap_cons, h b List.mem_cons_self, ih (fun d hd => h d (List.mem_cons_of_mem _ hd))]; rfl
    exact this _ hu
   have hsp : T.flatMap E = T.take (decodeL T).2 ++ (T.drop (decodeL T).2).flatMap E := by
    conv => lhs; rw [← List.take_append_drop (decodeL T).2 T]
    rw [List.flatMap_append, hfu]
   have hune : T.take (decodeL T).2 ≠ [] := fun h => by
    have := congrArg List.length h
    rw [List.length_take, List.length_nil] at this; omega
   have hdW : decodeL (W.drop pre.length) = decodeL T := by
    rw [hdrop, hsp, dec_app hune (by rw [dec_take h1 h2]; exact h2), dec_take h1 h2]
   have henc := enc_dec h1 h2
   have hr : 128 ≤ (decodeL T).1 := by
    rcases Nat.lt_or_ge (decodeL T).1 128 with hlt | hge
    ·exfalso
     rw [encR_1 _ hlt] at henc
     have h0 : (T.take (decodeL T).2)[0]? = some (UInt8.ofNat (decodeL T).1) := by rw [← henc]; rfl
     rw [List.getElem?_take_of_lt (by omega), ← hT] at h0
     have : c = UInt8.ofNat (decodeL (c :: t')).1 := by simpa using h0
     rw [this, hT, ofN (by omega)] at hc
     omega
    ·exact hge
   have hlt : pre.length < W.length := by
    have := congrArg List.length hdrop
    rw [hsp, List.length_drop, List.length_append, List.length_take] at this
    omega
   rw [iter_one (read_plain hlt hl hle (by rw [hdW]; exact h2) (by rw [hdW]; exact h3) (by rw [hdW]; omega) (by rw [hdW]; omega) (fun _ => by rw [hdW]; omega) hx), hdW, henc]
   have hlen : (T.take (decodeL T).2).length = (decodeL T).2 := by rw [List.length_take]; omega
   rw [show pre.length + (decodeL T).2 = (pre ++ T.take (decodeL T).2).length by rw [List.length_append, hlen]]
   have := ih W (pre ++ T.take (decodeL T).2) (l ++ T.take (decodeL T).2) m (by rw [hW, hsp]; simp) hl hg (by rw [List.length_append, List.length_append, hlen]; omega) (by rw [List.length_drop]; omega)
   rw [this, List.append_assoc, List.take_append_drop]
theorem read_back {E : UInt8 → LB} {v : Bool} (hE : Esc v E) {t : LB} (ht : OkT t) (hl : (t.flatMap E).length ≤ 1073741824) (htl : t.length ≤ 1073741824) (hg : v = false → (62 : UInt8) ∉ t.flatMap E) : F_refer_read (t.flatMap E) v = some (t, 0, 0) := by
 have := read_esc hE ht (t.flatMap E) [] [] FUEL rfl hl hg (by simp) (by unfold FUEL; omega)
 unfold F_refer_read
 simp only [letJ]
 rw [show (([] : LB).length : Int) = 0 from rfl, List.nil_append] at this
 rw [this]
 rfl
def escF (bs : LB) (rs : List LB) (c : UInt8) : LB := (bs.zip rs).foldl (fun t x => if c = x.1 then x.2 else t) [c]
theorem escF_len (bs : LB) (rs : List LB) (hr : ∀ r ∈ rs, r.length ≤ 8) (c : UInt8) : (escF bs rs c).length ≤ 8 := by
 unfold escF
 have : ∀ (l : List (UInt8 × LB)) (t : LB), (∀ x ∈ l, x.2.length ≤ 8) → t.length ≤ 8 → (l.foldl (fun t x => if c = x.1 then x.2 else t) t).length ≤ 8 := by
  intro l
  induction l with
  | nil => intro t _ h; exact h
  | cons x l ih =>
   intro t hl h
   rw [List.foldl_cons]
   refine ih _ (fun y hy => hl y (List.mem_cons_of_mem _ hy)) ?_
   split
   ·exact hl x List.mem_cons_self
   ·exact h
 exact this _ _ (fun x hx => hr _ (List.of_mem_zip hx).2) (by simp)
theorem flatMap_len {E : UInt8 → LB} (hE : ∀ c, (E c).length ≤ 8) : ∀ t : LB, (t.flatMap E).length ≤ 8 * t.length
 | [] => by simp
 | c :: t => by
  have := hE c
  have := flatMap_len hE t
  rw [List.flatMap_cons, List.length_append, List.length_cons]; omega
theorem slc_one {p : LB} {i : Nat} (hi : i < p.length) : slc p (i : Int) ((i + 1 : Nat) : Int) = some [p[i]] := by
 unfold slc
 rw [if_pos (by omega), Int.toNat_natCast, Int.toNat_natCast, show i + 1 - i = 1 by omega, drop_ne hi]
 rfl
theorem cat_some {a b : LB} (h : a.length + b.length ≤ 9223372036854775807) : cat a b = some (a ++ b) := by unfold cat; rw [if_pos h]
theorem written_eq (p bs : LB) (rs : List LB) (hp : p.length ≤ 134217728) (hb : bs.length ≤ 6) (hl : rs.length = 6) (hr : ∀ r ∈ rs, r.length ≤ 8) : F_lecternref02_written p bs rs = some (p.flatMap (escF bs rs)) := by
 have inner : ∀ (i : Nat) (hi : i < p.length), iter (F_lecternref02_written_l1 p bs rs (i : Int)) FUEL ([p[i]], (0 : Int)) = some (escF bs rs p[i]) := by
  intro i hi
  have hz : (bs.zip rs).length = bs.length := by rw [List.length_zip]; omega
  obtain ⟨o, e1, e2⟩ := iter_spec (b := F_lecternref02_written_l1 p bs rs (i : Int)) (fun k x => x = (((bs.zip rs).take k).foldl (fun t x => if p[i] = x.1 then x.2 else t) [p[i]], (k : Int))) (fun o => o = escF bs rs p[i]) bs.length (x0 := ([p[i]], (0 : Int))) (by simp) (by
   rintro k _ rec hk rfl
   left
   refine ⟨_, ?_, rfl⟩
   unfold F_lecternref02_written_l1
   simp only [letJ]
   have hk2 : k < rs.length := by omega
   rw [dT (by omega), cT, idx_some hi, bS, idx_some hk, bS, w64 (by omega) (by omega)]
   have hzk : (bs.zip rs)[k]? = some (bs[k], rs[k]) := by rw [List.getElem?_eq_getElem (by omega)]; simp
   rw [List.take_add_one, hzk, Option.toList_some, List.foldl_append, List.foldl_cons, List.foldl_nil]
   have hN : idxN 6 rs (k : Int) = some rs[k] := by unfold idxN; rw [if_pos (by omega), idx_some hk2]
   by_cases he : p[i] = bs[k]
   ·rw [if_pos he, he, beq_self_eq_true, cT, hN, bS]; rfl
   ·rw [if_neg he, show ((p[i].toNat : Int) == (bs[k].toNat : Int)) = false by rw [beq_eq_false_iff_ne]; intro h; exact he (UInt8.toNat_inj.1 (by omega)), cF]; rfl) (by
   rintro _ rec rfl
   refine ⟨_, ?_, rfl⟩
   unfold F_lecternref02_written_l1
   dsimp only
   rw [dF (by omega), cF, List.take_of_length_le (by omega)]
   rfl) (n := FUEL) (by unfold FUEL; omega)
  rw [e1, e2]
 obtain ⟨o, e1, e2⟩ := iter_spec (b := F_lecternref02_written_l0 p bs rs) (fun i x => x = ((p.take i).flatMap (escF bs rs), (i : Int))) (fun o => o = p.flatMap (escF bs rs)) p.length (x0 := (([] : LB), (0 : Int))) (by simp) (by
  rintro i _ rec hi rfl
  left
  refine ⟨_, ?_, rfl⟩
  unfold F_lecternref02_written_l0
  simp only [letJ]
  have h1 := flatMap_len (escF_len bs rs hr) (p.take i)
  have h2 := escF_len bs rs hr p[i]
  rw [List.length_take] at h1
  rw [dT (by omega), cT, w64 (by omega) (by omega), show (i : Int) + 1 = ((i + 1 : Nat) : Int) by omega, slc_one hi, bS, inner i hi, bS, cat_some (by omega), bS,
   List.take_add_one, List.getElem?_eq_getElem hi, Option.toList_some, List.flatMap_append, List.flatMap_singleton]) (by
  rintro _ rec rfl
  refine ⟨_, ?_, rfl⟩
  unfold F_lecternref02_written_l0
  dsimp only
  rw [dF (by omega), cF, List.take_length]) (n := FUEL) (by unfold FUEL; omega)
 unfold F_lecternref02_written
 simp only [letJ]
 rw [e1, bS, e2]
def txE (c : UInt8) : LB := if c = 38 then [38, 97, 109, 112, 59] else if c = 60 then [38, 108, 116, 59] else if c = 62 then [38, 103, 116, 59] else if c = 13 then [38, 35, 49, 51, 59] else [c]
def quE (c : UInt8) : LB := if c = 38 then [38, 97, 109, 112, 59] else if c = 60 then [38, 108, 116, 59] else if c = 34 then [38, 113, 117, 111, 116, 59] else if c = 9 then [38, 35, 57, 59] else if c = 10 then [38, 35, 49, 48, 59] else if c = 13 then [38, 35, 49, 51, 59] else [c]
def apE (c : UInt8) : LB := if c = 38 ∨ c = 60 ∨ c = 39 ∨ c.toNat < 32 then [38, 35, UInt8.ofNat (48 + c.toNat / 100), UInt8.ofNat (48 + c.toNat / 10 % 10), UInt8.ofNat (48 + c.toNat % 10), 59] else [c]
theorem text_w (p : LB) (hp : p.length ≤ 134217728) : F_lecternref02_Text p = some (p.flatMap txE) := by
 unfold F_lecternref02_Text
 rw [written_eq p _ _ hp (by decide) rfl (by decide), bS]
 have : escF ([38, 60, 62, 13] : LB) ([([38, 97, 109, 112, 59] : LB), ([38, 108, 116, 59] : LB), ([38, 103, 116, 59] : LB), ([38, 35, 49, 51, 59] : LB), ([] : LB), ([] : LB)] : List LB) = txE := by
  funext c
  have h : ∀ c : UInt8, decide (escF ([38, 60, 62, 13] : LB) ([([38, 97, 109, 112, 59] : LB), ([38, 108, 116, 59] : LB), ([38, 103, 116, 59] : LB), ([38, 35, 49, 51, 59] : LB), ([] : LB), ([] : LB)] : List LB) c = txE c) = true := all_u8 (by decide +kernel)
  exact of_decide_eq_true (h c)
 rw [this]
theorem esc_tx : Esc false txE := by
 intro c hc
 by_cases h1 : c = 38
 ·subst h1; exact .inr ⟨by decide, [97, 109, 112], rfl, by decide, by decide, by kernel_rfl⟩
 by_cases h2 : c = 60
 ·subst h2; exact .inr ⟨by decide, [108, 116], rfl, by decide, by decide, by kernel_rfl⟩
 by_cases h3 : c = 62
 ·subst h3; exact .inr ⟨by decide, [103, 116], rfl, by decide, by decide, by kernel_rfl⟩
 by_cases h4 : c = 13
 ·subst h4; exact .inr ⟨by decide, [35, 49, 51], rfl, by decide, by decide, by kernel_rfl⟩
 ·exact .inl ⟨by unfold txE; rw [if_neg h1, if_neg h2, if_neg h3, if_neg h4], h2, h1, fun h => (by cases h), fun _ => h3⟩

def NameAt (x : LB) : Prop := ∃ (U : LB) (i : Nat) (c : UInt8) (y : LB) (s : TS), U.length ≤ 65536 ∧ U.drop i = x ++ c :: y ∧ c.toNat < 128 ∧ F_scan_scanner_name ⟨U, (i : Int)⟩ = some ((x, 0), s) ∧ OkT x ∧ (13 : UInt8) ∉ x
def PairsOk (ps : List TP) : Prop := ∀ p ∈ ps, NameAt p.Name ∧ OkT p.Value ∧ p.Value.length ≤ 262144
structure QW (q : UInt8) (E : UInt8 → LB) : Prop where
 hq : q = 34 ∨ q = 39
 esc : Esc true E
 no : ∀ c, q ∉ E c
 n13 : ∀ c, (13 : UInt8) ∉ E c
 ok : ∀ c, charP (c.toNat : Int) = true → c.toNat < 128 → OkT (E c)
 hi : ∀ c, 128 ≤ c.toNat → E c = [c]
 le : ∀ c, (E c).length ≤ 8
 ne : ∀ c, 1 ≤ (E c).length
theorem okT_asc : ∀ (w : LB), (∀ c ∈ w, c.toNat < 128 ∧ charP (c.toNat : Int) = true) → OkT w
 | [], _ => .nil
 | c :: w, h => okT_ascii c _ (h c List.mem_cons_self).1 (h c List.mem_cons_self).2 (okT_asc w fun d hd => h d (List.mem_cons_of_mem _ hd))
theorem not_mem_flat {E : UInt8 → LB} {q : UInt8} (h : ∀ c, q ∉ E c) (t : LB) : q ∉ t.flatMap E := fun hm => by
 obtain ⟨c, _, hc⟩ := List.mem_flatMap.1 hm
 exact h c hc
theorem okT_flat {E : UInt8 → LB} (hok : ∀ c, charP (c.toNat : Int) = true → c.toNat < 128 → OkT (E c)) (hhi : ∀ c, 128 ≤ c.toNat → E c = [c]) {t : LB} (ht : OkT t) : OkT (t.flatMap E) := by
 induction ht with
 | nil => exact .nil
 | @cons t h1 h2 h3 h4 ih =>
  cases t with
  | nil => exact absurd rfl h1
  | cons c t' =>
  by_cases hc : c.toNat < 128
  ·rw [dec_ascii c t' hc] at h3 ih
   rw [List.flatMap_cons]
   exact okT_app (hok c h3 hc) ih
  ·have hp := dec_pos h1
   obtain ⟨_, _, _, d4⟩ := dec_bytes (c :: t') 0 (by simp)
   rw [List.drop_zero] at d4
   have hone := okT_one h1 h2 h3
   generalize hT : c :: t' = T at *
   have hu : ∀ b ∈ T.take (decodeL T).2, E b = [b] := by
    intro b hb
    refine hhi b ?_
    obtain ⟨k, hk⟩ := List.mem_iff_getElem?.1 hb
    have hkl : k < (decodeL T).2 := by
     have := (List.getElem?_eq_some_iff.1 hk).1
     rw [List.length_take] at this; omega
    rw [List.getElem?_take_of_lt hkl] at hk
    cases k with
    | zero =>
     rw [← hT] at hk
     have : c = b := by simpa using hk
     rw [← this]; omega
    | succ k =>
     have := d4 (k + 1) (by omega) hkl
     rw [Nat.zero_add] at this
     simp [List.getD, hk] at this
     exact this
   have hfu : (T.take (decodeL T).2).flatMap E = T.take (decodeL T).2 := by
    have : ∀ u : LB, (∀ b ∈ u, E b = [b]) → u.flatMap E = u := by
     intro u
     induction u with
     | nil => intro _; rfl
     | cons b u ih => intro h; rw [List.flatMap_cons, h b List.mem_cons_self, ih (fun d hd => h d (List.mem_cons_of_mem _ hd))]; rfl
    exact this _ hu
   conv => rw [← List.take_append_drop (decodeL T).2 T]
   rw [List.flatMap_append, hfu]
   exact okT_app hone ih
def shP (q : UInt8) (E : UInt8 → LB) (ps : List TP) : LB := ps.flatMap fun p => 32 :: (p.Name ++ 61 :: q :: (p.Value.flatMap E ++ [q]))
theorem tag_l0_end2 {U : LB} (hU : U.length ≤ 1073741824) (At : Int) (Nm Tx : LB) (rf : Int) (m j : Nat) (ps : List TP) (y z : LB) (g2 : j ≤ U.length) (c0 : hereP U (sk wsP U j) [47, 62] = false) (c1 : hereP U (sk wsP U j) [62] = true) :
  iter F_scan_scanner_tag_l0 (m + 1) (U, (j : Int), (2 : Int), At, Nm, ps, Tx, rf, y, z) = some (0, ⟨U, ((sk wsP U j + 1 : Nat) : Int)⟩, ⟨2, At, Nm, ps, Tx, rf⟩) := by
 rw [show iter F_scan_scanner_tag_l0 (m + 1) (U, (j : Int), (2 : Int), At, Nm, ps, Tx, rf, y, z) = F_scan_scanner_tag_l0 (iter F_scan_scanner_tag_l0 m) (U, (j : Int), (2 : Int), At, Nm, ps, Tx, rf, y, z) from rfl]
 generalize hI : iter F_scan_scanner_tag_l0 m = I
 unfold F_scan_scanner_tag_l0
 dsimp only
 obtain ⟨s1, s2⟩ := sk_le wsP U j g2
 rw [spaces_eq U (j : Int) j g2 hU, bS, here_eq U _ _ s2, bS, c0, cF, here_eq U _ _ s2, bS, c1, cT, sign_eq U _ _ s2 hU, c1, if_pos rfl, bS]
 rfl
def First (x w : LB) : Prop := ∀ R, Lib.index (x ++ (w ++ R)) w = (x.length : Int)
theorem upTo_read {U : LB} (hU : U.length ≤ 1073741824) {i k : Nat} {t : Tk} {x w R : LB} (hw : w ≠ []) (hwl : w.length ≤ 100) (e : U.drop (i + k) = x ++ (w ++ R)) (hf : First x w) :
  F_scan_scanner_upTo ⟨U, (i : Int)⟩ t (k : Int) w = some (0, ⟨U, ((i + k + x.length + w.length : Nat) : Int)⟩, ⟨t.Kind, t.At, t.Name, t.Pairs, x, t.Refs⟩) := by
 have hl := congrArg List.length e
 have hwp : 0 < w.length := List.length_pos_iff.2 hw
 rw [List.length_drop, List.length_append, List.length_append] at hl
 unfold F_scan_scanner_upTo
 dsimp only
 rw [w64 (x := (i : Int) + (k : Int)) (by omega) (by omega), show (i : Int) + (k : Int) = ((i + k : Nat) : Int) by omega, slc_drop (by omega), bS]
 unfold L_bIndex
 rw [if_pos ⟨by rw [List.length_drop]; omega, by omega, hw⟩, bS, e, hf R, dF (by omega), cF, slc_take0 (by rw [List.length_append]; omega), bS, List.take_left, w64 (x := (k : Int) + (x.length : Int)) (by omega) (by omega), w64 (x := (k : Int) + (x.length : Int) + (w.length : Int)) (by omega) (by omega), w64 (by omega) (by omega)]
 congr 3
 congr 1
 omega
theorem tx_facts : (∀ c, (60 : UInt8) ∉ txE c) ∧ (∀ c, (62 : UInt8) ∉ txE c) ∧ (∀ c, (13 : UInt8) ∉ txE c) ∧ (∀ c : UInt8, 128 ≤ c.toNat → txE c = [c]) ∧ (∀ c, 1 ≤ (txE c).length ∧ (txE c).length ≤ 8) ∧ ∀ c : UInt8, charP (c.toNat : Int) = true → c.toNat < 128 → OkT (txE c) := by
 have h : ∀ c : UInt8, (decide ((60 : UInt8) ∉ txE c) && (decide ((62 : UInt8) ∉ txE c) && (decide ((13 : UInt8) ∉ txE c) && (decide (128 ≤ c.toNat → txE c = [c]) && (decide (1 ≤ (txE c).length ∧ (txE c).length ≤ 8) && ((txE c).all fun d => decide (c.toNat < 128 ∧ charP (c.toNat : Int) = true → d.toNat < 128 ∧ charP (d.toNat : Int) = true))))))) = true := all_u8 (by decide +kernel)
 have g := fun c => h c
 simp only [Bool.and_eq_true, decide_eq_true_eq, List.all_eq_true] at g
 exact ⟨fun c => (g c).1, fun c => (g c).2.1, fun c => (g c).2.2.1, fun c => (g c).2.2.2.1, fun c => (g c).2.2.2.2.1, fun c hc h1 => okT_asc _ fun d hd => (g c).2.2.2.2.2 d hd ⟨h1, hc⟩⟩
theorem flat_ge {E : UInt8 → LB} (h : ∀ c, 1 ≤ (E c).length) : ∀ v : LB, v.length ≤ (v.flatMap E).length
 | [] => by simp
 | c :: v => by
  have := h c
  have := flat_ge h v
  rw [List.flatMap_cons, List.length_append, List.length_cons]; omega
theorem text_read {U : LB} (hU : U.length ≤ 65536) {i : Nat} {x R : LB} (h : U.drop i = x.flatMap txE ++ R) (hx : OkT x) (hne : x ≠ []) (hR : R = [] ∨ R[0]? = some 60) :
  ∃ n, F_scan_scanner_token ⟨U, (i : Int)⟩ (tok0 i) = some (0, ⟨U, ((i + (x.flatMap txE).length : Nat) : Int)⟩, ⟨5, (i : Int), [], [], x, n⟩) := by
 obtain ⟨t1, t2, t3, t4, t5, t6⟩ := tx_facts
 have hUb : U.length ≤ 1073741824 := by omega
 have hge := flat_ge (fun c => (t5 c).1) x
 have hpos : 0 < x.length := List.length_pos_iff.2 hne
 have hl := congrArg List.length h
 rw [List.length_drop, List.length_append] at hl
 have hat : TxtAt U i (i + (x.flatMap txE).length) := by
  refine ⟨by omega, by omega, fun k k1 k2 hk => ?_, ?_⟩
  ·have : (U.drop i)[k - i]? = some 60 := by rw [List.getElem?_drop, show i + (k - i) = k by omega]; exact hk
   rw [h, List.getElem?_append_left (by omega)] at this
   exact not_mem_flat t1 x (List.mem_of_getElem? this)
  ·rcases hR with rfl | hR
   ·left; rw [List.length_nil] at hl; omega
   ·right
    have : (U.drop i)[(x.flatMap txE).length]? = some 60 := by rw [h, List.getElem?_append_right (Nat.le_refl _), Nat.sub_self]; exact hR
    rwa [List.getElem?_drop] at this
 have h60 : U[i]? ≠ some 60 := hat.no i (Nat.le_refl _) hat.lt
 refine ⟨((Lib.countByte (x.flatMap txE) 38 : Nat) : Int), ?_⟩
 rw [token_text (by omega) hUb h60, text_mk hUb hat]
 unfold textR
 rw [Nat.add_sub_cancel_left, h, List.take_left]
 unfold F_refer_ReadText
 rw [read_back esc_tx hx (by omega) (by omega) (fun _ => not_mem_flat t2 x), bS, bS]
 rfl
def plB (b : UInt8) : Bool := ([65, 66, 67, 68, 69, 70, 71, 72, 73, 74, 75, 76, 77, 78, 79, 80, 81, 82, 83, 84, 85, 86, 87, 88, 89, 90, 97, 98, 99, 100, 101, 102, 103, 104, 105, 106, 107, 108, 109, 110, 111, 112, 113, 114, 115, 116, 117, 118, 119, 120, 121, 122, 48, 49, 50, 51, 52, 53, 54, 55, 56, 57, 46, 95, 45] : LB).contains b
inductive DOk : Nat → List TP → LB → LB → Prop
 | done {la} : DOk 3 [] la la
 | skip {k : Nat} {ps la la'} : k < 3 → 0 < k → DOk (k + 1) ps la la' → DOk k ps la la'
 | take {k : Nat} {w v ps la la'} : k < 3 → idx DeclW (k : Int) = some w → F_scan_fits w v = some true → v.length ≤ 65536 → DOk (k + 1) ps (if w = [101, 110, 99, 111, 100, 105, 110, 103] then v else la) la' → DOk k (⟨w, v⟩ :: ps) la la'
structure QP (q : UInt8) (E : UInt8 → LB) : Prop where
 w : QW q E
 pl : ∀ b, plB b = true → E b = [b]
abbrev utf8W : LB := [117, 116, 102, 45, 56]
def Good (t : Tk) : Prop :=
 (t.Kind = 1 ∧ t.Name = [] ∧ t.Text = [] ∧ ∃ la, DOk 0 t.Pairs [] la ∧ (la = [] ∨ F_strings_EqualFold la utf8W = some true)) ∨
 ((t.Kind = 2 ∨ t.Kind = 4) ∧ NameAt t.Name ∧ PairsOk t.Pairs ∧ (nmP t.Pairs).Nodup ∧ t.Text = []) ∨
 (t.Kind = 3 ∧ NameAt t.Name ∧ t.Pairs = [] ∧ t.Text = []) ∨
 (t.Kind = 5 ∧ t.Name = [] ∧ t.Pairs = [] ∧ OkT t.Text ∧ t.Text ≠ [] ∧ t.Text.length ≤ 262144) ∨
 (t.Kind = 6 ∧ t.Name = [] ∧ t.Pairs = [] ∧ First t.Text [93, 93, 62] ∧ OkT t.Text ∧ (13 : UInt8) ∉ t.Text ∧ t.Text.length ≤ 65536) ∨
 (t.Kind = 7 ∧ t.Name = [] ∧ t.Pairs = [] ∧ First t.Text [45, 45] ∧ OkT t.Text ∧ (13 : UInt8) ∉ t.Text ∧ t.Text.length ≤ 65536) ∨
 (t.Kind = 8 ∧ NameAt t.Name ∧ t.Pairs = [] ∧ nameP t.Name = true ∧ F_strings_EqualFold t.Name [120, 109, 108] = some false ∧ t.Text.length ≤ 65536 ∧ (t.Text = [] ∨ (First t.Text [63, 62] ∧ OkT t.Text ∧ (13 : UInt8) ∉ t.Text ∧ ∀ c x, t.Text = c :: x → wsP c = false)))
def shw (q : UInt8) (E : UInt8 → LB) (t : Tk) : LB :=
 if t.Kind = 1 then [60, 63, 120, 109, 108] ++ (shP q E t.Pairs ++ [63, 62])
 else if t.Kind = 2 then 60 :: (t.Name ++ (shP q E t.Pairs ++ [62]))
 else if t.Kind = 4 then 60 :: (t.Name ++ (shP q E t.Pairs ++ [47, 62]))
 else if t.Kind = 3 then 60 :: 47 :: (t.Name ++ [62])
 else if t.Kind = 5 then t.Text.flatMap txE
 else if t.Kind = 6 then [60, 33, 91, 67, 68, 65, 84, 65, 91] ++ (t.Text ++ [93, 93, 62])
 else if t.Kind = 7 then [60, 33, 45, 45] ++ (t.Text ++ [45, 45, 62])
 else if t.Text = [] then 60 :: 63 :: (t.Name ++ [63, 62])
 else 60 :: 63 :: (t.Name ++ 32 :: (t.Text ++ [63, 62]))
theorem here_pre {U r w : LB} {i : Nat} (h : U.drop i = w ++ r) : hereP U i w = true := by
 unfold hereP; rw [h, List.isPrefixOf_iff_prefix]; exact ⟨r, rfl⟩
theorem here_no1 {U r : LB} {i : Nat} {c d : UInt8} (h : U.drop i = c :: d :: r) (a e : UInt8) (w : LB) (he : e ≠ d) : hereP U i (a :: e :: w) = false := by
 unfold hereP; rw [h]; simp [List.isPrefixOf, he]
theorem rest_tag {U r : LB} {i : Nat} {d : UInt8} (h : U.drop i = 60 :: d :: r) (h1 : d ≠ 33) (h2 : d ≠ 63) (h3 : d ≠ 47) : declP U i = false ∧ tokRest U i = F_scan_scanner_tag ⟨U, (i : Int)⟩ (tok0 i) := by
 have no := fun e w (he : e ≠ d) => here_no1 h 60 e w he
 constructor
 ·unfold declP
  by_cases h0 : i = 0
  ·subst h0; rw [no 63 _ (Ne.symm h2), Bool.false_and, Bool.and_false]
  ·rw [dF h0, Bool.false_and]
 ·unfold tokRest
  rw [no 33 _ (Ne.symm h1), cF, no 33 _ (Ne.symm h1), cF, no 33 _ (Ne.symm h1), cF, no 33 _ (Ne.symm h1), cF, no 63 _ (Ne.symm h2), cF, no 47 _ (Ne.symm h3), cF, here_pre (w := [60]) (r := d :: r) h, cT]
theorem decl_no {U r : LB} {i : Nat} {d : UInt8} (h : U.drop i = 60 :: d :: r) (hd : d ≠ 63) : declP U i = false := by
 unfold declP
 by_cases h0 : i = 0
 ·subst h0; rw [here_no1 h 60 63 _ (Ne.symm hd), Bool.false_and, Bool.and_false]
 ·rw [dF h0, Bool.false_and]
def qB (b : Bool) : UInt8 := if b then 39 else 34
def eB (b : Bool) : UInt8 → LB := if b then apE else quE
def allW (q : UInt8) (E : UInt8 → LB) (L : List Tk) : LB := L.flatMap (shw q E)
def Like (q : UInt8) (E : UInt8 → LB) (L M : List Tk) : Prop := M.length = L.length ∧ ∀ (k : Nat) (t : Tk), L[k]? = some t → ∃ n, M[k]? = some ⟨t.Kind, ((allW q E (L.take k)).length : Int), t.Name, t.Pairs, t.Text, n⟩
theorem awake_t : F_lecternlaw06_awake = some true := by kernel_rfl
abbrev Nd := T_api_Node
abbrev Op := T_parse_open
abbrev Rdr := T_parse_reader
def nd0 : Nd := ⟨0, ⟨[], []⟩, [], [], []⟩
def kid (b : Op) (n : Nd) : Op := ⟨⟨b.node.Kind, b.node.Name, b.node.Attrs, b.node.Kids ++ [n], b.node.Text⟩, b.raw, b.in_⟩
theorem topU_len {α : Type} {a : α} {l : List α} {n : Nat} (hn : n = l.length + 1) (h : l.length ≤ 1073741824) : topU (a :: l) (IntKind.wrap .i64 ((n : Int) - 1)) = some (a, l) := by
 subst hn
 unfold topU
 rw [w64 (by omega) (by omega), if_pos (by simp)]
theorem top_len {α : Type} {a : α} {l : List α} (h : l.length ≤ 1073741824) : topU (a :: l) (IntKind.wrap .i64 (((a :: l).length : Int) - 1)) = some (a, l) := topU_len (by simp) h
theorem close_eq {a b : Op} {l : List Op} {n : Int} {d : Bool} (hl : l.length ≤ 1000000) (hk : b.node.Kids.length ≤ 1000000000) :
  F_parse_reader_close ⟨a :: b :: l, n, d⟩ = some ⟨kid b a.node :: l, n, d || decide (l.length = 0)⟩ := by
 unfold F_parse_reader_close
 dsimp only
 rw [top_len (by simp; omega), bS, bS]
 dsimp only
 rw [top_len (by omega), bS, app_some (by simp only [List.length_cons, List.length_nil]; omega) (by simp only [List.length_cons, List.length_nil]; omega), bS, bS]
 simp only [letJ]
 cases d with
 | true => rfl
 | false =>
  rw [cF]
  have : (((b :: l).length : Int) == 1) = decide (l.length = 0) := by
   rw [Bool.eq_iff_iff, beq_iff_eq, decide_eq_true_eq, List.length_cons]; omega
  rw [this]; rfl
theorem put_eq {b : Op} {l : List Op} {n : Int} {d : Bool} (x : Nd) (hl : l.length ≤ 1000000) (hk : b.node.Kids.length ≤ 1000000000) (h0 : 0 ≤ n) (h1 : n ≤ 1000000000) :
  F_parse_reader_put ⟨b :: l, n, d⟩ x = some (if 8192 < x.Text.length then (5, ⟨b :: l, n, d⟩) else (0, ⟨kid b x :: l, n + 1, d⟩)) := by
 unfold F_parse_reader_put
 dsimp only
 by_cases h : 8192 < x.Text.length
 ·rw [dT (by omega), cT, if_pos h]
 ·rw [dF (by omega), cF, if_neg h, top_len (by omega), bS, app_some (by simp only [List.length_cons, List.length_nil]; omega) (by simp only [List.length_cons, List.length_nil]; omega), bS, bS, w64 (by omega) (by omega)]
  rfl
def kidT (b : Op) (s : LB) : Op := match b.node.Kids.getLast? with
 | some x => ⟨⟨b.node.Kind, b.node.Name, b.node.Attrs, b.node.Kids.dropLast ++ [⟨x.Kind, x.Name, x.Attrs, x.Kids, x.Text ++ s⟩], b.node.Text⟩, b.raw, b.in_⟩
 | none => b
def lastT (b : Op) : Option LB := match b.node.Kids.getLast? with
 | some x => if x.Kind = 3 then some x.Text else none
 | none => none
def bigA (l : List T_api_Attr) : Bool := l.any fun a => decide (64 < l.length) || decide (8192 < a.Value.length)
theorem begin_l0 (r : Rdr) (x : List T_api_Attr × Int) (hx : x.1.length ≤ 1000000000) : iter (F_parse_reader_begin_l0 r x) FUEL (0 : Int) = some (if bigA x.1 then .inr (5, r) else .inl ()) := by
 obtain ⟨l, e⟩ := x
 dsimp only at hx ⊢
 obtain ⟨o, e1, e2⟩ := iter_spec (b := F_parse_reader_begin_l0 r (l, e)) (fun i x => x = (i : Int) ∧ ∀ j (hj : j < l.length), j < i → (decide (64 < l.length) || decide (8192 < l[j].Value.length)) = false) (fun o => o = (if bigA l then .inr (5, r) else .inl ())) l.length (x0 := (0 : Int)) ⟨rfl, fun j _ h => by omega⟩ (by
  rintro i _ rec hi ⟨rfl, hs⟩
  by_cases hb : (decide (64 < l.length) || decide (8192 < l[i].Value.length)) = true
  ·right
   have hbig : bigA l = true := List.any_eq_true.2 ⟨_, List.getElem_mem hi, hb⟩
   rw [hbig]
   refine ⟨.inr (5, r), ?_, rfl⟩
   unfold F_parse_reader_begin_l0
   dsimp only
   rw [dT (by omega), cT, idx_some hi, bS]
   have : (decide ((64 : Int) < (l.length : Int)) || decide ((8192 : Int) < (l[i].Value.length : Int))) = true := by
    rw [← hb]; congr 1 <;> (rw [decide_eq_decide]; omega)
   rw [this, cT]
  ·left
   replace hb := Bool.eq_false_iff.2 hb
   refine ⟨((i + 1 : Nat) : Int), ?_, rfl, fun j hj h => ?_⟩
   ·unfold F_parse_reader_begin_l0
    dsimp only
    rw [dT (by omega), cT, idx_some hi, bS]
    have : (decide ((64 : Int) < (l.length : Int)) || decide ((8192 : Int) < (l[i].Value.length : Int))) = false := by
     rw [← hb]; congr 1 <;> (rw [decide_eq_decide]; omega)
    rw [this, cF, w64 (by omega) (by omega)]
    rfl
   ·rcases Nat.lt_or_ge j i with h1 | h1
    ·exact hs j hj h1
    ·have : j = i := by omega
     subst this; exact hb) (by
  rintro _ rec ⟨rfl, hs⟩
  have hbig : bigA l = false := by
   refine Bool.eq_false_iff.2 fun h => ?_
   obtain ⟨a, ha, hb⟩ := List.any_eq_true.1 h
   obtain ⟨j, hj, rfl⟩ := List.getElem_of_mem ha
   exact absurd hb (by rw [hs j hj hj]; simp)
  rw [hbig]
  refine ⟨.inl (), ?_, rfl⟩
  unfold F_parse_reader_begin_l0
  dsimp only
  rw [dF (by omega), cF]) (n := FUEL) (by unfold FUEL; omega)
 rw [e1, e2]
def beginP (a : Op) (l : List Op) (n : Int) (d : Bool) (t : Tk) : Option (Int × Rdr) :=
 if l.length = 0 ∧ d = true then some (30, ⟨a :: l, n, d⟩)
 else if 32 < l.length then some (31, ⟨a :: l, n, d⟩)
 else (F_scope_Scope_Open a.in_ t.Pairs).bind fun o => if o.2 ≠ 0 then some (o.2, ⟨a :: l, n, d⟩)
  else (F_scope_Scope_Element ⟨o.1.binds⟩ t.Name).bind fun q => if q.2 ≠ 0 then some (q.2, ⟨a :: l, n, d⟩)
   else (F_scope_Scope_Attrs ⟨o.1.binds⟩ t.Pairs).bind fun v => if v.2 ≠ 0 then some (v.2, ⟨a :: l, n, d⟩)
    else if bigA v.1 = true then some (5, ⟨a :: l, n, d⟩) else if v.1.length ≤ 1000000000 then some (0, ⟨⟨⟨2, q.1, v.1, [], []⟩, t.Name, ⟨o.1.binds⟩⟩ :: a :: l, n + 1, d⟩) else F_parse_reader_begin ⟨a :: l, n, d⟩ t
theorem begin_eq {a : Op} {l : List Op} {n : Int} {d : Bool} (t : Tk) (hl : l.length ≤ 1000000) (h0 : 0 ≤ n) (h1 : n ≤ 1000000000) (hv : ∀ s v, F_scope_Scope_Attrs s t.Pairs = some v → v.1.length ≤ 1000000000) :
  F_parse_reader_begin ⟨a :: l, n, d⟩ t = beginP a l n d t := by
 unfold beginP
 by_cases c1 : l.length = 0 ∧ d = true
 ·rw [if_pos c1]
  unfold F_parse_reader_begin
  simp only [letJ]
  rw [show (((a :: l).length : Int) == 1) = true by simp; omega, cT, c1.2, cT]
 rw [if_neg c1]
 have key : F_parse_reader_begin ⟨a :: l, n, d⟩ t = (cond (decide ((32 : Int) < (l.length : Int))) (some ((31 : Int), (⟨a :: l, n, d⟩ : Rdr)))
   ((F_scope_Scope_Open a.in_ t.Pairs).bind fun o => cond (o.2 != (0 : Int)) (some (o.2, ⟨a :: l, n, d⟩))
    ((F_scope_Scope_Element ⟨o.1.binds⟩ t.Name).bind fun q => cond (q.2 != (0 : Int)) (some (q.2, ⟨a :: l, n, d⟩))
     ((F_scope_Scope_Attrs ⟨o.1.binds⟩ t.Pairs).bind fun v => cond (v.2 != (0 : Int)) (some (v.2, ⟨a :: l, n, d⟩))
      ((iter (F_parse_reader_begin_l0 ⟨a :: l, n, d⟩ v) FUEL (0 : Int)).bind fun w => match w with
       | .inl _ => (app 144 (a :: l) [(⟨⟨2, q.1, v.1, [], []⟩, t.Name, ⟨o.1.binds⟩⟩ : Op)]).bind fun _ => some ((0 : Int), (⟨⟨⟨2, q.1, v.1, [], []⟩, t.Name, ⟨o.1.binds⟩⟩ :: a :: l, IntKind.wrap .i64 (n + 1), d⟩ : Rdr))
       | .inr x => some x))))) := by
  unfold F_parse_reader_begin
  simp only [letJ]
  have e1 : (IntKind.wrap .i64 (((a :: l).length : Int) - 1)) = (l.length : Int) := by
   rw [List.length_cons, w64 (by omega) (by omega)]; omega
  have e2 : (cond (((a :: l).length : Int) == 1) d false) = false := by
   cases d with
   | false => cases (((a :: l).length : Int) == 1) <;> rfl
   | true =>
    have : (((a :: l).length : Int) == 1) = false := by
     refine Bool.eq_false_iff.2 fun h => c1 ⟨?_, rfl⟩
     simp at h; omega
    rw [this]; rfl
  cases hc : (((a :: l).length : Int) == 1) with
  | true =>
   rw [hc] at e2
   rw [cT] at e2 ⊢
   subst e2
   rw [cF, top_len (by omega), bS, e1]; rfl
  | false => rw [cF, cF, top_len (by omega), bS, e1]; rfl
 rw [key]
 by_cases c2 : 32 < l.length
 ·rw [if_pos c2, dT (by omega), cT]
 rw [if_neg c2, dF (by omega), cF]
 cases F_scope_Scope_Open a.in_ t.Pairs with
 | none => rfl
 | some o =>
  rw [bS, bS]
  by_cases c3 : o.2 = 0
  case neg => rw [if_pos c3, show (o.2 != 0) = true by simpa using c3, cT]
  rw [if_neg (by simpa using c3), show (o.2 != 0) = false by simpa using c3, cF]
  cases F_scope_Scope_Element ⟨o.1.binds⟩ t.Name with
  | none => rfl
  | some q =>
   rw [bS, bS]
   by_cases c4 : q.2 = 0
   case neg => rw [if_pos c4, show (q.2 != 0) = true by simpa using c4, cT]
   rw [if_neg (by simpa using c4), show (q.2 != 0) = false by simpa using c4, cF]
   cases hA : F_scope_Scope_Attrs ⟨o.1.binds⟩ t.Pairs with
   | none => rfl
   | some v =>
    have hv' := hv _ _ hA
    rw [bS, bS]
    by_cases c5 : v.2 = 0
    case neg => rw [if_pos c5, show (v.2 != 0) = true by simpa using c5, cT]
    rw [if_neg (by simpa using c5), show (v.2 != 0) = false by simpa using c5, cF, begin_l0 _ _ hv', bS]
    cases hb : bigA v.1 with
    | true => rfl
    | false =>
     rw [if_pos hv']
     show (app 144 (a :: l) _).bind _ = _
     rw [app_some (by simp only [List.length_cons, List.length_nil]; omega) (by simp only [List.length_cons, List.length_nil]; omega), bS, w64 (by omega) (by omega)]
     rfl
inductive Row : List Tk → Prop
 | nil : Row []
 | snoc {L : List Tk} {t : Tk} : Row L → Good t → (t.Kind = 1 → L = []) → (t.Kind = 5 → ∀ u, L.getLast? = some u → u.Kind ≠ 5) → Row (L ++ [t])
theorem no_mark {w : LB} {c : UInt8} {r : LB} (h : w = c :: r) (hc : c ≠ 239) : strip w = w := by
 subst h
 unfold strip
 rw [if_neg (by intro h; simp only [bom, List.isPrefixOf, Bool.and_eq_true, beq_iff_eq] at h; exact hc h.1.symm)]
theorem pln_id {w : LB} {c : UInt8} {r : LB} (h : w = c :: r) (hc : c ≠ 239) (h13 : (13 : UInt8) ∉ w) : pln w = w := by
 unfold pln; rw [no_mark h hc, lnR_id _ h13]
def runR : List Tk → Rdr → Option (Rdr ⊕ (Int × Int))
 | [], r => some (.inl r)
 | t :: L, r => (F_parse_reader_take r t).bind fun x => if x.1 ≠ 0 then some (.inr (t.At, x.1)) else runR L x.2
def r0 : Rdr := ⟨[⟨⟨1, ⟨[], []⟩, [], [], []⟩, [], ⟨[]⟩⟩], 0, false⟩
def endP (p : LB) (r : Rdr) : Option (Nd × Int × Int) :=
 cond (decide ((1 : Int) < (r.open_.length : Int))) ((F_scan_Plain p).bind fun x => some (nd0, (x.length : Int), 26))
  (cond (!r.done) ((F_scan_Plain p).bind fun x => some (nd0, (x.length : Int), 30)) ((topU r.open_ (0 : Int)).bind fun x => some (x.1.node, 0, 0)))
theorem run_l0 (M : List Tk) (a e : Int) (hM : M.length ≤ 1073741824) : ∀ (L L0 : List Tk) (r : Rdr) (m : Nat), M = L0 ++ L → L.length < m →
  iter (F_parse_Parse_l0 (M, a, e)) m ((0 : Int), ([] : LB), ([] : LB), ([] : List T_api_Attr), ([] : List T_api_Node), ([] : LB), r.open_, r.nodes, r.done, (L0.length : Int)) =
   (runR L r).bind fun o => match o with
    | .inl r' => some (.inl ((0 : Int), ([] : LB), ([] : LB), ([] : List T_api_Attr), ([] : List T_api_Node), ([] : LB), r'.open_, r'.nodes, r'.done))
    | .inr (x, y) => some (.inr (nd0, x, y))
 | [], L0, r, m + 1, h, hm => by
  subst h
  rw [List.append_nil]
  show F_parse_Parse_l0 _ _ _ = _
  unfold F_parse_Parse_l0
  dsimp only
  rw [dF (by omega), cF]; rfl
 | t :: L, L0, r, m + 1, h, hm => by
  have hlt : L0.length < M.length := by rw [h]; simp
  have hg : M[L0.length] = t := by subst h; simp
  have ih := run_l0 M a e hM L (L0 ++ [t])
  show F_parse_Parse_l0 _ _ _ = _
  unfold F_parse_Parse_l0
  dsimp only
  rw [dT (by omega), cT, idx_some hlt, bS, hg]
  unfold runR
  have er : (⟨r.open_, r.nodes, r.done⟩ : Rdr) = r := rfl
  rw [er]
  cases ht : F_parse_reader_take r t with
  | none => rfl
  | some x =>
   rw [bS, bS]
   by_cases hx : x.1 = 0
   ·rw [show (x.1 != (0 : Int)) = false by simpa using hx, cF, if_neg (by simpa using hx), w64 (by omega) (by omega)]
    have := ih x.2 m (by rw [h]; simp) (by simp at hm; omega)
    rw [List.length_append, List.length_singleton, Int.natCast_add] at this
    exact this
   ·rw [show (x.1 != (0 : Int)) = true by simpa using hx, cT, if_pos hx]; rfl
 | [], _, _, 0, _, hm => by omega
 | _ :: _, _, _, 0, _, hm => by omega
theorem parse_eq {p : LB} {M : List Tk} {a : Int} (h : F_scan_All p = some (M, a, 0)) (hM : M.length ≤ 1073741824) :
  F_parse_Parse p = (runR M r0).bind fun o => match o with
   | .inl r => endP p r
   | .inr (x, y) => some (nd0, x, y) := by
 unfold F_parse_Parse
 rw [h, bS]
 dsimp only
 rw [show ((0 : Int) != 0) = false from rfl, cF, show F_scope_New = some ⟨[]⟩ from rfl, bS]
 have := run_l0 M a 0 hM M [] r0 FUEL rfl (by unfold FUEL; omega)
 simp only [letJ]
 rw [show ((([] : List Tk).length : Nat) : Int) = 0 from rfl] at this
 have e0 : r0.open_ = [(⟨(⟨(1 : Int), (⟨([] : LB), ([] : LB)⟩ : T_api_Name), ([] : List T_api_Attr), ([] : List T_api_Node), ([] : LB)⟩ : T_api_Node), ([] : LB), (⟨[]⟩ : T_scope_Scope)⟩ : T_parse_open)] := rfl
 have e1 : r0.nodes = 0 := rfl
 have e2 : r0.done = false := rfl
 rw [e0, e1, e2] at this
 rw [this]
 cases runR M r0 with
 | none => rfl
 | some o =>
  rw [bS, bS]
  cases o with
  | inl r => rfl
  | inr x => rfl
def fin (x : Int × Rdr) : Int × Rdr := if x.1 = 0 ∧ 2000 < x.2.nodes then (5, x.2) else x
theorem fin_eq (x : Int × Rdr) : (letJ (fun v : Bool => cond v (some ((5 : Int), x.2)) (some (x.1, x.2))) fun J => cond (x.1 == (0 : Int)) (J (decide ((2000 : Int) < x.2.nodes))) (J false)) = some (fin x) := by
 obtain ⟨e, r⟩ := x
 simp only [letJ, fin]
 by_cases he : e = 0
 ·subst he
  rw [beq_self_eq_true, cT]
  by_cases hn : 2000 < r.nodes
  ·rw [dT hn, cT, if_pos ⟨rfl, hn⟩]
  ·rw [dF hn, cF, if_neg (fun h => hn h.2)]
 ·rw [show (e == 0) = false by simpa using he, cF, cF, if_neg (fun h => he h.1)]
section
variable {r : Rdr} {t : Tk}
theorem take_2 (h : t.Kind = 2) : F_parse_reader_take r t = (F_parse_reader_begin r t).bind fun x => some (fin x) := by
 unfold F_parse_reader_take
 rw [h, show ((2 : Int) == 7) = false from rfl, show ((2 : Int) == 8) = false from rfl, show ((2 : Int) == 5) = false from rfl, show ((2 : Int) == 6) = false from rfl, beq_self_eq_true, cF, cF, cF, cF, cT]
 cases F_parse_reader_begin r t with
 | none => rfl
 | some x => exact fin_eq x
theorem take_3 (h : t.Kind = 3) : F_parse_reader_take r t = if r.open_.length = 1 then some (26, r) else (topU r.open_ (IntKind.wrap .i64 ((r.open_.length : Int) - 1))).bind fun v => if v.1.raw = t.Name then (F_parse_reader_close r).bind fun y => some (fin (0, y)) else some (26, r) := by
 unfold F_parse_reader_take
 rw [h, show ((3 : Int) == 7) = false from rfl, show ((3 : Int) == 8) = false from rfl, show ((3 : Int) == 5) = false from rfl, show ((3 : Int) == 6) = false from rfl, show ((3 : Int) == 2) = false from rfl, show ((3 : Int) == 4) = false from rfl, beq_self_eq_true, cF, cF, cF, cF, cF, cF, cT]
 by_cases h1 : r.open_.length = 1
 ·rw [if_pos h1, h1]; rfl
 ·rw [if_neg h1, show ((r.open_.length : Int) == 1) = false by rw [beq_eq_false_iff_ne]; omega, cF]
  cases topU r.open_ (IntKind.wrap .i64 ((r.open_.length : Int) - 1)) with
  | none => rfl
  | some v =>
   rw [bS, bS]
   by_cases hv : v.1.raw = t.Name
   ·rw [if_pos hv, show (v.1.raw == t.Name) = true by simpa using hv, Bool.not_true, cF]
    cases F_parse_reader_close r with
    | none => rfl
    | some y => exact fin_eq (0, y)
   ·rw [if_neg hv, show (v.1.raw == t.Name) = false by simpa using hv, Bool.not_false, cT]
theorem take_56 (h : t.Kind = 5 ∨ t.Kind = 6) : F_parse_reader_take r t = (F_parse_reader_text r t).bind fun x => some (fin x) := by
 unfold F_parse_reader_take
 rcases h with h | h
 ·rw [h, show ((5 : Int) == 7) = false from rfl, show ((5 : Int) == 8) = false from rfl, beq_self_eq_true, cF, cF, cT]
  cases F_parse_reader_text r t with
  | none => rfl
  | some x => exact fin_eq x
 ·rw [h, show ((6 : Int) == 7) = false from rfl, show ((6 : Int) == 8) = false from rfl, show ((6 : Int) == 5) = false from rfl, beq_self_eq_true, cF, cF, cF, cT]
  cases F_parse_reader_text r t with
  | none => rfl
  | some x => exact fin_eq x
end
def el (nm : LB) : Op := ⟨⟨2, ⟨[], nm⟩, [], [], []⟩, nm, ⟨[]⟩⟩
theorem open_nil : F_scope_Scope_Open ⟨[]⟩ [] = some (⟨[]⟩, 0) := by kernel_rfl
theorem attrs_nil : ∀ s, F_scope_Scope_Attrs s [] = some ([], 0) := fun s => by kernel_rfl
theorem begin_pl {a : Op} {l : List Op} {n : Int} {d : Bool} {t : Tk} {nm : LB} (ha : a.in_ = ⟨[]⟩) (hN : t.Name = nm) (hP : t.Pairs = []) (hE : F_scope_Scope_Element ⟨[]⟩ nm = some (⟨[], nm⟩, 0)) (hl : l.length ≤ 1000000) (h0 : 0 ≤ n) (h1 : n ≤ 1000000000) :
  F_parse_reader_begin ⟨a :: l, n, d⟩ t = some (if l.length = 0 ∧ d = true then (30, ⟨a :: l, n, d⟩) else if 32 < l.length then (31, ⟨a :: l, n, d⟩) else (0, ⟨el nm :: a :: l, n + 1, d⟩)) := by
 rw [begin_eq t hl h0 h1 (fun s v hv => by rw [hP, attrs_nil] at hv; rw [← Option.some.inj hv]; simp)]
 unfold beginP
 rw [ha, hP, hN, open_nil, bS]
 dsimp only
 rw [if_neg (show ¬ ((0 : Int) ≠ 0) by simp), hE, bS]
 dsimp only
 rw [if_neg (show ¬ ((0 : Int) ≠ 0) by simp), attrs_nil, bS]
 dsimp only
 rw [if_neg (show ¬ ((0 : Int) ≠ 0) by simp), if_neg (show ¬ (bigA [] = true) by simp [bigA]), if_pos (show ([] : List T_api_Attr).length ≤ 1000000000 by simp)]
 split
 ·rfl
 ·split <;> rfl
def doc0 : Op := ⟨⟨1, ⟨[], []⟩, [], [], []⟩, [], ⟨[]⟩⟩
def elA : Op := el [97]
theorem el_a : F_scope_Scope_Element ⟨[]⟩ [97] = some (⟨[], [97]⟩, 0) := by kernel_rfl
def opsA (k : Nat) : List Op := List.replicate k elA ++ [doc0]
theorem opsA_len (k : Nat) : (opsA k).length = k + 1 := by simp [opsA]
theorem opsA_cases (k : Nat) : ∃ a l, opsA k = a :: l ∧ a.in_ = ⟨[]⟩ ∧ l.length = k := by
 cases k with
 | zero => exact ⟨doc0, [], rfl, rfl, rfl⟩
 | succ k => exact ⟨elA, opsA k, rfl, rfl, opsA_len k⟩
theorem fin_ok {r : Rdr} (h : r.nodes ≤ 2000) : fin (0, r) = (0, r) := by unfold fin; rw [if_neg (fun h => by have := h.2; dsimp only at this; omega)]
def IsO (nm : LB) (k : Int) (t : Tk) : Prop := t.Kind = k ∧ t.Name = nm ∧ t.Pairs = []
theorem run_open : ∀ (ts rest : List Tk) (k : Nat), (∀ t ∈ ts, IsO [97] 2 t) → k ≤ 33 →
  (k + ts.length ≤ 33 → runR (ts ++ rest) ⟨opsA k, k, false⟩ = runR rest ⟨opsA (k + ts.length), ((k + ts.length : Nat) : Int), false⟩) ∧
  (33 < k + ts.length → ∃ x, runR (ts ++ rest) ⟨opsA k, k, false⟩ = some (.inr (x, 31)))
 | [], rest, k, _, hk => ⟨fun _ => rfl, fun h => by simp at h; omega⟩
 | t :: ts, rest, k, ht, hk => by
  obtain ⟨h1, h2, h3⟩ := ht t List.mem_cons_self
  obtain ⟨a, l, e1, e2, e3⟩ := opsA_cases k
  have hb := begin_pl (a := a) (l := l) (n := (k : Int)) (d := false) (t := t) e2 h2 h3 el_a (by omega) (by omega) (by omega)
  rw [if_neg (fun h => by simp at h)] at hb
  have ih := run_open ts rest (k + 1) (fun u hu => ht u (List.mem_cons_of_mem _ hu))
  have hst : runR (t :: ts ++ rest) ⟨opsA k, k, false⟩ = if 32 < k then some (.inr (t.At, 31)) else runR (ts ++ rest) ⟨opsA (k + 1), ((k + 1 : Nat) : Int), false⟩ := by
   show (F_parse_reader_take _ t).bind _ = _
   rw [take_2 h1, e1, hb, e3]
   by_cases hc : 32 < k
   ·rw [if_pos hc, if_pos hc]; rfl
   ·rw [if_neg hc, if_neg hc, bS]
    have : fin (0, (⟨el [97] :: a :: l, (k : Int) + 1, false⟩ : Rdr)) = (0, ⟨el [97] :: a :: l, (k : Int) + 1, false⟩) := by
     unfold fin; rw [if_neg (fun h => by have := h.2; dsimp only at this; omega)]
    rw [this, bS]
    show (if (0 : Int) ≠ 0 then _ else _) = _
    rw [if_neg (by simp), ← e1]; rfl
  rw [List.length_cons]
  by_cases hc : 32 < k
  ·rw [if_pos hc] at hst
   exact ⟨fun h => by omega, fun _ => ⟨_, hst⟩⟩
  ·rw [if_neg hc] at hst
   rw [hst]
   obtain ⟨i1, i2⟩ := ih (by omega)
   have e4 : k + (ts.length + 1) = k + 1 + ts.length := by omega
   rw [e4]
   exact ⟨i1, i2⟩
def nst : Nat → Nd
 | 0 => ⟨2, ⟨[], [97]⟩, [], [], []⟩
 | j + 1 => ⟨2, ⟨[], [97]⟩, [], [nst j], []⟩
def addk (x : Nd) : List Op → List Op
 | [] => []
 | a :: l => kid a x :: l
def cs (n k : Nat) : List Op := match n - k with
 | 0 => opsA k
 | j + 1 => addk (nst j) (opsA k)
def kb (i : Nat) : Op := ⟨⟨2, ⟨[], [97]⟩, [], List.replicate i (el [98]).node, []⟩, [97], ⟨[]⟩⟩
def oA : Tk := ⟨2, 0, [97], [], [], 0⟩
def cA : Tk := ⟨3, 0, [97], [], [], 0⟩
def lB : Tk := ⟨4, 0, [98], [], [], 0⟩
theorem stop_ltr {c : UInt8} (h : (c.toNat : Int) ≠ 58 ∧ partP (c.toNat : Int) = true ∧ startP (c.toNat : Int) = true) : ∀ i k, stopN i k (c.toNat : Int) = false := fun i k => by
 unfold stopN; rw [h.2.1, h.2.2]; simp
theorem stop_sgn {d : UInt8} (h : (d.toNat : Int) ≠ 58 ∧ partP (d.toNat : Int) = false) : ∀ i k, stopN i k (d.toNat : Int) = true := fun i k => by
 unfold stopN; rw [h.2]; simp [h.1]
theorem name_one {U z : LB} {c d : UInt8} {i : Nat} (hU : U.length ≤ 1073741824) (e : U.drop i = c :: d :: z) (hc : c.toNat < 128) (hd : d.toNat < 128) (hc1 : ∀ i k, stopN i k (c.toNat : Int) = false) (hd1 : ∀ i k, stopN i k (d.toNat : Int) = true) (hs : F_char_Split [c] = some ([], [c], true)) :
  F_scan_scanner_name ⟨U, (i : Int)⟩ = some (([c], 0), ⟨U, ((i + 1 : Nat) : Int)⟩) := by
 have l1 := drop_lt e
 have e2 := drop_go1 e
 have l2 := drop_lt e2
 have hit : iter (F_scan_scanner_name_l0 ⟨U, (i : Int)⟩) FUEL (i : Int) = some ((i + 1 : Nat) : Int) := by
  obtain ⟨m, hm⟩ : ∃ m, FUEL = m + 2 := ⟨FUEL - 2, by unfold FUEL; omega⟩
  rw [hm, iter_succ, name_step U i i l1 hU, e, dec_ascii _ _ hc]
  dsimp only
  rw [hc1, cF, iter_succ, name_step U i (i + 1) l2 hU, e2, dec_ascii _ _ hd]
  dsimp only
  rw [hd1, cT]
 rw [name_eq U i (i + 1) hit (by omega) (by omega)]
 have ht : (U.drop i).take (i + 1 - i) = [c] := by rw [e, show i + 1 - i = 1 by omega]; rfl
 rw [ht, show ([c] == ([] : LB)) = false from rfl, cF, hs, bS]
 rfl
def ltr (c : UInt8) : Prop := c.toNat < 128 ∧ (∀ i k, stopN i k (c.toNat : Int) = false) ∧ F_char_Split [c] = some ([], [c], true) ∧ c ≠ 33 ∧ c ≠ 63 ∧ c ≠ 47
theorem ltr_a : ltr 97 := ⟨by decide, stop_ltr (by decide), by kernel_rfl, by decide, by decide, by decide⟩
theorem bindE (o : Option (Int × TS × TK)) : (o.bind fun x => some x) = o := by cases o <;> rfl
theorem tok_open {U R : LB} {c : UInt8} {i : Nat} (hU : U.length ≤ 1073741824) (g : ltr c) (h : U.drop i = 60 :: c :: 62 :: R) : F_scan_scanner_token ⟨U, (i : Int)⟩ (tok0 i) = some (0, ⟨U, ((i + 3 : Nat) : Int)⟩, ⟨2, i, [c], [], [], 0⟩) := by
 obtain ⟨g1, g2, g3, g4, g5, g6⟩ := g
 obtain ⟨r1, r2⟩ := rest_tag h g4 g5 g6
 have l0 := drop_lt h
 have h1 := drop_go1 h
 have h2 := drop_go1 h1
 have l2 := drop_lt h2
 rw [token_eq U i (by omega) hU, r1, cF, r2]
 unfold F_scan_scanner_tag
 dsimp only
 rw [w64 (x := (i : Int) + 1) (by omega) (by omega), show (i : Int) + 1 = ((i + 1 : Nat) : Int) by omega, name_one hU h1 g1 (by decide) g2 (stop_sgn (by decide)) g3, bS]
 dsimp only
 obtain ⟨m, hm⟩ : ∃ m, FUEL = m + 1 := ⟨FUEL - 1, by unfold FUEL; omega⟩
 have hs : sk wsP U (i + 1 + 1) = i + 1 + 1 := sk_pass [] (b := U) (c := 62) (y := R) h2 (by simp) (by decide)
 rw [show ((0 : Int) != 0) = false from rfl, cF, bindE, hm, tag_l0_end2 hU _ _ [] 0 m (i + 1 + 1) [] [] [] (by omega) (by rw [hs]; unfold hereP; rw [h2]; rfl) (by rw [hs]; unfold hereP; rw [h2]; rfl), hs]
theorem tok_close {U R : LB} {c : UInt8} {i : Nat} (hU : U.length ≤ 1073741824) (g : ltr c) (h : U.drop i = 60 :: 47 :: c :: 62 :: R) : F_scan_scanner_token ⟨U, (i : Int)⟩ (tok0 i) = some (0, ⟨U, ((i + 4 : Nat) : Int)⟩, ⟨3, i, [c], [], [], 0⟩) := by
 obtain ⟨g1, g2, g3, g4, g5, g6⟩ := g
 have no := fun e w (he : e ≠ 47) => here_no1 h 60 e w he
 have l0 := drop_lt h
 have h2 := drop_go1 (drop_go1 h)
 have h3 := drop_go1 h2
 have l3 := drop_lt h3
 have hs : sk wsP U (i + 1 + 1 + 1) = i + 1 + 1 + 1 := sk_pass [] (b := U) (c := 62) h3 (by simp) (by decide)
 rw [token_eq U i (by omega) hU, decl_no h (by decide), cF]
 unfold tokRest
 rw [no 33 _ (by decide), cF, no 33 _ (by decide), cF, no 33 _ (by decide), cF, no 33 _ (by decide), cF, no 63 _ (by decide), cF, here_pre (w := [60, 47]) (r := c :: 62 :: R) h, cT]
 unfold F_scan_scanner_closing
 dsimp only
 rw [w64 (x := (i : Int) + 2) (by omega) (by omega), show (i : Int) + 2 = ((i + 1 + 1 : Nat) : Int) by omega, name_one hU h2 g1 (by decide) g2 (stop_sgn (by decide)) g3, bS]
 dsimp only
 rw [show ((0 : Int) != 0) = false from rfl, cF, spaces_eq U _ _ (by omega) hU, bS, hs, sign_eq U _ _ (by omega) hU, if_pos (by rw [hereP_one, drop_get h3]; simp), bS]
 rfl
def Rel (L M : List Tk) : Prop := ∀ (k : Nat) (t : Tk), L[k]? = some t → ∃ u, M[k]? = some u ∧ IsO t.Name t.Kind u
def SA (w : LB) (n : Nat) : LB := (List.replicate n w).flatten
def wO : LB := [60, 97, 62]
def wC : LB := [60, 47, 97, 62]
def wL : LB := [60, 98, 47, 62]
theorem endP_one {w : LB} {a : Op} {n : Int} : endP w ⟨[a], n, true⟩ = some (a.node, 0, 0) := rfl
def txN (s : LB) : Nd := ⟨3, ⟨[], []⟩, [], [], s⟩
def setK (b : Op) (k : List Nd) : Op := ⟨⟨b.node.Kind, b.node.Name, b.node.Attrs, k, b.node.Text⟩, b.raw, b.in_⟩
theorem idx_end {α : Type} {k : List α} {x : α} (h : k.length ≤ 1000000000) : idx (k ++ [x]) (IntKind.wrap .i64 (((k ++ [x]).length : Int) - 1)) = some x ∧ (IntKind.wrap .i64 (((k ++ [x]).length : Int) - 1)).toNat = k.length ∧ ¬ IntKind.wrap .i64 (((k ++ [x]).length : Int) - 1) < 0 := by
 have e : IntKind.wrap .i64 (((k ++ [x]).length : Int) - 1) = (k.length : Int) := by
  rw [List.length_append, List.length_singleton, w64 (by omega) (by omega)]; omega
 rw [e]
 refine ⟨?_, Int.toNat_natCast _, by omega⟩
 rw [idx_some (by simp)]; simp
theorem text_nil {b c : Op} {l : List Op} {n : Int} {d : Bool} {t : Tk} (hl : l.length ≤ 1000000) (h : t.Text = []) : F_parse_reader_text ⟨b :: c :: l, n, d⟩ t = some (0, ⟨b :: c :: l, n, d⟩) := by
 unfold F_parse_reader_text
 dsimp only
 rw [show (((b :: c :: l).length : Int) == 1) = false by rw [beq_eq_false_iff_ne]; simp only [List.length_cons]; omega, cF, top_len (by simp only [List.length_cons]; omega), bS, h]
 rfl
theorem text_new {b c : Op} {l : List Op} {n : Int} {d : Bool} {t : Tk} (hl : l.length ≤ 100000) (hk : b.node.Kids.length ≤ 1000000000) (h0 : 0 ≤ n) (h1 : n ≤ 1000000000) (h : t.Text ≠ []) (hx : ∀ x, b.node.Kids.getLast? = some x → x.Kind ≠ 3) :
  F_parse_reader_text ⟨b :: c :: l, n, d⟩ t = some (if 8192 < t.Text.length then (5, ⟨b :: c :: l, n, d⟩) else (0, ⟨kid b (txN t.Text) :: c :: l, n + 1, d⟩)) := by
 have hp := put_eq (b := b) (l := c :: l) (n := n) (d := d) (txN t.Text) (by simp only [List.length_cons]; omega) hk h0 h1
 unfold F_parse_reader_text
 dsimp only
 rw [show (((b :: c :: l).length : Int) == 1) = false by rw [beq_eq_false_iff_ne]; simp only [List.length_cons]; omega, cF, top_len (by simp only [List.length_cons]; omega), bS,
  show (t.Text == ([] : LB)) = false by simpa using h, cF]
 simp only [letJ]
 have key : ((F_parse_reader_put ⟨b :: c :: l, n, d⟩ (⟨(3 : Int), (⟨([] : LB), ([] : LB)⟩ : T_api_Name), ([] : List T_api_Attr), ([] : List T_api_Node), t.Text⟩ : T_api_Node)).bind fun x26 => some (x26.1, x26.2)) = some (if 8192 < t.Text.length then (5, ⟨b :: c :: l, n, d⟩) else (0, ⟨kid b (txN t.Text) :: c :: l, n + 1, d⟩)) := by
  have hp' : F_parse_reader_put ⟨b :: c :: l, n, d⟩ (⟨(3 : Int), (⟨([] : LB), ([] : LB)⟩ : T_api_Name), ([] : List T_api_Attr), ([] : List T_api_Node), t.Text⟩ : T_api_Node) = _ := hp
  rw [hp']; rfl
 rcases List.eq_nil_or_concat b.node.Kids with hK | ⟨k, x, hK⟩
 ·rw [hK, show decide (IntKind.wrap .i64 ((([] : List Nd).length : Int) - 1) < 0) = true by decide, cT, cT]
  exact key
 ·rw [List.concat_eq_append] at hK
  have hkl : k.length ≤ 1000000000 := by rw [hK] at hk; simp at hk; omega
  obtain ⟨i1, i2, i3⟩ := idx_end (k := k) (x := x) hkl
  have hx3 := hx x (by rw [hK]; simp)
  rw [hK, dF i3, cF, i1, bS, show (x.Kind != (3 : Int)) = true by simpa using hx3, cT]
  exact key
theorem text_more {b c : Op} {l : List Op} {n : Int} {d : Bool} {t : Tk} {k : List Nd} {x : Nd} (hl : l.length ≤ 100000) (hk : k.length ≤ 100000000) (h : t.Text ≠ []) (hK : b.node.Kids = k ++ [x]) (h3 : x.Kind = 3) (hs : x.Text.length + t.Text.length ≤ 1000000000) :
  F_parse_reader_text ⟨b :: c :: l, n, d⟩ t = some (if 8192 < (x.Text ++ t.Text).length then 5 else 0, ⟨setK b (k ++ [⟨x.Kind, x.Name, x.Attrs, x.Kids, x.Text ++ t.Text⟩]) :: c :: l, n, d⟩) := by
 obtain ⟨i1, i2, i3⟩ := idx_end (k := k) (x := x) (by omega)
 unfold F_parse_reader_text
 dsimp only
 rw [show (((b :: c :: l).length : Int) == 1) = false by rw [beq_eq_false_iff_ne]; simp only [List.length_cons]; omega, cF, top_len (by simp only [List.length_cons]; omega), bS,
  show (t.Text == ([] : LB)) = false by simpa using h, cF]
 simp only [letJ]
 rw [hK, dF i3, cF, i1, bS, show (x.Kind != (3 : Int)) = false by simpa using h3, cF, bS, cat_some (by omega), bS, bS, bS, i2]
 have hset : (k ++ [x]).set k.length (⟨x.Kind, x.Name, x.Attrs, x.Kids, x.Text ++ t.Text⟩ : Nd) = k ++ [⟨x.Kind, x.Name, x.Attrs, x.Kids, x.Text ++ t.Text⟩] := by
  rw [List.set_append_right _ _ (Nat.le_refl _), Nat.sub_self]; rfl
 rw [hset]
 have hlen : ((k ++ [x]).length : Int) = ((k ++ [(⟨x.Kind, x.Name, x.Attrs, x.Kids, x.Text ++ t.Text⟩ : Nd)]).length : Int) := by simp
 rw [hlen, (idx_end (k := k) (by omega)).1, bS]
 dsimp only
 by_cases hb : 8192 < (x.Text ++ t.Text).length
 ·rw [dT (by omega), cT, if_pos hb]; rfl
 ·rw [dF (by omega), cF, if_neg hb]; rfl
structure Pie (w : LB) (t : Tk) : Prop where
 ok : OkT w
 n13 : (13 : UInt8) ∉ w
 ne : w ≠ []
 hd : t.Kind ≠ 5 → ∃ r, w = 60 :: r
 rd : ∀ {U R : LB} {i : Nat}, U.length ≤ 65536 → U.drop i = w ++ R → (t.Kind = 5 → R = [] ∨ R[0]? = some 60) → ∃ n, F_scan_scanner_token ⟨U, (i : Int)⟩ (tok0 i) = some (0, ⟨U, ((i + w.length : Nat) : Int)⟩, ⟨t.Kind, (i : Int), t.Name, t.Pairs, t.Text, n⟩)
inductive RowP : List (LB × Tk) → Prop
 | nil : RowP []
 | snoc {L : List (LB × Tk)} {w : LB} {t : Tk} : RowP L → Pie w t → (t.Kind = 5 → ∀ u, L.getLast? = some u → u.2.Kind ≠ 5) → RowP (L ++ [(w, t)])
def allP (L : List (LB × Tk)) : LB := L.flatMap (·.1)
theorem allP_snoc (L : List (LB × Tk)) (w : LB) (t : Tk) : allP (L ++ [(w, t)]) = allP L ++ w := by unfold allP; rw [List.flatMap_append]; simp
theorem allP_ok {L : List (LB × Tk)} (h : RowP L) : OkT (allP L) ∧ (13 : UInt8) ∉ allP L ∧ L.length ≤ (allP L).length := by
 induction h with
 | nil => exact ⟨.nil, by simp [allP], by simp⟩
 | snoc _ g _ ih =>
  rw [allP_snoc]
  have := List.length_pos_iff.2 g.ne
  exact ⟨okT_app ih.1 g.ok, by rw [List.mem_append, not_or]; exact ⟨ih.2.1, g.n13⟩, by rw [List.length_append, List.length_append, List.length_singleton]; omega⟩
def LikeP (L : List (LB × Tk)) (M : List Tk) : Prop := M.length = L.length ∧ ∀ (k : Nat) (x : LB × Tk), L[k]? = some x → ∃ n a, M[k]? = some ⟨x.2.Kind, a, x.2.Name, x.2.Pairs, x.2.Text, n⟩
theorem likeP_snoc {L : List (LB × Tk)} {M : List Tk} {w : LB} {t : Tk} {a n : Int} (h : LikeP L M) : LikeP (L ++ [(w, t)]) (M ++ [⟨t.Kind, a, t.Name, t.Pairs, t.Text, n⟩]) := by
 obtain ⟨m2, m3⟩ := h
 refine ⟨by simp [m2], fun k' x' hk' => ?_⟩
 by_cases hlt' : k' < L.length
 ·rw [List.getElem?_append_left hlt'] at hk'
  obtain ⟨n', a', hn'⟩ := m3 k' x' hk'
  exact ⟨n', a', by rw [List.getElem?_append_left (by omega), hn']⟩
 ·have hk2 : k' = L.length := by
   have := (List.getElem?_eq_some_iff.1 hk').1
   simp at this; omega
  subst hk2
  rw [List.getElem?_append_right (Nat.le_refl _), Nat.sub_self] at hk'
  have : (w, t) = x' := by simpa using hk'
  subst this
  refine ⟨n, a, ?_⟩
  rw [← m2, List.getElem?_append_right (Nat.le_refl _), Nat.sub_self]
  rfl
theorem run_pies {L : List (LB × Tk)} (h : RowP L) :
  ∀ (R : LB) (m : Nat), (∀ x, L.getLast? = some x → x.2.Kind = 5 → R = [] ∨ R[0]? = some 60) → (allP L ++ R).length ≤ 65536 → ∃ M, LikeP L M ∧
   iter F_scan_All_l0 (L.length + m) (allP L ++ R, (0 : Int), ([] : List Tk)) = iter F_scan_All_l0 m (allP L ++ R, ((allP L).length : Int), M) := by
 induction h with
 | nil => intro R m _ _; exact ⟨[], ⟨rfl, fun k t h => by simp at h⟩, by rw [List.length_nil, Nat.zero_add]; rfl⟩
 | @snoc L w t h1 g g3 ih =>
  intro R m hR hl
  have e2 : (allP (L ++ [(w, t)])).length = (allP L).length + w.length := by rw [allP_snoc, List.length_append]
  rw [allP_snoc, List.append_assoc] at hl ⊢
  obtain ⟨M, m1, m2⟩ := ih (w ++ R) (m + 1) (fun x hx hk0 => by
   right
   obtain ⟨r, hr⟩ := g.hd fun hk => g3 hk x hx hk0
   rw [hr]; rfl) hl
  have hU : (allP L ++ (w ++ R)).drop (allP L).length = w ++ R := List.drop_left
  obtain ⟨n, hn⟩ := g.rd hl hU (hR (w, t) (List.getLast?_concat ..))
  have hpos : 0 < w.length := List.length_pos_iff.2 g.ne
  have hlt : (allP L).length < (allP L ++ (w ++ R)).length := by simp only [List.length_append]; omega
  have hML : M.length ≤ 65536 := by rw [m1.1]; exact Nat.le_trans (Nat.le_trans (allP_ok h1).2.2 (Nat.le_of_lt hlt)) hl
  refine ⟨M ++ [⟨t.Kind, ((allP L).length : Int), t.Name, t.Pairs, t.Text, n⟩], likeP_snoc m1, ?_⟩
  rw [List.length_append, List.length_singleton, show L.length + 1 + m = L.length + (m + 1) by omega, m2, iter_one fun rec => all_step hML hlt hn rec, List.length_append]
theorem parseP {L : List (LB × Tk)} (h : RowP L) {w : LB} (hw : allP L = w) (h60 : w[0]? = some 60) (hl : w.length ≤ 65536) :
  ∃ M, LikeP L M ∧ F_scan_Plain w = some w ∧ F_parse_Parse w = (runR M r0).bind fun o => match o with
    | .inl r => endP w r
    | .inr (x, y) => some (nd0, x, y) := by
 subst hw
 obtain ⟨w1, w2, w3⟩ := allP_ok h
 have hp : pln (allP L) = allP L := by
  cases hc : allP L with
  | nil => rw [hc] at h60; simp at h60
  | cons c r =>
   rw [hc] at h60 w2
   have : c = 60 := by simpa using h60
   subst this
   exact pln_id rfl (by decide) w2
 obtain ⟨k, hk⟩ : ∃ k, FUEL = L.length + (k + 1) := ⟨FUEL - L.length - 1, by unfold FUEL; omega⟩
 obtain ⟨M, m1, m2⟩ := run_pies h [] (k + 1) (fun _ _ _ => .inl rfl) (by rw [List.append_nil]; exact hl)
 rw [List.append_nil] at m2
 have hM := m1.1
 refine ⟨M, m1, by rw [plain_eq _ (by omega), hp], parse_eq (a := 0) ?_ (by omega)⟩
 rw [all_eq _ hl, hp]
 have hfault : F_char_Fault (allP L) = some (0, 0) := by
  rcases fault_iff (allP L) (by omega) with ⟨hf, _⟩ | ⟨_, _, _, _, hno, _⟩
  ·exact hf
  ·exact absurd w1 hno
 rw [hfault, bS]
 show cond false _ _ = _
 rw [cF, hk, m2]
 exact all_end _ M _
theorem likeP_split {L1 L2 : List (LB × Tk)} {M : List Tk} (h : LikeP (L1 ++ L2) M) : ∃ A B, M = A ++ B ∧ LikeP L1 A ∧ LikeP L2 B := by
 obtain ⟨hl, h⟩ := h
 rw [List.length_append] at hl
 refine ⟨M.take L1.length, M.drop L1.length, (List.take_append_drop _ _).symm, ⟨by rw [List.length_take]; omega, fun k t hk => ?_⟩, ⟨by rw [List.length_drop]; omega, fun k t hk => ?_⟩⟩
 ·have hlt := (List.getElem?_eq_some_iff.1 hk).1
  obtain ⟨n, a, hu⟩ := h k t (by rw [List.getElem?_append_left hlt]; exact hk)
  exact ⟨n, a, by rw [List.getElem?_take, if_pos hlt]; exact hu⟩
 ·obtain ⟨n, a, hu⟩ := h (L1.length + k) t (by rw [List.getElem?_append_right (by omega), Nat.add_sub_cancel_left]; exact hk)
  exact ⟨n, a, by rw [List.getElem?_drop]; exact hu⟩
theorem likeP_one {x : LB × Tk} {A : List Tk} (h : LikeP [x] A) : ∃ n a, A = [⟨x.2.Kind, a, x.2.Name, x.2.Pairs, x.2.Text, n⟩] := by
 obtain ⟨hl, h⟩ := h
 obtain ⟨n, a, hu⟩ := h 0 x rfl
 cases A with
 | nil => simp at hu
 | cons t A =>
  have h0 : A = [] := List.length_eq_zero_iff.1 (by simpa using hl)
  subst h0
  exact ⟨n, a, by simpa using hu⟩
def eT (X : LB) : Op := setK elA (if X = [] then [] else [txN X])
def texts (L : List (LB × Tk)) : LB := L.flatMap fun x => x.2.Text
theorem run_texts : ∀ (L : List (LB × Tk)) (A rest : List Tk) (X : LB) (n : Int), LikeP L A → (∀ x ∈ L, x.2.Kind = 5 ∨ x.2.Kind = 6) → (X ++ texts L).length ≤ 8192 → 0 ≤ n → n + L.length ≤ 2000 →
  ∃ n', 0 ≤ n' ∧ n' ≤ 2000 ∧ runR (A ++ rest) ⟨[eT X, doc0], n, false⟩ = runR rest ⟨[eT (X ++ texts L), doc0], n', false⟩
 | [], A, rest, X, n, hA, _, _, h0, h1 => by
  have : A = [] := List.length_eq_zero_iff.1 hA.1
  subst this
  exact ⟨n, h0, by simp at h1; omega, by simp [texts]⟩
 | x :: L, A, rest, X, n, hA, hk, hX, h0, h1 => by
  obtain ⟨A1, A2, rfl, a1, a2⟩ := likeP_split (L1 := [x]) hA
  obtain ⟨m, a, rfl⟩ := likeP_one a1
  have hx := hk x List.mem_cons_self
  have ht : texts (x :: L) = x.2.Text ++ texts L := rfl
  rw [ht] at hX ⊢
  rw [List.length_cons] at h1
  simp only [List.length_append] at hX
  have ih := fun X' n' h2 h3 h4 => run_texts L A2 rest X' n' a2 (fun y hy => hk y (List.mem_cons_of_mem _ hy)) h2 h3 h4
  have hst : ∃ n', 0 ≤ n' ∧ n' ≤ n + 1 ∧ F_parse_reader_text ⟨[eT X, doc0], n, false⟩ ⟨x.2.Kind, a, x.2.Name, x.2.Pairs, x.2.Text, m⟩ = some (0, ⟨[eT (X ++ x.2.Text), doc0], n', false⟩) := by
   by_cases hT : x.2.Text = []
   ·have e := text_nil (b := eT X) (c := doc0) (l := []) (n := n) (d := false) (t := ⟨x.2.Kind, a, x.2.Name, x.2.Pairs, x.2.Text, m⟩) (by simp) hT
    exact ⟨n, h0, by omega, by rw [e, hT, List.append_nil]⟩
   ·by_cases hX0 : X = []
    ·refine ⟨n + 1, by omega, by omega, ?_⟩
     subst hX0
     rw [text_new (t := ⟨x.2.Kind, a, x.2.Name, x.2.Pairs, x.2.Text, m⟩) (by simp) (by simp [eT, setK]) h0 (by omega) hT (by simp [eT, setK])]
     rw [if_neg (by dsimp only; omega)]
     have : kid (eT []) (txN x.2.Text) = eT ([] ++ x.2.Text) := by
      unfold eT; rw [if_pos rfl, List.nil_append, if_neg hT]; rfl
     rw [this]
    ·refine ⟨n, h0, by omega, ?_⟩
     rw [text_more (t := ⟨x.2.Kind, a, x.2.Name, x.2.Pairs, x.2.Text, m⟩) (k := []) (x := txN X) (by simp) (by simp) hT (by unfold eT; rw [if_neg hX0]; rfl) rfl (by show X.length + x.2.Text.length ≤ _; omega), if_neg (by show ¬ 8192 < (X ++ x.2.Text).length; rw [List.length_append]; omega)]
     have : setK (eT X) ([] ++ [⟨(txN X).Kind, (txN X).Name, (txN X).Attrs, (txN X).Kids, (txN X).Text ++ x.2.Text⟩]) = eT (X ++ x.2.Text) := by
      unfold eT; rw [if_neg hX0, if_neg (by simp [hX0])]; rfl
     rw [this]
  obtain ⟨n1, q1, q2, q3⟩ := hst
  obtain ⟨n', p1, p2, p3⟩ := ih (X ++ x.2.Text) n1 (by rw [List.append_assoc]; simp only [List.length_append]; omega) q1 (by omega)
  refine ⟨n', p1, p2, ?_⟩
  show (F_parse_reader_take _ _).bind _ = _
  rw [take_56 (t := ⟨x.2.Kind, a, x.2.Name, x.2.Pairs, x.2.Text, m⟩) hx, q3, bS, fin_ok (by dsimp only; omega), bS]
  dsimp only
  rw [if_neg (by simp)]
  show runR (A2 ++ rest) _ = _
  rw [p3, List.append_assoc]
theorem parse_texts {L : List (LB × Tk)} (h : RowP ([(wO, oA)] ++ (L ++ [(wC, cA)]))) (hk : ∀ x ∈ L, x.2.Kind = 5 ∨ x.2.Kind = 6) {s : LB} (hs : texts L = s) (h0 : s ≠ []) (hl : s.length ≤ 8192) (hL : L.length ≤ 1000)
  (hw : (wO ++ (allP L ++ wC)).length ≤ 65536) : ∃ r, F_parse_Parse (wO ++ (allP L ++ wC)) = some r ∧ r.2.2 = 0 ∧ ∃ y, r.1.Kids = [y] ∧ y.Kids = [txN s] := by
 have hall : allP ([(wO, oA)] ++ (L ++ [(wC, cA)])) = wO ++ (allP L ++ wC) := by
  unfold allP; rw [List.flatMap_append, List.flatMap_append]; simp
 obtain ⟨M, m1, m2, m3⟩ := parseP h hall rfl hw
 obtain ⟨A, B, rfl, a1, b1⟩ := likeP_split m1
 obtain ⟨C, D, rfl, c1, d1⟩ := likeP_split b1
 obtain ⟨na, aa, rfl⟩ := likeP_one a1
 obtain ⟨nd, ad, rfl⟩ := likeP_one d1
 have hA : ∀ t ∈ [(⟨oA.Kind, aa, oA.Name, oA.Pairs, oA.Text, na⟩ : Tk)], IsO [97] 2 t := fun t ht => by rw [List.mem_singleton.1 ht]; exact ⟨rfl, rfl, rfl⟩
 obtain ⟨o1, _⟩ := run_open _ (C ++ [(⟨cA.Kind, ad, cA.Name, cA.Pairs, cA.Text, nd⟩ : Tk)]) 0 hA (by omega)
 have hr0 : r0 = ⟨opsA 0, ((0 : Nat) : Int), false⟩ := rfl
 rw [hr0, o1 (by simp)] at m3
 obtain ⟨n', p1, p2, p3⟩ := run_texts L C [(⟨cA.Kind, ad, cA.Name, cA.Pairs, cA.Text, nd⟩ : Tk)] [] 1 c1 hk (by rw [hs]; exact hl) (by omega) (by omega)
 rw [hs, List.nil_append] at p3
 have hst : (⟨opsA (0 + 1), ((0 + 1 : Nat) : Int), false⟩ : Rdr) = ⟨[eT [], doc0], 1, false⟩ := rfl
 rw [List.length_singleton, hst, p3] at m3
 have hlast : runR [(⟨cA.Kind, ad, cA.Name, cA.Pairs, cA.Text, nd⟩ : Tk)] ⟨[eT s, doc0], n', false⟩ = some (.inl ⟨[kid doc0 (eT s).node], n', true⟩) := by
  show (F_parse_reader_take _ _).bind _ = _
  rw [take_3 rfl]
  dsimp only
  rw [if_neg (by simp), top_len (by simp), bS, if_pos (show (eT s).raw = cA.Name from rfl), close_eq (by simp) (by simp [doc0]), bS, fin_ok (by dsimp only; omega), bS]
  rfl
 rw [hlast] at m3
 have m5 : F_parse_Parse (wO ++ (allP L ++ wC)) = endP (wO ++ (allP L ++ wC)) ⟨[kid doc0 (eT s).node], n', true⟩ := m3
 rw [endP_one] at m5
 refine ⟨_, m5, rfl, (eT s).node, rfl, ?_⟩
 unfold eT; rw [if_neg h0]; rfl
def hexv (c : UInt8) : Int := if 48 ≤ c.toNat ∧ c.toNat ≤ 57 then (c.toNat : Int) - 48 else if 97 ≤ c.toNat ∧ c.toNat ≤ 102 then (c.toNat : Int) - 87 else if 65 ≤ c.toNat ∧ c.toNat ≤ 70 then (c.toNat : Int) - 55 else -1
theorem digit_at (c : UInt8) : F_refer_digit (c.toNat : Int) = some (if hexv c < 0 then 99 else hexv c) := by
 have := all_u8 (p := fun c => F_refer_digit (c.toNat : Int) == some (if hexv c < 0 then 99 else hexv c)) (by decide +kernel) c
 simpa using this
theorem hexv_lt (c : UInt8) : -1 ≤ hexv c ∧ hexv c ≤ 15 := by
 unfold hexv
 split
 ·omega
 ·split
  ·omega
  ·split <;> omega
def dgP (base : Int) (c : UInt8) : Bool := decide (0 ≤ hexv c) && decide (hexv c < base)
def gv (base : Int) (g : Int) (l : LB) : Int := l.foldl (fun g c => if 1114112 < g * base + hexv c then 1114112 else g * base + hexv c) g
theorem mt_step (a : LB) (base : Int) (hbase : base = 10 ∨ base = 16) (k : Nat) (hk : k < a.length) (ha : a.length ≤ 1073741824) (g : Int) (hg : 0 ≤ g ∧ g ≤ 1114112) (rec) :
  F_refer_meant_l0 a base rec (g, (k : Int)) = cond (dgP base a[k]) (rec ((if 1114112 < g * base + hexv a[k] then 1114112 else g * base + hexv a[k]), ((k + 1 : Nat) : Int))) (some (.inr (0, 22))) := by
 have hh := hexv_lt a[k]
 have hbg : 0 ≤ g * base ∧ g * base ≤ 17825792 := by rcases hbase with rfl | rfl <;> omega
 unfold F_refer_meant_l0 dgP
 dsimp only
 rw [dT (show (k : Int) < (a.length : Int) by omega), cT, idx_some hk, bS, digit_at, bS]
 by_cases h0 : hexv a[k] < 0
 ·rw [if_pos h0, dT (show base ≤ 99 by omega), cT, dF (by omega), Bool.false_and, cF]
 ·rw [if_neg h0, dT (show 0 ≤ hexv a[k] by omega), Bool.true_and]
  by_cases h1 : hexv a[k] < base
  ·rw [dF (show ¬ base ≤ hexv a[k] by omega), cF, dT h1, cT, w64 (x := g * base) (by omega) (by omega), w64 (x := g * base + hexv a[k]) (by omega) (by omega), w64 (x := (k : Int) + 1) (by omega) (by omega)]; rfl
  ·rw [dT (show base ≤ hexv a[k] by omega), cT, dF h1, cF]
theorem mt_loop (a : LB) (base : Int) (hbase : base = 10 ∨ base = 16) (ha : a.length ≤ 1073741824) : ∀ (n k : Nat) (g : Int), k ≤ a.length → a.length - k < n → (0 ≤ g ∧ g ≤ 1114112) →
  iter (F_refer_meant_l0 a base) n (g, (k : Int)) = some (if (a.drop k).all (dgP base) = true then .inl (gv base g (a.drop k)) else .inr (0, 22))
 | 0, k, g, _, h, _ => by omega
 | n + 1, k, g, hk, h, hg => by
  rw [iter_succ]
  by_cases hl : k < a.length
  ·rw [mt_step a base hbase k hl ha g hg, List.drop_eq_getElem_cons hl, List.all_cons]
   cases hd : dgP base a[k] with
   | false => rfl
   | true =>
    have hh := hexv_lt a[k]
    have h0 : 0 ≤ hexv a[k] := by unfold dgP at hd; simp at hd; exact hd.1
    rw [cT, Bool.true_and, mt_loop a base hbase ha n (k + 1) _ (by omega) (by omega) (by
     split
     ·omega
     ·rcases hbase with rfl | rfl <;> omega)]
    rfl
  ·have : k = a.length := by omega
   subst this
   unfold F_refer_meant_l0
   dsimp only
   rw [dF (by omega), cF, List.drop_length]
   rfl
theorem w32 {x : Int} (h1 : -2147483648 ≤ x) (h2 : x ≤ 2147483647) : IntKind.wrap .i32 x = x := by rw [IntKind.wrap_i32]; omega
def decF : Nat → Nat → LB
 | 0, _ => []
 | k + 1, x => if x = 0 then [] else decF k (x / 10) ++ [UInt8.ofNat (48 + x % 10)]
theorem dig_facts (d : Nat) (h : d < 10) : hexv (UInt8.ofNat (48 + d)) = (d : Int) ∧ (UInt8.ofNat (48 + d)).toNat = 48 + d ∧ UInt8.ofNat (48 + d) ≠ 120 ∧ UInt8.ofNat (48 + d) ≠ 59 ∧ UInt8.ofNat (48 + d) ≠ 60 ∧ UInt8.ofNat (48 + d) ≠ 62 ∧ UInt8.ofNat (48 + d) ≠ 13 := by
 have : d = 0 ∨ d = 1 ∨ d = 2 ∨ d = 3 ∨ d = 4 ∨ d = 5 ∨ d = 6 ∨ d = 7 ∨ d = 8 ∨ d = 9 := by omega
 rcases this with rfl | rfl | rfl | rfl | rfl | rfl | rfl | rfl | rfl | rfl <;> decide
theorem decF_mem : ∀ (k x : Nat), ∀ c ∈ decF k x, ∃ d, d < 10 ∧ c = UInt8.ofNat (48 + d)
 | 0, x, c, h => by simp [decF] at h
 | k + 1, x, c, h => by
  unfold decF at h
  split at h
  ·simp at h
  ·rcases List.mem_append.1 h with h | h
   ·exact decF_mem k _ c h
   ·exact ⟨x % 10, by omega, List.mem_singleton.1 h⟩
theorem decF_len : ∀ (k x : Nat), (decF k x).length ≤ k
 | 0, x => by simp [decF]
 | k + 1, x => by
  unfold decF
  split
  ·simp
  ·rw [List.length_append, List.length_singleton]; have := decF_len k (x / 10); omega
theorem decF_ne {k x : Nat} (h : x ≠ 0) : decF (k + 1) x ≠ [] := by unfold decF; rw [if_neg h]; simp
theorem gv_app (base g : Int) (l : LB) (c : UInt8) : gv base g (l ++ [c]) = if 1114112 < gv base g l * base + hexv c then 1114112 else gv base g l * base + hexv c := by
 unfold gv; rw [List.foldl_append]; rfl
theorem gv_dec : ∀ (k x : Nat), x < 10 ^ k → x ≤ 1114111 → gv 10 0 (decF k x) = (x : Int)
 | 0, x, h, _ => by
  have : x = 0 := by simp at h; exact h
  subst this; rfl
 | k + 1, x, h, h2 => by
  unfold decF
  by_cases hx : x = 0
  ·rw [if_pos hx, hx]; rfl
  ·rw [if_neg hx, gv_app, gv_dec k (x / 10) (by rw [Nat.pow_succ] at h; omega) (by omega), (dig_facts (x % 10) (by omega)).1, if_neg (by omega)]
   omega
theorem meant_dec {x : Nat} (h0 : x ≠ 0) (h1 : x ≤ 1114111) (hc : charP (x : Int) = true) : F_refer_meant (35 :: decF 8 x) = some ((x : Int), 0) := by
 have hne := decF_ne (k := 7) h0
 have hl := decF_len 8 x
 have hmem := decF_mem 8 x
 have hg := gv_dec 8 x (by omega) h1
 generalize hD : decF 8 x = D at hne hl hmem hg
 have hall : D.all (dgP 10) = true := List.all_eq_true.2 fun c hc => by
  obtain ⟨d, hd, rfl⟩ := hmem c hc
  unfold dgP
  rw [(dig_facts d hd).1, dT (by omega), dT (by omega)]; rfl
 have hlp := mt_loop D 10 (.inl rfl) (by omega) FUEL 0 0 (by omega) (by unfold FUEL; omega) (by omega)
 rw [List.drop_zero, if_pos hall, hg] at hlp
 obtain ⟨c, D', rfl⟩ : ∃ c D', D = c :: D' := by
  cases D with
  | nil => exact absurd rfl hne
  | cons c D' => exact ⟨c, D', rfl⟩
 have hc120 : c ≠ 120 := by
  obtain ⟨d, hd, rfl⟩ := hmem c List.mem_cons_self
  exact (dig_facts d hd).2.2.1
 unfold F_refer_meant
 rw [show ((35 :: c :: D') == ([108, 116] : LB)) = false from rfl, cF, show ((35 :: c :: D') == ([103, 116] : LB)) = false from rfl, cF, show ((35 :: c :: D') == ([97, 109, 112] : LB)) = false from rfl, cF,
  show ((35 :: c :: D') == ([97, 112, 111, 115] : LB)) = false from rfl, cF, show ((35 :: c :: D') == ([113, 117, 111, 116] : LB)) = false from rfl, cF, cutPrefix_eq, if_pos (by rfl), bS]
 simp only [letJ]
 rw [cutPrefix_eq, if_neg (by simp [List.isPrefixOf, Ne.symm hc120]), bS]
 dsimp only
 rw [cF]
 have e1 : (List.drop ([35] : LB).length (35 :: c :: D')) = c :: D' := rfl
 rw [e1, show ((!true) || ((c :: D') == ([] : LB))) = false from rfl, cF]
 rw [show ((0 : Int), (0 : Int)) = ((0 : Int), ((0 : Nat) : Int)) from rfl, hlp, bS]
 dsimp only
 rw [w32 (by omega) (by omega), F_isChar, bS, hc]
 rfl
inductive Num : LB → LB → Prop
 | nil : Num [] []
 | cons {l N : LB} : l ≠ [] → badR (decodeL l) = false → charP ((decodeL l).1 : Int) = true → Num (l.drop (decodeL l).2) N → Num l (38 :: 35 :: (decF 8 (decodeL l).1 ++ 59 :: N))
theorem num_of_ok {t : LB} (h : OkT t) : ∃ N, Num t N := by
 induction h with
 | nil => exact ⟨[], .nil⟩
 | cons h1 h2 h3 _ ih => obtain ⟨N, hN⟩ := ih; exact ⟨_, .cons h1 h2 h3 hN⟩
theorem char_ne0 {r : Nat} (h : charP (r : Int) = true) : r ≠ 0 ∧ r ≤ 1114111 := by
 have := of_decide_eq_true h; omega
theorem num_facts {t N : LB} (h : Num t N) : (60 : UInt8) ∉ N ∧ (62 : UInt8) ∉ N ∧ (13 : UInt8) ∉ N ∧ N.length ≤ 11 * t.length ∧ (t ≠ [] → N ≠ []) ∧ OkT N := by
 induction h with
 | nil => exact ⟨by simp, by simp, by simp, by simp, fun h => absurd rfl h, .nil⟩
 | @cons l N h1 h2 h3 _ ih =>
  obtain ⟨i1, i2, i3, i4, _, i6⟩ := ih
  have hw := Lib.decodeL_width l
  have hw2 := Lib.decodeL_le l h1
  have hmem := decF_mem 8 (decodeL l).1
  have hlen := decF_len 8 (decodeL l).1
  rw [List.length_drop] at i4
  have no : ∀ c : UInt8, c ≠ 38 → c ≠ 35 → c ≠ 59 → (∀ d, d < 10 → UInt8.ofNat (48 + d) ≠ c) → c ∉ N → c ∉ 38 :: 35 :: (decF 8 (decodeL l).1 ++ 59 :: N) := by
   intro c a1 a2 a3 a4 a5 hm
   simp only [List.mem_cons, List.mem_append] at hm
   rcases hm with h | h | h | h | h
   ·exact a1 h
   ·exact a2 h
   ·obtain ⟨d, hd, he⟩ := hmem c h
    exact a4 d hd he.symm
   ·exact a3 h
   ·exact a5 h
  refine ⟨no 60 (by decide) (by decide) (by decide) (fun d hd => (dig_facts d hd).2.2.2.2.1) i1, no 62 (by decide) (by decide) (by decide) (fun d hd => (dig_facts d hd).2.2.2.2.2.1) i2, no 13 (by decide) (by decide) (by decide) (fun d hd => (dig_facts d hd).2.2.2.2.2.2) i3, ?_, fun _ => by simp, ?_⟩
  ·simp only [List.length_cons, List.length_append]; omega
  ·have e : 38 :: 35 :: (decF 8 (decodeL l).1 ++ 59 :: N) = ([38, 35] ++ (decF 8 (decodeL l).1 ++ [59])) ++ N := by simp
   rw [e]
   refine okT_app (okT_asc _ fun c hc => ?_) i6
   simp only [List.mem_append, List.mem_cons, List.not_mem_nil, or_false] at hc
   rcases hc with (rfl | rfl) | h | rfl
   ·decide
   ·decide
   ·obtain ⟨d, hd, rfl⟩ := hmem c h
    rw [(dig_facts d hd).2.1]
    exact ⟨by omega, dT (by omega)⟩
   ·decide
theorem read_num {t N : LB} (h : Num t N) : ∀ (W pre l R : LB) (m : Nat), W = pre ++ N → W.length ≤ 1073741824 → l.length ≤ 4 * pre.length → t.length < m →
  iter (F_refer_read_l0 W false) m (l, (pre.length : Int)) = some (.inl (l ++ t)) := by
 induction h with
 | nil =>
  intro W pre l R m hW hl hle hm
  obtain ⟨m, rfl⟩ : ∃ k, m = k + 1 := ⟨m - 1, by omega⟩
  rw [List.append_nil] at hW
  subst hW
  rw [iter_succ]
  unfold F_refer_read_l0
  dsimp only
  rw [dF (by omega), cF, List.append_nil]
 | @cons t N h1 h2 h3 _ ih =>
  intro W pre l R m hW hl hle hm
  obtain ⟨m, rfl⟩ : ∃ k, m = k + 1 := ⟨m - 1, by omega⟩
  have hw := Lib.decodeL_width t
  have hw2 := Lib.decodeL_le t h1
  obtain ⟨c1, c2⟩ := char_ne0 h3
  have hmem := decF_mem 8 (decodeL t).1
  have hd : W.drop pre.length = 38 :: ((35 :: decF 8 (decodeL t).1) ++ 59 :: N) := by rw [hW, List.drop_left]; rfl
  have hno : (59 : UInt8) ∉ 35 :: decF 8 (decodeL t).1 := fun hm => by
   rcases List.mem_cons.1 hm with h | h
   ·cases h
   ·obtain ⟨d, hd, he⟩ := hmem _ h
    exact (dig_facts d hd).2.2.2.1 he.symm
  rw [iter_one fun rec => read_ref hl hle hd hno (meant_dec c1 c2 h3) rec, enc_dec h1 h2]
  have e1 : pre.length + (35 :: decF 8 (decodeL t).1).length + 2 = (pre ++ (38 :: 35 :: (decF 8 (decodeL t).1 ++ [59]))).length := by simp only [List.length_append, List.length_cons, List.length_nil]; omega
  rw [e1, ih W (pre ++ (38 :: 35 :: (decF 8 (decodeL t).1 ++ [59]))) (l ++ t.take (decodeL t).2) R m (by rw [hW]; simp) hl (by
   rw [← e1]; simp only [List.length_append, List.length_cons, List.length_take]; have q : (encR ((decodeL t).1 : Int)).length ≤ 4 := enc_len (decodeL t).1; rw [enc_dec h1 h2, List.length_take] at q; omega) (by rw [List.length_drop]; omega), List.append_assoc, List.take_append_drop]
theorem read_nums {t N : LB} (h : Num t N) (hl : N.length ≤ 1073741824) (ht : t.length ≤ 1073741824) : F_refer_read N false = some (t, 0, 0) := by
 have := read_num h N [] [] [] FUEL rfl hl (by simp) (by unfold FUEL; omega)
 unfold F_refer_read
 simp only [letJ]
 rw [show (([] : LB).length : Int) = 0 from rfl, List.nil_append] at this
 rw [this]
 rfl
theorem pie_text {w x : LB} (hok : OkT w) (h13 : (13 : UInt8) ∉ w) (h60 : (60 : UInt8) ∉ w) (hne : w ≠ []) (hr : F_refer_read w false = some (x, 0, 0)) : Pie w ⟨5, 0, [], [], x, 0⟩ := by
 refine ⟨hok, h13, hne, fun h => absurd rfl h, fun {U R i} hU h hR => ?_⟩
 have hUb : U.length ≤ 1073741824 := by omega
 have hpos : 0 < w.length := List.length_pos_iff.2 hne
 have hl := congrArg List.length h
 rw [List.length_drop, List.length_append] at hl
 have hat : TxtAt U i (i + w.length) := by
  refine ⟨by omega, by omega, fun k k1 k2 hk => ?_, ?_⟩
  ·have : (U.drop i)[k - i]? = some 60 := by rw [List.getElem?_drop, show i + (k - i) = k by omega]; exact hk
   rw [h, List.getElem?_append_left (by omega)] at this
   exact h60 (List.mem_of_getElem? this)
  ·rcases hR rfl with rfl | hR
   ·left; rw [List.length_nil] at hl; omega
   ·right
    have : (U.drop i)[w.length]? = some 60 := by rw [h, List.getElem?_append_right (Nat.le_refl _), Nat.sub_self]; exact hR
    rwa [List.getElem?_drop] at this
 have h60' : U[i]? ≠ some 60 := hat.no i (Nat.le_refl _) hat.lt
 refine ⟨((Lib.countByte w 38 : Nat) : Int), ?_⟩
 rw [token_text (by omega) hUb h60', text_mk hUb hat]
 unfold textR
 rw [Nat.add_sub_cancel_left, h, List.take_left]
 unfold F_refer_ReadText
 rw [hr, bS, bS]
 rfl
theorem F_char1 (r : Int) : F_lecternref01_Char r = some (charP r) := by
 unfold F_lecternref01_Char charP
 congr 1
 rw [Bool.eq_iff_iff]
 simp only [Bool.or_eq_true, Bool.and_eq_true, beq_iff_eq, decide_eq_true_eq]
 omega
theorem rfault_step (b : LB) (i : Nat) (hi : i < b.length) (hb : b.length ≤ 1073741824) (rec) : F_lecternref01_Fault_l0 b rec (i : Int) = if badR (decodeL (b.drop i)) then some (.inr ((i : Int), (20 : Int))) else if charP ((decodeL (b.drop i)).1 : Int) then rec ((i + (decodeL (b.drop i)).2 : Nat) : Int) else some (.inr ((i : Int), (21 : Int))) := by
 obtain ⟨d1, d2, _⟩ := dec_bytes b i hi
 unfold F_lecternref01_Fault_l0
 rw [dT (show (i : Int) < (b.length : Int) by omega), cT, F_read1 b i hi hb, bS]
 cases badR (decodeL (b.drop i)) with
 | true => rfl
 | false =>
  rw [if_neg (by simp), if_neg (by simp)]
  dsimp only
  rw [show (((decodeL (b.drop i)).2 : Int) == 0) = false by rw [beq_eq_false_iff_ne]; omega, cF, F_char1, bS, w64 (by omega) (by omega)]
  cases charP ((decodeL (b.drop i)).1 : Int) with
  | true => rw [Bool.not_true, cF, if_pos rfl]; rfl
  | false => rw [Bool.not_false, cT, if_neg (by simp)]
theorem rfault_iff (b : LB) (hb : b.length ≤ 1073741824) : (F_lecternref01_Fault b = some (0, 0) ∧ OkT b) ∨ (∃ (i : Nat) (e : Int), F_lecternref01_Fault b = some ((i : Int), e) ∧ e ≠ 0 ∧ ¬ OkT b) := by
 obtain ⟨o, e, h⟩ := iter_dec (b := F_lecternref01_Fault_l0 b) (fun x => b.length - x.toNat) (fun x => ∃ i : Nat, x = (i : Int) ∧ i ≤ b.length ∧ (OkT b ↔ OkT (b.drop i))) (fun o => (o = .inl () ∧ OkT b) ∨ ∃ (i : Nat) (f : Int), o = .inr ((i : Int), f) ∧ f ≠ 0 ∧ ¬ OkT b) (by
  rintro _ ⟨i, rfl, hi, hiff⟩
  by_cases hlt : i < b.length
  ·obtain ⟨d1, d2, _⟩ := dec_bytes b i hlt
   have hne := drop_nn hlt
   simp only [rfault_step b i hlt hb]
   cases hbad : badR (decodeL (b.drop i)) with
   | true =>
    right
    exact ⟨_, fun _ => rfl, .inr ⟨i, 20, rfl, by decide, fun h => (by have := (okT_inv (hiff.1 h) hne).1; rw [hbad] at this; cases this)⟩⟩
   | false =>
    cases hc : charP ((decodeL (b.drop i)).1 : Int) with
    | false =>
     right
     exact ⟨_, fun _ => rfl, .inr ⟨i, 21, rfl, by decide, fun h => (by have := (okT_inv (hiff.1 h) hne).2.1; rw [hc] at this; cases this)⟩⟩
    | true =>
     left
     refine ⟨_, fun _ => rfl, ⟨i + (decodeL (b.drop i)).2, rfl, d2, hiff.trans ?_⟩, by rw [Int.toNat_natCast, Int.toNat_natCast]; omega⟩
     rw [← List.drop_drop]
     exact ⟨fun h => (okT_inv h hne).2.2, fun h => .cons hne hbad hc h⟩
  ·right
   refine ⟨.inl (), fun rec => ?_, .inl ⟨rfl, ?_⟩⟩
   ·unfold F_lecternref01_Fault_l0
    rw [dF (by omega), cF]
   ·rw [hiff, List.drop_eq_nil_of_le (by omega)]; exact .nil) FUEL (0 : Int) ⟨0, rfl, Nat.zero_le _, by rw [List.drop_zero]⟩ (by unfold FUEL; omega)
 unfold F_lecternref01_Fault
 simp only [letJ]
 rw [e, bS]
 rcases h with ⟨rfl, h⟩ | ⟨i, f, rfl, hf, hn⟩
 ·exact .inl ⟨rfl, h⟩
 ·exact .inr ⟨i, f, rfl, hf, hn⟩
def Bd (p : LB) (k : Nat) : Prop := k ≤ p.length ∧ OkT (p.take k) ∧ OkT (p.drop k)
theorem bd_0 {p : LB} (h : OkT p) : Bd p 0 := ⟨Nat.zero_le _, .nil, h⟩
theorem bd_next {p : LB} {k : Nat} (h : Bd p k) (hk : k < p.length) : Bd p (k + (decodeL (p.drop k)).2) ∧ k < k + (decodeL (p.drop k)).2 := by
 obtain ⟨h1, h2, h3⟩ := h
 have hne := drop_nn hk
 obtain ⟨a1, a2, a3⟩ := okT_inv h3 hne
 obtain ⟨d1, d2, _⟩ := dec_bytes p k hk
 refine ⟨⟨d2, ?_, by rw [← List.drop_drop]; exact a3⟩, by omega⟩
 rw [List.take_add]
 exact okT_app h2 (okT_one hne a1 a2)
theorem cut_l0 {p : LB} (h : OkT p) (hl : p.length ≤ 1073741824) (q : Int) : ∃ k : Nat, Bd p k ∧ iter (F_lecternlaw06_ParseTexts_l0 p q) FUEL ((0 : Int), (0 : Nat)) = some (k : Int) := by
 obtain ⟨o, e, k, hb, rfl⟩ := iter_dec (b := F_lecternlaw06_ParseTexts_l0 p q) (fun x => p.length - x.2) (fun x => ∃ k : Nat, x.1 = (k : Int) ∧ Bd p k ∧ Bd p x.2) (fun o => ∃ k : Nat, Bd p k ∧ o = (k : Int)) (by
  rintro ⟨a, i⟩ ⟨k, rfl, hk, hi⟩
  dsimp only at hi
  by_cases hlt : i < p.length
  ·left
   obtain ⟨n1, n2⟩ := bd_next hi hlt
   have hw := (dec_at p i).2
   refine ⟨(if (i : Int) ≤ q then ((i : Int), i + wdS p i) else ((k : Int), i + wdS p i)), fun rec => ?_, ?_, ?_⟩
   ·unfold F_lecternlaw06_ParseTexts_l0
    dsimp only
    rw [dT hlt, cT]
    by_cases hq : (i : Int) ≤ q
    ·rw [dT hq, cT, if_pos hq]
    ·rw [dF hq, cF, if_neg hq]
   ·split
    ·exact ⟨i, rfl, hi, by rw [hw]; exact n1⟩
    ·exact ⟨k, rfl, hk, by rw [hw]; exact n1⟩
   ·rw [hw]
    split
    ·dsimp only; omega
    ·dsimp only; omega
  ·right
   refine ⟨(k : Int), fun rec => ?_, k, hk, rfl⟩
   unfold F_lecternlaw06_ParseTexts_l0
   dsimp only
   rw [dF hlt, cF]) FUEL ((0 : Int), (0 : Nat)) ⟨0, rfl, bd_0 h, bd_0 h⟩ (by unfold FUEL; dsimp only; omega)
 exact ⟨k, hb, e⟩
theorem digits_l2 : ∀ (k x m : Nat) (acc : LB), x < 10 ^ k → k < m → k ≤ 9 → acc.length + k ≤ 1000 → x ≤ 1114111 → iter (F_lecternlaw06_ParseTexts_l2) m (acc, (x : Int)) = some (decF k x ++ acc)
 | 0, x, m + 1, acc, h, _, _, _, _ => by
  have : x = 0 := by simp at h; exact h
  subst this
  rw [iter_succ]
  unfold F_lecternlaw06_ParseTexts_l2
  dsimp only
  rw [dF (by omega), cF]; rfl
 | k + 1, x, m + 1, acc, h, hm, h9, hl, hx => by
  have ih := digits_l2 k (x / 10) m ([UInt8.ofNat (48 + x % 10)] ++ acc) (by rw [Nat.pow_succ] at h; omega) (by omega) (by omega) (by simp only [List.length_append, List.length_cons, List.length_nil]; omega) (by omega)
  rw [iter_succ]
  generalize iter (F_lecternlaw06_ParseTexts_l2) m = rc at ih ⊢
  unfold F_lecternlaw06_ParseTexts_l2
  dsimp only
  unfold decF
  by_cases h0 : x = 0
  ·subst h0
   rw [dF (by omega), cF, if_pos rfl]; rfl
  ·have e1 : Int.tmod (x : Int) 10 = ((x % 10 : Nat) : Int) := by
    rw [Int.tmod_eq_emod_of_nonneg (by omega)]; omega
   have e2 : Int.tdiv (x : Int) 10 = ((x / 10 : Nat) : Int) := by
    rw [Int.tdiv_eq_ediv_of_nonneg (by omega)]; omega
   have e3 : IntKind.wrap .u8 (IntKind.wrap .i64 ((48 : Int) + ((x % 10 : Nat) : Int))) = ((48 + x % 10 : Nat) : Int) := by
    rw [w64 (by omega) (by omega), IntKind.wrap_u8]; omega
   rw [dT (by omega), cT, if_neg h0, e1, e2, e3, (by unfold u8; rw [if_pos ⟨by omega, by omega⟩, Int.toNat_natCast] : u8 ((48 + x % 10 : Nat) : Int) = some (UInt8.ofNat (48 + x % 10))), bS, cat_some (by simp only [List.length_cons, List.length_nil]; omega), bS, w64 (by omega) (by omega)]
   rw [ih, List.append_assoc]
theorem nums_l1 {p : LB} (hp : p.length ≤ 4096) {t N : LB} (h : Num t N) : ∀ (i m : Nat) (acc : LB), p.drop i = t → i ≤ p.length → acc.length + 11 * t.length ≤ 65536 → t.length < m →
  iter (F_lecternlaw06_ParseTexts_l1 p) m (acc, i) = some (acc ++ N) := by
 induction h with
 | nil =>
  intro i m acc hi hle hl hm
  obtain ⟨m, rfl⟩ : ∃ k, m = k + 1 := ⟨m - 1, by omega⟩
  have : ¬ i < p.length := fun h => drop_nn h hi
  rw [iter_succ]
  unfold F_lecternlaw06_ParseTexts_l1
  dsimp only
  rw [dF this, cF, List.append_nil]
 | @cons t N h1 h2 h3 hN ih =>
  intro i m acc hi hle hl hm
  obtain ⟨m, rfl⟩ : ∃ k, m = k + 1 := ⟨m - 1, by omega⟩
  obtain ⟨c1, c2⟩ := char_ne0 h3
  have hlt : i < p.length := by
   by_cases h : i < p.length
   ·exact h
   ·exact absurd (by rw [← hi]; exact List.drop_eq_nil_of_le (by omega)) h1
  obtain ⟨d1, d2, _⟩ := dec_bytes p i hlt
  rw [hi] at d1 d2
  have hw : wdS p i = (decodeL t).2 := by rw [(dec_at p i).2, hi]
  have hr : rnS p i = ((decodeL t).1 : Int) := by rw [(dec_at p i).1, hi]
  have hlen := decF_len 8 (decodeL t).1
  have htl : t.length = p.length - i := by rw [← hi, List.length_drop]
  have ih := ih (i + (decodeL t).2) m (acc ++ [38, 35] ++ decF 8 (decodeL t).1 ++ [59]) (by rw [← List.drop_drop, hi]) d2 (by rw [List.length_drop]; simp only [List.length_append, List.length_cons, List.length_nil]; omega) (by rw [List.length_drop]; omega)
  rw [iter_succ]
  generalize iter (F_lecternlaw06_ParseTexts_l1 p) m = rc at ih ⊢
  unfold F_lecternlaw06_ParseTexts_l1
  dsimp only
  rw [dT hlt, cT]
  simp only [letJ]
  rw [hr, w64 (by omega) (by omega), digits_l2 8 (decodeL t).1 FUEL [] (by omega) (by unfold FUEL; omega) (by omega) (by simp) c2, bS, List.append_nil,
   cat_some (by simp only [List.length_cons, List.length_nil]; omega), bS, cat_some (by simp only [List.length_append, List.length_cons, List.length_nil]; omega), bS, cat_some (by simp only [List.length_append, List.length_cons, List.length_nil]; omega), bS, hw]
  rw [ih]
  simp
theorem plain_l3 (p : LB) (hl : p.length ≤ 1073741824) : ∃ b : Bool, iter (F_lecternlaw06_ParseTexts_l3 p) FUEL (true, (0 : Int)) = some b ∧ (b = true → (13 : UInt8) ∉ p ∧ (93 : UInt8) ∉ p) := by
 obtain ⟨o, e, h⟩ := iter_spec (b := F_lecternlaw06_ParseTexts_l3 p) (fun i x => ∃ b : Bool, x = (b, (i : Int)) ∧ (b = true → (13 : UInt8) ∉ p.take i ∧ (93 : UInt8) ∉ p.take i)) (fun o => o = true → (13 : UInt8) ∉ p ∧ (93 : UInt8) ∉ p) p.length (x0 := (true, (0 : Int))) ⟨true, rfl, fun _ => by simp⟩ (by
  rintro i _ rec hi ⟨b, rfl, hb⟩
  left
  have hw : IntKind.wrap .i64 ((i : Int) + 1) = ((i + 1 : Nat) : Int) := by rw [w64 (by omega) (by omega)]; omega
  unfold F_lecternlaw06_ParseTexts_l3
  dsimp only
  simp only [letJ]
  rw [dT (by omega), cT, hw]
  cases b with
  | false => exact ⟨(false, ((i + 1 : Nat) : Int)), rfl, false, rfl, fun h => by cases h⟩
  | true =>
   rw [cT, idx_some hi, bS]
   obtain ⟨h1, h2⟩ := hb rfl
   by_cases h13 : p[i] = 13
   ·refine ⟨(false, ((i + 1 : Nat) : Int)), ?_, false, rfl, fun h => by cases h⟩
    rw [h13]; rfl
   ·have e13 : (((p[i]).toNat : Int) != 13) = true := by
     rw [bne_iff_ne]; intro h; exact h13 (UInt8.toNat_inj.1 (by have : (13 : UInt8).toNat = 13 := rfl; omega))
    rw [e13, cT, bS]
    by_cases h93 : p[i] = 93
    ·refine ⟨(false, ((i + 1 : Nat) : Int)), ?_, false, rfl, fun h => by cases h⟩
     rw [h93]; rfl
    ·have e93 : (((p[i]).toNat : Int) != 93) = true := by
      rw [bne_iff_ne]; intro h; exact h93 (UInt8.toNat_inj.1 (by have : (93 : UInt8).toNat = 93 := rfl; omega))
     rw [e93]
     refine ⟨(true, ((i + 1 : Nat) : Int)), rfl, true, rfl, fun _ => ?_⟩
     rw [List.take_succ_eq_append_getElem hi, List.mem_append, List.mem_append, not_or, not_or, List.mem_singleton, List.mem_singleton]
     exact ⟨⟨h1, fun h => h13 h.symm⟩, h2, fun h => h93 h.symm⟩) (by
  rintro _ rec ⟨b, rfl, hb⟩
  refine ⟨b, ?_, fun h => by have := hb h; rwa [List.take_length] at this⟩
  unfold F_lecternlaw06_ParseTexts_l3
  dsimp only
  rw [dF (by omega), cF]) (n := FUEL) (by unfold FUEL; omega)
 exact ⟨o, e, h⟩
def ReadAs (s w : LB) : Prop := ∃ r, F_parse_Parse w = some r ∧ r.2.2 = 0 ∧ ∃ y, r.1.Kids = [y] ∧ y.Kids = [txN s]
theorem docs_l4 {s : LB} {L : List LB} (h : ∀ w ∈ L, ReadAs s w) (hL : L.length ≤ 100) : iter (F_lecternlaw06_ParseTexts_l4 s L) FUEL (0 : Int) = some (.inl ()) := by
 obtain ⟨o, e, rfl⟩ := iter_spec (b := F_lecternlaw06_ParseTexts_l4 s L) (fun i x => x = (i : Int)) (fun o => o = .inl ()) L.length (x0 := (0 : Int)) rfl (by
  rintro i _ rec hi rfl
  left
  refine ⟨((i + 1 : Nat) : Int), ?_, rfl⟩
  obtain ⟨r, h1, h2, y, h3, h4⟩ := h L[i] (List.getElem_mem hi)
  unfold F_lecternlaw06_ParseTexts_l4
  simp only [letJ]
  rw [dT (by omega), cT, idx_some hi, bS, h1, bS, h2, h3]
  rw [show (((0 : Int) != 0) || ((([y] : List Nd).length : Int) != 1)) = false from rfl, cF, show idx ([y] : List Nd) (0 : Int) = some y from rfl, bS, h4]
  rw [show ((([txN s] : List Nd).length : Int) != 1) = false from rfl, cF, bS, h4, show idx ([txN s] : List Nd) (0 : Int) = some (txN s) from rfl, bS, show ((txN s).Kind != 3) = false from rfl, cF, bS, h4, show idx ([txN s] : List Nd) (0 : Int) = some (txN s) from rfl, bS, show (!((txN s).Text == s)) = false by simp [txN], cF, w64 (by omega) (by omega)]
  rfl) (by
  rintro _ rec rfl
  refine ⟨_, ?_, rfl⟩
  unfold F_lecternlaw06_ParseTexts_l4
  rw [dF (by omega), cF]) (n := FUEL) (by unfold FUEL; omega)
 exact e
def tk5 (x : LB) : Tk := ⟨5, 0, [], [], x, 0⟩
def tk6 (x : LB) : Tk := ⟨6, 0, [], [], x, 0⟩
def tp (x : LB) : List (LB × Tk) := if x = [] then [] else [(x.flatMap txE, tk5 x)]
def cdW (x : LB) : LB := [60, 33, 91, 67, 68, 65, 84, 65, 91] ++ (x ++ [93, 93, 62])
theorem tp_all (x : LB) : allP (tp x) = x.flatMap txE := by
 unfold tp allP
 split
 ·subst_vars; rfl
 ·simp
theorem tp_texts (x : LB) : texts (tp x) = x := by
 unfold tp texts
 split
 ·subst_vars; rfl
 ·simp [tk5]
theorem tp_len (x : LB) : (tp x).length ≤ 1 := by unfold tp; split <;> simp
theorem tp_kind (x : LB) : ∀ u ∈ tp x, u.2.Kind = 5 := by
 intro u hu
 unfold tp at hu
 split at hu
 ·simp at hu
 ·rw [List.mem_singleton.1 hu]; rfl
theorem first_no {c : UInt8} {w : LB} : ∀ {x : LB}, c ∉ x → First x (c :: w)
 | [], _ => fun R => by
  have : Lib.index ([] ++ (c :: w ++ R)) (c :: w) = 0 := by
   simp only [List.nil_append, List.cons_append, Lib.index]
   rw [if_pos (by simp [List.isPrefixOf])]
  exact this
 | a :: x, h => fun R => by
  have hx : c ∉ x := fun hm => h (List.mem_cons_of_mem _ hm)
  have ha : a ≠ c := fun he => h (by rw [he]; exact List.mem_cons_self)
  have ih := first_no (w := w) hx R
  have e : Lib.index (a :: x ++ (c :: w ++ R)) (c :: w) = Lib.index (a :: (x ++ (c :: w ++ R))) (c :: w) := rfl
  rw [e]
  simp only [Lib.index]
  rw [if_neg (by simp [List.isPrefixOf, Ne.symm ha]), ih]
  have hne : ((x.length : Int) == -1) = false := by rw [beq_eq_false_iff_ne]; omega
  simp only [List.length_cons]
  first
   | (rw [if_neg (by omega)]; omega)
   | (rw [hne]; simp)
   | (simp; omega)
theorem pie_tx {x : LB} (h : OkT x) (hne : x ≠ []) (hl : x.length ≤ 65536) : Pie (x.flatMap txE) (tk5 x) := by
 obtain ⟨t1, t2, t3, t4, t5, t6⟩ := tx_facts
 refine ⟨okT_flat t6 t4 h, not_mem_flat t3 _, fun hc => ?_, fun h => absurd rfl h, fun hU e hR => text_read hU e h hne (hR rfl)⟩
 have := flat_ge (fun c => (t5 c).1) x
 rw [hc] at this
 exact hne (List.length_eq_zero_iff.1 (by simpa using this))
theorem pie_cd {x : LB} (h : OkT x) (h13 : (13 : UInt8) ∉ x) (h93 : (93 : UInt8) ∉ x) (hl : x.length ≤ 65536) : Pie (cdW x) (tk6 x) := by
 refine ⟨okT_app (okT_asc _ (by decide)) (okT_app h (okT_asc _ (by decide))), ?_, by simp [cdW], fun _ => ⟨_, rfl⟩, fun {U R i} hU e hR => ⟨0, ?_⟩⟩
 ·unfold cdW
  simp only [List.mem_append, not_or]
  exact ⟨by decide, h13, by decide⟩
 ·have e' : U.drop i = [60, 33, 91, 67, 68, 65, 84, 65, 91] ++ (x ++ ([93, 93, 62] ++ R)) := by rw [e]; simp [cdW]
  have h' : U.drop i = 60 :: 33 :: 91 :: ([67, 68, 65, 84, 65, 91] ++ (x ++ ([93, 93, 62] ++ R))) := e'
  have hd9 : U.drop (i + 9) = x ++ ([93, 93, 62] ++ R) := drop_go (x := [60, 33, 91, 67, 68, 65, 84, 65, 91]) (r := x ++ ([93, 93, 62] ++ R)) (b := U) (i := i) e'
  rw [token_eq U i (Nat.le_of_lt (drop_lt h')) (by omega), decl_no h' (by decide), cF]
  unfold tokRest
  rw [show hereP U i [60, 33, 45, 45] = false by unfold hereP; rw [h']; rfl, cF, here_pre (w := [60, 33, 91, 67, 68, 65, 84, 65, 91]) (r := x ++ ([93, 93, 62] ++ R)) e', cT]
  have := upTo_read (k := 9) (t := tokK 6 i) (by omega) (by simp) (by simp) hd9 (first_no h93)
  rw [show ((9 : Nat) : Int) = (9 : Int) from rfl] at this
  rw [this]
  simp only [cdW, List.length_append, List.length_cons, List.length_nil]
  congr 4
  omega
theorem pie_o : Pie wO oA := ⟨okT_asc _ (by decide), by decide, by decide, fun _ => ⟨_, rfl⟩, fun hU h _ => ⟨0, tok_open (by omega) ltr_a h⟩⟩
theorem pie_c : Pie wC cA := ⟨okT_asc _ (by decide), by decide, by decide, fun _ => ⟨_, rfl⟩, fun hU h _ => ⟨0, tok_close (by omega) ltr_a h⟩⟩
theorem row_tp {L : List (LB × Tk)} {x : LB} (h : RowP L) (h5 : ∀ u, L.getLast? = some u → u.2.Kind ≠ 5) (hx : OkT x) (hl : x.length ≤ 65536) : RowP (L ++ tp x) := by
 unfold tp
 split
 ·rw [List.append_nil]; exact h
 ·rename_i hne
  exact .snoc h (pie_tx hx hne hl) fun _ => h5
theorem row_o : RowP [(wO, oA)] := .snoc (L := []) .nil pie_o (fun h => by cases h)
theorem txE_len (x : LB) : (x.flatMap txE).length ≤ 8 * x.length := by
 induction x with
 | nil => simp
 | cons c x ih =>
  have := (tx_facts.2.2.2.2.1 c).2
  rw [List.flatMap_cons, List.length_append, List.length_cons]; omega
theorem doc_one {s w : LB} (h0 : s ≠ []) (hs : s.length ≤ 2000) (hw : w.length ≤ 50000) (hp : Pie w (tk5 s)) : ReadAs s (wO ++ (w ++ wC)) := by
 have e : allP [(w, tk5 s)] = w := by simp [allP]
 have := parse_texts (L := [(w, tk5 s)]) (s := s) (by
  have h2 : RowP ([(wO, oA)] ++ [(w, tk5 s)]) := .snoc row_o hp fun _ u hu => by
   have : u = (wO, oA) := by simpa using hu.symm
   rw [this]; decide
  have h3 : RowP (([(wO, oA)] ++ [(w, tk5 s)]) ++ [(wC, cA)]) := .snoc h2 pie_c (fun h => by cases h)
  rwa [List.append_assoc] at h3) (fun x hx => .inl (by rw [List.mem_singleton.1 hx]; rfl)) (by simp [texts, tk5]) h0 (by omega) (by simp) (by
  rw [e]; simp only [List.length_append]; show 3 + (w.length + 4) ≤ _; omega)
 rw [e] at this
 exact this
theorem doc_cd {s x y z : LB} (h0 : s ≠ []) (hs : s.length ≤ 2000) (he : x ++ (y ++ z) = s) (hx : OkT x) (hy : OkT y) (hz : OkT z) (h13 : (13 : UInt8) ∉ y) (h93 : (93 : UInt8) ∉ y) :
  ReadAs s (wO ++ (x.flatMap txE ++ (cdW y ++ z.flatMap txE) ++ wC)) := by
 have hl := congrArg List.length he
 simp only [List.length_append] at hl
 have e : allP (tp x ++ ([(cdW y, tk6 y)] ++ tp z)) = x.flatMap txE ++ (cdW y ++ z.flatMap txE) := by
  rw [← tp_all x, ← tp_all z]; unfold allP; rw [List.flatMap_append, List.flatMap_append]; simp
 have hlast : ∀ (L : List (LB × Tk)) (u v : LB × Tk), v.2.Kind ≠ 5 → (L ++ [v]).getLast? = some u → u.2.Kind ≠ 5 := by
  intro L u v hv hu
  rw [List.getLast?_concat] at hu
  rw [← Option.some.inj hu]; exact hv
 have := parse_texts (L := tp x ++ ([(cdW y, tk6 y)] ++ tp z)) (s := s) (by
  have h1 : RowP ([(wO, oA)] ++ tp x) := row_tp row_o (fun u hu => by
   have : u = (wO, oA) := by simpa using hu.symm
   rw [this]; decide) hx (by omega)
  have h2 : RowP (([(wO, oA)] ++ tp x) ++ [(cdW y, tk6 y)]) := .snoc h1 (pie_cd hy h13 h93 (by omega)) (fun h => by cases h)
  have h3 : RowP ((([(wO, oA)] ++ tp x) ++ [(cdW y, tk6 y)]) ++ tp z) := row_tp h2 (fun u hu => hlast _ u _ (by simp [tk6]) hu) hz (by omega)
  have h4 : RowP (((([(wO, oA)] ++ tp x) ++ [(cdW y, tk6 y)]) ++ tp z) ++ [(wC, cA)]) := .snoc h3 pie_c (fun h => by cases h)
  have : [(wO, oA)] ++ ((tp x ++ ([(cdW y, tk6 y)] ++ tp z)) ++ [(wC, cA)]) = ((([(wO, oA)] ++ tp x) ++ [(cdW y, tk6 y)]) ++ tp z) ++ [(wC, cA)] := by simp only [List.append_assoc]
  rw [this]; exact h4) (fun u hu => by
   rcases List.mem_append.1 hu with h | h
   ·exact .inl (tp_kind x u h)
   ·rcases List.mem_append.1 h with h | h
    ·exact .inr (by rw [List.mem_singleton.1 h]; rfl)
    ·exact .inl (tp_kind z u h)) (by
   unfold texts
   rw [List.flatMap_append, List.flatMap_append]
   show texts (tp x) ++ (texts [(cdW y, tk6 y)] ++ texts (tp z)) = s
   rw [tp_texts, tp_texts, ← he]; simp [texts, tk6]) h0 (by omega) (by
   have := tp_len x; have := tp_len z
   simp only [List.length_append, List.length_cons, List.length_nil]; omega) (by
   rw [e]
   have := txE_len x; have := txE_len z
   simp only [List.length_append, cdW, List.length_cons, List.length_nil, wO, wC]; omega)
 rw [e] at this
 exact this
theorem parseTexts (s : LB) (q : Int) (hl : s.length ≤ 1073741824) : F_lecternlaw06_ParseTexts s q = some true := by
 unfold F_lecternlaw06_ParseTexts
 rw [awake_t, bS, Bool.not_true, cF]
 rcases rfault_iff s hl with ⟨hf, hok⟩ | ⟨i, e, hf, he, _⟩
 case inr => rw [hf, bS]; dsimp only; rw [show (e != 0) = true by simpa using he]; rfl
 rw [hf, bS]
 dsimp only
 by_cases hlen : 2000 < s.length
 ·rw [dT (show (2000 : Int) < (s.length : Int) by omega)]; rfl
 by_cases h0 : s = []
 ·subst h0; rfl
 rw [dF (show ¬ (2000 : Int) < (s.length : Int) by omega), show (s == ([] : LB)) = false by simpa using h0, show ((((0 : Int) != 0) || false) || false) = false from rfl, cF]
 simp only [letJ]
 obtain ⟨k, ⟨k1, k2, k3⟩, hk⟩ := cut_l0 hok hl q
 obtain ⟨N, hN⟩ := num_of_ok hok
 obtain ⟨n1, n2, n3, n4, n5, n6⟩ := num_facts hN
 have hnum := nums_l1 (by omega) hN 0 FUEL [] rfl (Nat.zero_le _) (by simp; omega) (by unfold FUEL; omega)
 obtain ⟨b, hb, hb2⟩ := plain_l3 s hl
 have ht := txE_len s
 have ht1 := txE_len (s.take k)
 have ht2 := txE_len (s.drop k)
 have hlt : (s.take k).length ≤ s.length := by rw [List.length_take]; omega
 have hld : (s.drop k).length ≤ s.length := by rw [List.length_drop]; omega
 rw [hk, bS, hnum, bS, List.nil_append, slc_take0 k1, bS, slc_drop k1, bS]
 rw [cat_some (by simp only [List.length_cons, List.length_nil]; omega), bS, cat_some (by simp only [List.length_append, List.length_cons, List.length_nil]; omega), bS]
 rw [text_w s (by omega), bS, text_w (s.take k) (by omega), text_w (s.drop k) (by omega)]
 rw [cat_some (by simp only [List.length_cons, List.length_nil]; omega), bS, cat_some (by simp only [List.length_append, List.length_cons, List.length_nil]; omega), bS, bS]
 rw [cat_some (by simp only [List.length_cons, List.length_nil]; omega), bS, cat_some (by simp only [List.length_append, List.length_cons, List.length_nil]; omega), bS, bS]
 rw [cat_some (by simp only [List.length_append, List.length_cons, List.length_nil]; omega), bS, cat_some (by simp only [List.length_append, List.length_cons, List.length_nil]; omega), bS]
 rw [hb, bS]
 have d1 : ReadAs s (([60, 97, 62] ++ s.flatMap txE) ++ [60, 47, 97, 62]) := by
  have := doc_one h0 (by omega) (by omega) (pie_tx hok h0 (by omega))
  rw [← List.append_assoc] at this; exact this
 have d2 : ReadAs s (((([60, 97, 62] ++ (s.take k).flatMap txE) ++ [60, 33, 91, 67, 68, 65, 84, 65, 91, 93, 93, 62]) ++ (s.drop k).flatMap txE) ++ [60, 47, 97, 62]) := by
  have := doc_cd (s := s) (x := s.take k) (y := []) (z := s.drop k) h0 (by omega) (by simp) k2 .nil k3 (by simp) (by simp)
  have e : (((([60, 97, 62] ++ (s.take k).flatMap txE) ++ [60, 33, 91, 67, 68, 65, 84, 65, 91, 93, 93, 62]) ++ (s.drop k).flatMap txE) ++ [60, 47, 97, 62]) = wO ++ ((s.take k).flatMap txE ++ (cdW [] ++ (s.drop k).flatMap txE) ++ wC) := by
   simp only [List.append_assoc, cdW, wO, wC]; rfl
  rw [e]; exact this
 have d3 : ReadAs s (([60, 97, 62] ++ N) ++ [60, 47, 97, 62]) := by
  have := doc_one (w := N) h0 (by omega) (by omega) (pie_text n6 n3 n1 (n5 h0) (read_nums hN (by omega) hl))
  rw [← List.append_assoc] at this; exact this
 cases b with
 | false =>
  rw [cF, docs_l4 (by
   intro w hw
   simp only [List.mem_cons, List.not_mem_nil, or_false] at hw
   rcases hw with rfl | rfl | rfl
   ·exact d1
   ·exact d2
   ·exact d3) (by simp), bS]
 | true =>
  obtain ⟨p1, p2⟩ := hb2 rfl
  have d4 : ReadAs s ((((([60, 97, 62] ++ (s.take k).flatMap txE) ++ [60, 33, 91, 67, 68, 65, 84, 65, 91]) ++ s.drop k)) ++ [93, 93, 62, 60, 47, 97, 62]) := by
   have := doc_cd (s := s) (x := s.take k) (y := s.drop k) (z := []) h0 (by omega) (by simp) k2 k3 .nil (fun h => p1 (List.mem_of_mem_drop h)) (fun h => p2 (List.mem_of_mem_drop h))
   have e : ((((([60, 97, 62] ++ (s.take k).flatMap txE) ++ [60, 33, 91, 67, 68, 65, 84, 65, 91]) ++ s.drop k)) ++ [93, 93, 62, 60, 47, 97, 62]) = wO ++ ((s.take k).flatMap txE ++ (cdW (s.drop k) ++ ([] : LB).flatMap txE) ++ wC) := by
    simp only [List.append_assoc, cdW, wO, wC]; rfl
   rw [e]; exact this
  rw [cT, bS, bS, text_w (s.take k) (by omega), bS]
  rw [cat_some (by simp only [List.length_cons, List.length_nil]; omega), bS, cat_some (by simp only [List.length_append, List.length_cons, List.length_nil]; omega), bS]
  rw [cat_some (by simp only [List.length_append, List.length_cons, List.length_nil]; omega), bS, cat_some (by simp only [List.length_append, List.length_cons, List.length_nil]; omega), bS]
  rw [app_some (by simp) (by simp), bS, docs_l4 (by
   intro w hw
   simp only [List.mem_append, List.mem_cons, List.not_mem_nil, or_false] at hw
   rcases hw with (rfl | rfl | rfl) | rfl
   ·exact d1
   ·exact d2
   ·exact d3
   ·exact d4) (by simp), bS]
end Go.Proofs.YtilhbalhkljanaaGreatDoor
