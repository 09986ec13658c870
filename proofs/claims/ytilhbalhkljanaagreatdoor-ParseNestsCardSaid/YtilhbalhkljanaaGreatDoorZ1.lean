/- Characters and names: what the program's functions answer. No condition. -/
import Derived.Test.YtilhbalhkljanaaGreatDoorPf
import Derived.Test.YtilhbalhkljanaaGreatDoorPl1
import Derived.KernelRfl
import Derived.Lib.MapLaws
import Derived.Lib.TrimUEq
import Derived.Lib.ValidLaws
import Derived.Lib.Index
import Derived.Laws.BitsAllLaws
import Derived.Lib.SlTrimSet
import Derived.Laws.Cover4
import Derived.Lib.IndexMore
import Derived.Lib.IndexLaws
set_option linter.unusedSimpArgs false
set_option linter.unusedVariables false
set_option maxRecDepth 20000
namespace Go.Proofs.YtilhbalhkljanaaGreatDoor
open Go.Lib (decodeL decodeN)
theorem getD_drop (p : List UInt8) (x k : Nat) : (p.drop x).getD k 0 = p.getD (x + k) 0 := by simp [List.getD, List.getElem?_drop]
theorem decN_facts (n b0 b1 b2 b3 : Nat) : (b0 < 128 → decodeN n b0 b1 b2 b3 = (b0, 1)) ∧ (2 ≤ (decodeN n b0 b1 b2 b3).2 → 128 ≤ b1) ∧ (3 ≤ (decodeN n b0 b1 b2 b3).2 → 128 ≤ b2) ∧ (4 ≤ (decodeN n b0 b1 b2 b3).2 → 128 ≤ b3) ∧ (decodeN n b0 b1 b2 b3).2 ≤ 4 := by
 unfold decodeN
 repeat' split
 all_goals refine ⟨fun h => ?_, fun h => ?_, fun h => ?_, fun h => ?_, ?_⟩
 all_goals first | rfl | omega | (simp only at *; omega)
theorem drop_ne {α : Type} {l : List α} {i : Nat} (h : i < l.length) : l.drop i = l[i] :: l.drop (i + 1) := List.drop_eq_getElem_cons h
theorem dec_bytes (p : List UInt8) (x : Nat) (hx : x < p.length) : 1 ≤ (decodeL (p.drop x)).2 ∧ x + (decodeL (p.drop x)).2 ≤ p.length ∧ ((p.getD x 0).toNat < 128 → decodeL (p.drop x) = ((p.getD x 0).toNat, 1)) ∧ ∀ k, 1 ≤ k → k < (decodeL (p.drop x)).2 → 128 ≤ (p.getD (x + k) 0).toNat := by
 have hne : p.drop x ≠ [] := by intro h; have := congrArg List.length h; simp at this; omega
 have h1 := Lib.decodeL_width (p.drop x)
 have h2 := Lib.decodeL_le (p.drop x) hne
 have e := Lib.decodeL_N (p.drop x)
 simp only [getD_drop] at e
 have f := decN_facts (p.drop x).length (p.getD (x + 0) 0).toNat (p.getD (x + 1) 0).toNat (p.getD (x + 2) 0).toNat (p.getD (x + 3) 0).toNat
 rw [← e] at f
 obtain ⟨f0, f1, f2, f3, f4⟩ := f
 rw [List.length_drop] at h2
 refine ⟨h1, by omega, fun h => f0 h, fun k hk1 hk2 => ?_⟩
 match k, hk1, hk2 with
 | 1, _, hk => exact f1 (by omega)
 | 2, _, hk => exact f2 (by omega)
 | 3, _, hk => exact f3 (by omega)
 | k + 4, _, hk => omega
def badR (d : Nat × Nat) : Bool := decide (d.1 = 65533 ∧ d.2 = 1)
def inP (r : Int) : List T_char_span → Bool
 | [] => false
 | s :: l => if r ≤ s.hi then decide (s.lo ≤ r) else inP r l
theorem F_in (r : Int) (l : List T_char_span) (hl : l.length ≤ 9223372036854775807) : F_char_in r l = some (inP r l) := by
 unfold F_char_in
 simp only [letJ]
 obtain ⟨o, h1, h2⟩ := iter_spec (b := F_char_in_l0 r l) (fun i x => x = (i : Int) ∧ inP r l = inP r (l.drop i)) (fun o => match o with | .inl _ => inP r l = false | .inr b => inP r l = b) l.length (x0 := (0 : Int)) ⟨rfl, by simp⟩
  (fun i x rec hi ⟨hx, hI⟩ => by
   subst hx
   rw [drop_ne hi, inP] at hI
   unfold F_char_in_l0
   rw [decide_eq_true (by omega), cond_true, idx_some hi, Option.bind_some, w64 (by omega) (by omega)]
   by_cases c : r ≤ l[i].hi
   ·rw [if_pos c] at hI
    rw [decide_eq_true c]
    exact .inr ⟨.inr _, rfl, hI⟩
   ·rw [if_neg c] at hI
    rw [decide_eq_false c]
    exact .inl ⟨_, rfl, rfl, hI⟩)
  (fun x rec ⟨hx, hI⟩ => ⟨.inl (), by
   subst hx
   unfold F_char_in_l0
   rw [decide_eq_false (by omega), cond_false], by show inP r l = false; rw [hI, List.drop_length]; rfl⟩) (n := FUEL) (by unfold FUEL; omega)
 rw [h1, Option.bind_some]
 cases o with
 | inl u => simp only at h2; rw [h2]
 | inr b => simp only at h2; rw [h2]
def srt : List T_char_span → Bool
 | [] => true
 | s :: l => l.all (fun t => decide (s.hi < t.lo)) && srt l
theorem inP_any (r : Int) : ∀ l, srt l = true → inP r l = l.any fun s => decide (s.lo ≤ r ∧ r ≤ s.hi)
 | [], _ => rfl
 | s :: l, h => by
  simp only [srt, Bool.and_eq_true, List.all_eq_true, decide_eq_true_eq] at h
  simp only [inP, List.any_cons]
  by_cases c : r ≤ s.hi
  ·rw [if_pos c]
   have : (l.any fun s => decide (s.lo ≤ r ∧ r ≤ s.hi)) = false := by
    rw [List.any_eq_false]
    intro t ht
    have := h.1 t ht
    simp only [decide_eq_true_eq]; omega
   rw [this, Bool.or_false]
   by_cases c2 : s.lo ≤ r <;> simp [c, c2]
  ·rw [if_neg c, inP_any r l h.2, decide_eq_false (fun hh => c hh.2), Bool.false_or]
def charP (r : Int) : Bool := decide (r = 9 ∨ r = 10 ∨ r = 13 ∨ (32 ≤ r ∧ r ≤ 55295) ∨ (57344 ≤ r ∧ r ≤ 65533) ∨ (65536 ≤ r ∧ r ≤ 1114111))
def startP (r : Int) : Bool := decide ((65 ≤ r ∧ r ≤ 90) ∨ r = 95 ∨ (97 ≤ r ∧ r ≤ 122) ∨ (192 ≤ r ∧ r ≤ 214) ∨ (216 ≤ r ∧ r ≤ 246) ∨ (248 ≤ r ∧ r ≤ 767) ∨ (880 ≤ r ∧ r ≤ 893) ∨ (895 ≤ r ∧ r ≤ 8191) ∨ (8204 ≤ r ∧ r ≤ 8205) ∨ (8304 ≤ r ∧ r ≤ 8591) ∨ (11264 ≤ r ∧ r ≤ 12271) ∨ (12289 ≤ r ∧ r ≤ 55295) ∨ (63744 ≤ r ∧ r ≤ 64975) ∨ (65008 ≤ r ∧ r ≤ 65533) ∨ (65536 ≤ r ∧ r ≤ 983039))
def partP (r : Int) : Bool := startP r || decide (r = 45 ∨ r = 46 ∨ (48 ≤ r ∧ r ≤ 57) ∨ r = 183 ∨ (768 ≤ r ∧ r ≤ 879) ∨ (8255 ≤ r ∧ r ≤ 8256))
theorem in_eq (r : Int) (k : Bool → Option Bool) (l : List T_char_span) (hl : l.length ≤ 9223372036854775807) : (F_char_in r l).bind k = k (inP r l) := by rw [F_in r l hl]; rfl
theorem F_isChar (r : Int) : F_char_IsChar r = some (charP r) := by
 unfold F_char_IsChar charP
 simp only [letJ]
 by_cases c : r = 9 ∨ r = 10 ∨ r = 13
 ·have e : (((r == (9 : Int)) || (r == (10 : Int))) || (r == (13 : Int))) = true := by simp only [Bool.or_eq_true, beq_iff_eq]; omega
  rw [e, cond_true, decide_eq_true (by omega)]
 ·have e : (((r == (9 : Int)) || (r == (10 : Int))) || (r == (13 : Int))) = false := by simp only [Bool.or_eq_false_iff, beq_eq_false_iff_ne]; omega
  rw [e, cond_false, in_eq _ _ _ (by decide)]
  congr 1
  rw [inP_any _ _ (by decide), Bool.eq_iff_iff]
  simp only [List.any_cons, List.any_nil, Bool.or_eq_true, decide_eq_true_eq, Bool.false_eq_true, or_false]
  omega
theorem F_isStart (r : Int) : F_char_IsStart r = some (startP r) := by
 unfold F_char_IsStart startP
 by_cases c : r < 128
 ·rw [decide_eq_true c, cond_true]
  congr 1
  rw [Bool.eq_iff_iff]
  simp only [Bool.or_eq_true, Bool.and_eq_true, beq_iff_eq, decide_eq_true_eq]
  omega
 ·rw [decide_eq_false c, cond_false, in_eq _ _ _ (by decide)]
  congr 1
  rw [inP_any _ _ (by decide), Bool.eq_iff_iff]
  simp only [List.any_cons, List.any_nil, Bool.or_eq_true, decide_eq_true_eq, Bool.false_eq_true, or_false]
  omega
theorem F_isPart (r : Int) : F_char_IsPart r = some (partP r) := by
 unfold F_char_IsPart partP
 rw [F_isStart, Option.bind_some]
 simp only [letJ]
 by_cases c : startP r = true ∨ r = 45 ∨ r = 46 ∨ (48 ≤ r ∧ r ≤ 57) ∨ r = 183
 ·have e : ((((startP r || (r == (45 : Int))) || (r == (46 : Int))) || ((decide ((48 : Int) ≤ r)) && (decide (r ≤ (57 : Int))))) || (r == (183 : Int))) = true := by
   simp only [Bool.or_eq_true, Bool.and_eq_true, beq_iff_eq, decide_eq_true_eq]
   rcases c with c | c
   ·simp [c]
   ·omega
  rw [e, cond_true]
  congr 1
  rcases c with c | c
  ·simp [c]
  ·rw [decide_eq_true (by omega), Bool.or_true]
 ·have hs : startP r = false := by simpa using fun h => c (.inl h)
  have e : ((((startP r || (r == (45 : Int))) || (r == (46 : Int))) || ((decide ((48 : Int) ≤ r)) && (decide (r ≤ (57 : Int))))) || (r == (183 : Int))) = false := by
   rw [Bool.eq_false_iff]
   simp only [ne_eq, Bool.or_eq_true, Bool.and_eq_true, beq_iff_eq, decide_eq_true_eq, hs, Bool.false_eq_true, false_or]
   intro h; apply c; right; omega
  rw [e, cond_false, in_eq _ _ _ (by decide)]
  congr 1
  rw [hs, Bool.false_or]
  rw [inP_any _ _ (by decide), Bool.eq_iff_iff]
  simp only [List.any_cons, List.any_nil, Bool.or_eq_true, decide_eq_true_eq, Bool.false_eq_true, or_false]
  omega
theorem decN_two (n b0 b1 b2 b3 : Nat) : (decodeN n b0 b1 b2 b3).2 = 2 → (decodeN n b0 b1 b2 b3).1 ≤ 2047 := by
 unfold decodeN
 repeat' split
 all_goals first | (intro h; simp only at h; omega) | (intro _; simp only; omega)
theorem badR_iff (l : List UInt8) (x : Nat) (hx : x < l.length) : ((((decodeL (l.drop x)).1 : Int) == (65533 : Int)) && decide (((decodeL (l.drop x)).2 : Int) < (3 : Int))) = badR (decodeL (l.drop x)) := by
 obtain ⟨d1, _⟩ := dec_bytes l x hx
 have e := Lib.decodeL_N (l.drop x)
 have h2 := decN_two (l.drop x).length ((l.drop x).getD 0 0).toNat ((l.drop x).getD 1 0).toNat ((l.drop x).getD 2 0).toNat ((l.drop x).getD 3 0).toNat
 rw [← e] at h2
 unfold badR
 rw [Bool.eq_iff_iff]
 simp only [Bool.and_eq_true, beq_iff_eq, decide_eq_true_eq]
 omega
theorem F_next (p : List UInt8) (x : Nat) (hx : x < p.length) (hl : p.length ≤ 1073741824) : F_char_Next p (x : Int) = some (if badR (decodeL (p.drop x)) then (0, 0, 20) else if charP (decodeL (p.drop x)).1 then (((decodeL (p.drop x)).1 : Int), ((x + (decodeL (p.drop x)).2 : Nat) : Int), 0) else (0, 0, 21)) := by
 obtain ⟨d1, d2, d3, d4⟩ := dec_bytes p x hx
 unfold F_char_Next
 rw [decide_eq_false (by omega), decide_eq_false (by omega)]
 simp only [Bool.or_self, cond_false]
 have hs : slc p (x : Int) (p.length : Int) = some (p.drop x) := by
  unfold slc; rw [if_pos (by omega)]; simp only [Int.toNat_natCast]; rw [List.take_of_length_le (by simp)]
 rw [hs, Option.bind_some]
 have hne : p.drop x ≠ [] := by intro h; have := congrArg List.length h; simp at this; omega
 have hd : L_DecodeRune (p.drop x) = some (((decodeL (p.drop x)).1 : Int), ((decodeL (p.drop x)).2 : Int)) := by
  unfold L_DecodeRune Lib.decodeGo
  rw [if_neg hne, if_neg (by
   show ¬ ((p.drop x).toArray.size = 0)
   simp; omega)]
  rfl
 rw [hd, Option.bind_some]
 simp only [badR_iff p x hx, F_isChar, Option.bind_some]
 cases badR (decodeL (p.drop x))
 ·cases charP ((decodeL (p.drop x)).1 : Int)
  ·rfl
  ·simp only [cond_false, Bool.not_true, Bool.false_eq_true, if_false, if_true]
   rw [w64 (by omega) (by omega)]; rfl
 ·rfl
def okN (l : List UInt8) : Nat → Nat → Bool
 | 0, _ => true
 | n + 1, j => if j < l.length then !badR (decodeL (l.drop j)) && (partP (decodeL (l.drop j)).1 && ((!decide (j = 0) || startP (decodeL (l.drop j)).1) && okN l n (j + (decodeL (l.drop j)).2))) else true
def nameP (l : List UInt8) : Bool := !(decide (l = []) || decide (100 < l.length)) && okN l l.length 0
def sk (P : UInt8 → Bool) (s : List UInt8) (i : Nat) : Nat := i + ((s.drop i).takeWhile P).length
theorem sk_le (P : UInt8 → Bool) (s : List UInt8) (i : Nat) (h : i ≤ s.length) : i ≤ sk P s i ∧ sk P s i ≤ s.length := by
 unfold sk
 have := (List.takeWhile_sublist P (l := s.drop i)).length_le
 rw [List.length_drop] at this
 omega
theorem sk_end (P : UInt8 → Bool) (s : List UInt8) : sk P s s.length = s.length := by simp [sk]
theorem sk_step {P : UInt8 → Bool} {s : List UInt8} {i : Nat} (h : i < s.length) : sk P s i = if P s[i] = true then sk P s (i + 1) else i := by
 unfold sk
 rw [List.drop_eq_getElem_cons h, List.takeWhile_cons]
 split
 ·rw [List.length_cons]; omega
 ·rfl
theorem scan_loop {b : (Int → Option Int) → Int → Option Int} (P : UInt8 → Bool) (s : List UInt8)
  (hb : ∀ (rec : Int → Option Int) (i : Nat) (h : i < s.length), b rec (i : Int) = cond (P s[i]) (rec ((i + 1 : Nat) : Int)) (some (i : Int)))
  (he : ∀ rec : Int → Option Int, b rec (s.length : Int) = some (s.length : Int)) :
  ∀ (n j i : Nat), i + j = s.length → j < n → iter b n (i : Int) = some ((sk P s i : Nat) : Int)
 | 0, j, i, _, h => by omega
 | n + 1, 0, i, e, h => by
  have : i = s.length := by omega
  subst this
  show b (iter b n) _ = _
  rw [he, sk_end]
 | n + 1, j + 1, i, e, h => by
  have hi : i < s.length := by omega
  show b (iter b n) _ = _
  rw [hb _ i hi, sk_step hi]
  cases hP : P s[i] with
  | true => rw [cond_true, if_pos rfl]; exact scan_loop P s hb he n j (i + 1) (by omega) (by omega)
  | false => rw [cond_false, if_neg (by simp)]
theorem nat_u8 (c : UInt8) : ((c.toNat : Int)).toNat.toUInt8 = c := by simp
theorem iter_succ {σ ρ : Type} (b : (σ → Option ρ) → σ → Option ρ) (n : Nat) (x : σ) : iter b (n + 1) x = b (iter b n) x := rfl
def readN (n b0 b1 b2 b3 : Nat) : Int × Int :=
 if b0 < 128 then (b0, 1)
 else if 192 ≤ b0 ∧ b0 < 224 then
  (if n < 2 then (0, 0) else if b1 < 128 ∨ 191 < b1 then (0, 0) else
   if (64 * ((b0 : Int) - 192) + b1 - 128 < 128 ∨ 1114111 < 64 * ((b0 : Int) - 192) + b1 - 128) ∨ (55296 ≤ 64 * ((b0 : Int) - 192) + b1 - 128 ∧ 64 * ((b0 : Int) - 192) + b1 - 128 ≤ 57343) then (0, 0) else (64 * ((b0 : Int) - 192) + b1 - 128, 2))
 else if 224 ≤ b0 ∧ b0 < 240 then
  (if n < 3 then (0, 0) else if b1 < 128 ∨ 191 < b1 then (0, 0) else if b2 < 128 ∨ 191 < b2 then (0, 0) else
   if (64 * (64 * ((b0 : Int) - 224) + b1 - 128) + b2 - 128 < 2048 ∨ 1114111 < 64 * (64 * ((b0 : Int) - 224) + b1 - 128) + b2 - 128) ∨ (55296 ≤ 64 * (64 * ((b0 : Int) - 224) + b1 - 128) + b2 - 128 ∧ 64 * (64 * ((b0 : Int) - 224) + b1 - 128) + b2 - 128 ≤ 57343) then (0, 0) else (64 * (64 * ((b0 : Int) - 224) + b1 - 128) + b2 - 128, 3))
 else if 240 ≤ b0 ∧ b0 < 248 then
  (if n < 4 then (0, 0) else if b1 < 128 ∨ 191 < b1 then (0, 0) else if b2 < 128 ∨ 191 < b2 then (0, 0) else if b3 < 128 ∨ 191 < b3 then (0, 0) else
   if (64 * (64 * (64 * ((b0 : Int) - 240) + b1 - 128) + b2 - 128) + b3 - 128 < 65536 ∨ 1114111 < 64 * (64 * (64 * ((b0 : Int) - 240) + b1 - 128) + b2 - 128) + b3 - 128) ∨ (55296 ≤ 64 * (64 * (64 * ((b0 : Int) - 240) + b1 - 128) + b2 - 128) + b3 - 128 ∧ 64 * (64 * (64 * ((b0 : Int) - 240) + b1 - 128) + b2 - 128) + b3 - 128 ≤ 57343) then (0, 0) else (64 * (64 * (64 * ((b0 : Int) - 240) + b1 - 128) + b2 - 128) + b3 - 128, 4))
 else (0, 0)
open Go.Lib (decodeL decodeN)
abbrev bt (l : List UInt8) (k : Nat) : Nat := (l.getD k 0).toNat
theorem slc_drop {α : Type} {l : List α} {n : Nat} (h : n ≤ l.length) : slc l (n : Int) (l.length : Int) = some (l.drop n) := by
 unfold slc; rw [if_pos (by omega)]; simp only [Int.toNat_natCast]; rw [List.take_of_length_le (by simp)]
theorem slc_take0 {α : Type} {l : List α} {n : Nat} (h : n ≤ l.length) : slc l (0 : Int) (n : Int) = some (l.take n) := by
 unfold slc; rw [if_pos (by omega)]; simp
def hereP (b : List UInt8) (i : Nat) (w : List UInt8) : Bool := w.isPrefixOf (b.drop i)
theorem isPre_take (w l : List UInt8) : w.isPrefixOf l = (decide (w.length ≤ l.length) && (l.take w.length == w)) := by
 rw [Bool.eq_iff_iff, List.isPrefixOf_iff_prefix, Bool.and_eq_true, decide_eq_true_eq, beq_iff_eq, List.prefix_iff_eq_take]
 constructor
 ·intro h
  refine ⟨?_, h.symm⟩
  have := congrArg List.length h
  rw [List.length_take] at this; omega
 ·rintro ⟨_, h⟩; exact h.symm
theorem hasPrefix_eq (l w : List UInt8) : F_bytes_HasPrefix l w = some (w.isPrefixOf l) := by
 unfold F_bytes_HasPrefix F_bytes_Equal
 simp only [letJ]
 rw [isPre_take]
 by_cases h : w.length ≤ l.length
 ·rw [decide_eq_true (show (w.length : Int) ≤ (l.length : Int) by omega), cond_true, slc_take0 h, Option.bind_some, Option.bind_some, decide_eq_true h, Bool.true_and]
 ·rw [decide_eq_false (show ¬ (w.length : Int) ≤ (l.length : Int) by omega), cond_false, decide_eq_false h, Bool.false_and]
theorem here_eq (b : List UInt8) (i : Nat) (w : List UInt8) (hi : i ≤ b.length) : F_scan_scanner_here ⟨b, (i : Int)⟩ w = some (hereP b i w) := by
 unfold F_scan_scanner_here
 dsimp only
 rw [slc_drop hi, Option.bind_some, hasPrefix_eq, Option.bind_some]; rfl
theorem hereP_len {b : List UInt8} {i : Nat} {w : List UInt8} (h : hereP b i w = true) (hi : i ≤ b.length) : i + w.length ≤ b.length := by
 unfold hereP at h
 rw [isPre_take, Bool.and_eq_true, decide_eq_true_eq, List.length_drop] at h
 omega
theorem hereP_one {b : List UInt8} {i : Nat} {c : UInt8} : hereP b i [c] = (b[i]? == some c) := by
 unfold hereP
 by_cases hi : i < b.length
 ·rw [List.drop_eq_getElem_cons hi, List.getElem?_eq_getElem hi]
  simp only [List.isPrefixOf, Bool.and_true]
  rw [Bool.eq_iff_iff, beq_iff_eq, beq_iff_eq, Option.some.injEq]
  exact ⟨fun h => h.symm, fun h => h.symm⟩
 ·rw [List.drop_eq_nil_of_le (by omega), List.getElem?_eq_none (by omega)]; rfl
def wsP (c : UInt8) : Bool := decide ((0 : Int) ≤ Lib.indexByte [32, 9, 10, 13] c)
theorem spaces_eq (b : List UInt8) (a : Int) (i : Nat) (hi : i ≤ b.length) (hb : b.length ≤ 1073741824) : F_scan_scanner_spaces ⟨b, a⟩ (i : Int) = some ((sk wsP b i : Nat) : Int) := by
 unfold F_scan_scanner_spaces
 simp only [letJ]
 have := scan_loop (b := F_scan_scanner_spaces_l0 ⟨b, a⟩) wsP b (fun rec i h => by
  unfold F_scan_scanner_spaces_l0
  simp only [letJ]
  rw [decide_eq_true (by omega), cond_true, idx_some h, Option.bind_some]
  unfold L_IndexByte
  rw [nat_u8, Option.bind_some, w64 (by omega) (by omega)]
  rfl) (fun rec => by
  unfold F_scan_scanner_spaces_l0
  simp only [letJ]
  rw [decide_eq_false (by omega), cond_false, cond_false]) FUEL (b.length - i) i (by omega) (by unfold FUEL; omega)
 rw [this, Option.bind_some]
theorem sign_eq (b : List UInt8) (i : Nat) (w : List UInt8) (hi : i ≤ b.length) (hb : b.length ≤ 1073741824) : F_scan_scanner_sign ⟨b, (i : Int)⟩ w = some (if hereP b i w = true then (0, ⟨b, ((i + w.length : Nat) : Int)⟩) else (23, ⟨b, (i : Int)⟩)) := by
 unfold F_scan_scanner_sign
 rw [here_eq b i w hi, Option.bind_some]
 cases h : hereP b i w with
 | false => rfl
 | true =>
  have := hereP_len h hi
  dsimp only
  rw [Bool.not_true, cond_false, if_pos rfl, w64 (by omega) (by omega)]; rfl
theorem decodeRune_eq (b : List UInt8) (i : Nat) (hi : i < b.length) : L_DecodeRune (b.drop i) = some (((decodeL (b.drop i)).1 : Int), ((decodeL (b.drop i)).2 : Int)) := by
 have hne : b.drop i ≠ [] := by intro h; have := congrArg List.length h; simp at this; omega
 unfold L_DecodeRune Lib.decodeGo
 rw [if_neg hne, if_neg (by
  show ¬ ((b.drop i).toArray.size = 0)
  simp; omega)]
 rfl
theorem iter_dec {σ ρ : Type} {b : (σ → Option ρ) → σ → Option ρ} (μ : σ → Nat) (I : σ → Prop) (R : ρ → Prop)
  (step : ∀ x, I x → (∃ y, (∀ rec, b rec x = rec y) ∧ I y ∧ μ y < μ x) ∨ (∃ o, (∀ rec, b rec x = some o) ∧ R o)) :
  ∀ (n : Nat) (x : σ), I x → μ x < n → ∃ o, iter b n x = some o ∧ R o
 | 0, x, _, h => by omega
 | n + 1, x, hI, h1 => by
  rcases step x hI with ⟨y, e1, hI', hm⟩ | ⟨o, e1, hR⟩
  ·obtain ⟨o, g1, hR⟩ := iter_dec μ I R step n y hI' (by omega)
   exact ⟨o, by show b (iter b n) x = _; rw [e1, g1], hR⟩
  ·exact ⟨o, e1 _, hR⟩
def xmlS (l : List UInt8) : Prop := l = [120, 109, 108] ∨ l = [109, 108] ∨ l = [108] ∨ l = []
abbrev Tk := T_scan_Token
def nmP (l : List T_scan_Pair) : List (List UInt8) := l.map (·.Name)
def namedP (t : Tk) : Bool := ((((t.Kind == (2 : Int)) || (t.Kind == (3 : Int))) || (t.Kind == (4 : Int))) || (t.Kind == (8 : Int)))
structure TokOk (b : List UInt8) (i : Nat) (t : Tk) (j : Nat) : Prop where
 lt : i < j
 at_ : t.At = (i : Int)
 nm : namedP t = !(t.Name == [])
 nd : (nmP t.Pairs).Nodup
 txt : t.Kind = 5 → b[i]? ≠ some 60 ∧ (j = b.length ∨ b[j]? = some 60)
 oth : t.Kind ≠ 5 → b[i]? = some 60
 dec : t.Kind = 1 → i = 0
 len : t.Pairs.length ≤ b.length + 3
def TokR (b : List UInt8) (i : Nat) (x : Int × T_scan_scanner × Tk) : Prop := ∃ (e : Int) (j : Nat) (t : Tk), x = (e, ⟨b, (j : Int)⟩, t) ∧ j ≤ b.length ∧ (e = 0 → TokOk b i t j)

abbrev DeclW : List (List UInt8) := [([118, 101, 114, 115, 105, 111, 110] : List UInt8), ([101, 110, 99, 111, 100, 105, 110, 103] : List UInt8), ([115, 116, 97, 110, 100, 97, 108, 111, 110, 101] : List UInt8)]
theorem u8_nat (c : UInt8) : u8 (c.toNat : Int) = some c := by
 unfold u8
 have := c.toNat_lt
 rw [if_pos (by omega), Int.toNat_natCast]
 simp
def lnP (p : List UInt8) (i : Nat) : List UInt8 := if p.getD i 0 = 13 then [10] else if p.getD i 0 = 10 ∧ 0 < i ∧ p.getD (i - 1) 0 = 13 then [] else [p.getD i 0]
theorem u8_beq (c : UInt8) (n : Nat) (hn : n < 256) : ((c.toNat : Int) == (n : Int)) = decide (c = UInt8.ofNat n) := by
 rw [Bool.eq_iff_iff, beq_iff_eq, decide_eq_true_eq]
 have h2 : (UInt8.ofNat n).toNat = n := by show n % 256 = n; omega
 constructor
 ·intro h; apply UInt8.toNat_inj.1; rw [h2]; omega
 ·rintro rfl; rw [h2]
theorem lines_step1 (p : List UInt8) (i : Nat) (l : List UInt8) (hi : i < p.length) (hl : l.length ≤ i) (hp : p.length ≤ 1073741824) (rec) : F_char_Lines_l0 p rec (l, (i : Int)) = rec (l ++ lnP p i, ((i + 1 : Nat) : Int)) := by
 have hk1 : IntKind.wrap .i64 ((i : Int) + 1) = ((i + 1 : Nat) : Int) := by rw [w64 (by omega) (by omega)]; omega
 have hg : p.getD i 0 = p[i] := by simp [List.getD, hi]
 unfold F_char_Lines_l0
 dsimp only
 rw [decide_eq_true (by omega), cond_true]
 simp only [letJ]
 rw [idx_some hi, Option.bind_some, hk1, show (10 : Int) = ((10 : Nat) : Int) from rfl, show (13 : Int) = ((13 : Nat) : Int) from rfl, u8_beq _ 10 (by omega), u8_beq _ 13 (by omega)]
 have app1 : ∀ c : UInt8, app 1 l [c] = some (l ++ [c]) := fun c => app_some (by simp; omega) (by simp; omega)
 unfold lnP
 rw [hg]
 by_cases c10 : p[i] = 10
 ·by_cases h0 : 0 < i
  ·have hi1 : i - 1 < p.length := by omega
   have hg1 : p.getD (i - 1) 0 = p[i - 1] := by simp [List.getD, hi1]
   have hk2 : IntKind.wrap .i64 ((i : Int) - 1) = ((i - 1 : Nat) : Int) := by rw [w64 (by omega) (by omega)]; omega
   rw [decide_eq_true (show p[i] = UInt8.ofNat 10 from c10), decide_eq_true (show (0 : Int) < (i : Int) by omega), Bool.and_self, cond_true, hk2, idx_some hi1, Option.bind_some, u8_beq _ 13 (by omega), hg1, c10]
   by_cases c13 : p[i - 1] = 13
   ·rw [decide_eq_true (show p[i - 1] = UInt8.ofNat 13 from c13), cond_true, if_neg (by decide), if_pos ⟨rfl, h0, c13⟩, List.append_nil]
   ·rw [decide_eq_false (show ¬ p[i - 1] = UInt8.ofNat 13 from c13), cond_false, decide_eq_false (by decide), cond_false, if_neg (by decide), if_neg (fun h => c13 h.2.2), u8_nat, Option.bind_some, app1, Option.bind_some, Option.bind_some]
  ·rw [decide_eq_false (show ¬ (0 : Int) < (i : Int) by omega), Bool.and_false, cond_false, cond_false, c10, decide_eq_false (by decide), cond_false, if_neg (by decide), if_neg (fun h => h0 h.2.1), u8_nat, Option.bind_some, app1, Option.bind_some, Option.bind_some]
 ·rw [decide_eq_false (show ¬ p[i] = UInt8.ofNat 10 from c10), Bool.false_and, cond_false, cond_false]
  by_cases c13 : p[i] = 13
  ·rw [decide_eq_true (show p[i] = UInt8.ofNat 13 from c13), cond_true, if_pos c13, show u8 ((10 : Nat) : Int) = some 10 from rfl, Option.bind_some, app1, Option.bind_some, Option.bind_some]
  ·rw [decide_eq_false (show ¬ p[i] = UInt8.ofNat 13 from c13), cond_false, if_neg c13, if_neg (fun h => c10 h.1), u8_nat, Option.bind_some, app1, Option.bind_some, Option.bind_some]
theorem lnP_len (p : List UInt8) (i : Nat) : (lnP p i).length ≤ 1 := by
 unfold lnP; split
 ·simp
 ·split <;> simp
def Pos (b : List UInt8) (L : List Tk) (j : Nat) : Prop := (∀ k t, L[k]? = some t → ∃ i j', TokOk b i t j' ∧ i < b.length ∧ (k = 0 → i = 0) ∧ (∀ t', 0 < k → L[k - 1]? = some t' → ∃ i', TokOk b i' t' i)) ∧ (L = [] → j = 0) ∧ (∀ t, 0 < L.length → L[L.length - 1]? = some t → ∃ i, TokOk b i t j)
structure Agr (U V : List UInt8) (n : Nat) : Prop where
 tk : U.take n = V.take n
 u : n ≤ U.length
 v : n ≤ V.length
 dec : ∀ j, j < n → decodeL (U.drop j) = decodeL (V.drop j)
theorem Agr.symm {U V : List UInt8} {n : Nat} (A : Agr U V n) : Agr V U n := ⟨A.tk.symm, A.v, A.u, fun j h => (A.dec j h).symm⟩
theorem Agr.get {U V : List UInt8} {n : Nat} (A : Agr U V n) {j : Nat} (h : j < n) : U[j]? = V[j]? := by
 have := congrArg (fun l : List UInt8 => l[j]?) A.tk
 simpa [List.getElem?_take, h] using this
theorem Agr.seg {U V : List UInt8} {n : Nat} (A : Agr U V n) {a k : Nat} (h : a + k ≤ n) : (U.drop a).take k = (V.drop a).take k := by
 apply List.ext_getElem?
 intro x
 rw [List.getElem?_take, List.getElem?_take]
 split
 ·rw [List.getElem?_drop, List.getElem?_drop, A.get (by omega)]
 ·rfl
theorem Agr.here {U V : List UInt8} {n : Nat} (A : Agr U V n) {j : Nat} {w : List UInt8} (h : j + w.length ≤ n) : hereP U j w = hereP V j w := by
 have h1 := A.u
 have h2 := A.v
 unfold hereP
 rw [isPre_take, isPre_take, A.seg h, decide_eq_true (by rw [List.length_drop]; omega), decide_eq_true (by rw [List.length_drop]; omega)]
theorem Agr.sk {U V : List UInt8} {n : Nat} (A : Agr U V n) (P : UInt8 → Bool) : ∀ (d j : Nat), j + d = n → Proofs.YtilhbalhkljanaaGreatDoor.sk P U j < n → Proofs.YtilhbalhkljanaaGreatDoor.sk P V j = Proofs.YtilhbalhkljanaaGreatDoor.sk P U j
 | d, j, hd, h => by
  have h1 := A.u
  have h2 := A.v
  have hj : j < n := by
   have := (sk_le P U j (by omega)).1
   omega
  have hg : U[j]'(by omega) = V[j]'(by omega) := by
   have := A.get hj
   rw [List.getElem?_eq_getElem (by omega), List.getElem?_eq_getElem (by omega)] at this
   exact Option.some.inj this
  rw [sk_step (by omega : j < U.length)] at h ⊢
  rw [sk_step (by omega : j < V.length), hg]
  rw [hg] at h
  cases hp : P (V[j]'(by omega)) with
  | false => rfl
  | true =>
   rw [hp, if_pos rfl] at h
   rw [if_pos rfl, if_pos rfl]
   cases d with
   | zero => omega
   | succ d => exact Agr.sk A P d (j + 1) (by omega) h
def stopN (i k r : Int) : Bool := (r != 58) && (!partP r || ((k == i) && !startP r))
theorem name_step (b : List UInt8) (i k : Nat) (hk : k < b.length) (hb : b.length ≤ 1073741824) (rec : Int → Option Int) : F_scan_scanner_name_l0 ⟨b, (i : Int)⟩ rec (k : Int) = cond (stopN i k ((decodeL (b.drop k)).1 : Int)) (some (k : Int)) (rec ((k + (decodeL (b.drop k)).2 : Nat) : Int)) := by
 obtain ⟨d1, d2, _⟩ := dec_bytes b k hk
 unfold F_scan_scanner_name_l0
 dsimp only
 rw [decide_eq_true (by omega), cond_true, slc_drop (Nat.le_of_lt hk), Option.bind_some, decodeRune_eq b k hk, Option.bind_some]
 simp only [letJ, F_isPart, F_isStart, Option.bind_some]
 have hgo : IntKind.wrap .i64 ((k : Int) + ((decodeL (b.drop k)).2 : Int)) = ((k + (decodeL (b.drop k)).2 : Nat) : Int) := by rw [w64 (by omega) (by omega)]; omega
 rw [hgo]
 unfold stopN
 cases ((decodeL (b.drop k)).1 : Int) != 58 with
 | false => rfl
 | true =>
  cases partP ((decodeL (b.drop k)).1 : Int) with
  | false => rfl
  | true =>
   cases ((k : Int) == (i : Int)) with
   | false => rfl
   | true => cases startP ((decodeL (b.drop k)).1 : Int) <;> rfl
theorem name_eq (b : List UInt8) (i j : Nat) (h : iter (F_scan_scanner_name_l0 ⟨b, (i : Int)⟩) FUEL (i : Int) = some (j : Int)) (h1 : i ≤ j) (h2 : j ≤ b.length) :
  F_scan_scanner_name ⟨b, (i : Int)⟩ = cond ((b.drop i).take (j - i) == ([] : List UInt8)) (some (([], 23), ⟨b, (i : Int)⟩)) ((F_char_Split ((b.drop i).take (j - i))).bind fun x => cond (!x.2.2) (some (([], 24), ⟨b, (i : Int)⟩)) (some (((b.drop i).take (j - i), 0), ⟨b, (j : Int)⟩))) := by
 unfold F_scan_scanner_name
 simp only [letJ]
 rw [h, Option.bind_some]
 have hsl : slc b (i : Int) (j : Int) = some ((b.drop i).take (j - i)) := by
  unfold slc; rw [if_pos (by omega)]; simp only [Int.toNat_natCast]
 rw [hsl, Option.bind_some]
theorem Agr.index {U V : List UInt8} {n : Nat} (A : Agr U V n) {a m : Nat} {w : List UInt8} (h : Lib.index (U.drop a) w = (m : Int)) (hm : a + m + w.length ≤ n) : Lib.index (V.drop a) w = (m : Int) := by
 have h1 := A.v
 have oc : ∀ k, k ≤ m → Lib.occAt (V.drop a) w k = Lib.occAt (U.drop a) w k := by
  intro k hk
  unfold Lib.occAt
  rw [List.drop_drop, List.drop_drop]
  exact (A.here (j := a + k) (w := w) (by omega)).symm
 rcases Lib.index_spec (U.drop a) w with ⟨g, _⟩ | ⟨i, g1, g2, g3, g4⟩
 ·omega
 ·have : i = m := by omega
  subst this
  refine Lib.index_first (by rw [List.length_drop]; omega) (by rw [oc i (Nat.le_refl _)]; exact g3) fun k hk => ?_
  rw [oc k (by omega)]
  exact g4 k hk
def quo (b : List UInt8) (i : Nat) : ((List UInt8) × Int) × T_scan_scanner :=
 if (hereP b i [39] = true ∨ hereP b i [34] = true) ∧ 0 ≤ Lib.indexByte (b.drop (i + 1)) (b.getD i 0) then (((b.drop (i + 1)).take (Lib.indexByte (b.drop (i + 1)) (b.getD i 0)).toNat, 0), ⟨b, ((i + ((Lib.indexByte (b.drop (i + 1)) (b.getD i 0)).toNat + 2) : Nat) : Int)⟩) else (([], 23), ⟨b, (i : Int)⟩)

def HdP (k : Nat) (c : UInt8) : Prop := c = 63 ∨ (k ≤ 0 ∧ c = 118) ∨ (k ≤ 1 ∧ c = 101) ∨ (k ≤ 2 ∧ c = 115)
abbrev tok0 (i : Int) : Tk := ⟨(0 : Int), i, ([] : List UInt8), ([] : List T_scan_Pair), ([] : List UInt8), (0 : Int)⟩
abbrev tokK (k i : Int) : Tk := ⟨k, i, ([] : List UInt8), ([] : List T_scan_Pair), ([] : List UInt8), (0 : Int)⟩
def tokRest (b : List UInt8) (i : Nat) : Option (Int × T_scan_scanner × Tk) :=
 cond (hereP b i [60, 33, 45, 45])
  ((F_scan_scanner_upTo ⟨b, (i : Int)⟩ (tokK 7 i) (4 : Int) ([45, 45] : List UInt8)).bind fun x14 => cond (x14.1 != (0 : Int)) (some x14) ((F_scan_scanner_sign x14.2.1 ([62] : List UInt8)).bind fun x17 => some (x17.1, x17.2, x14.2.2)))
 (cond (hereP b i [60, 33, 91, 67, 68, 65, 84, 65, 91]) (F_scan_scanner_upTo ⟨b, (i : Int)⟩ (tokK 6 i) (9 : Int) ([93, 93, 62] : List UInt8))
 (cond (hereP b i [60, 33, 68, 79, 67, 84, 89, 80, 69]) (some (25, ⟨b, (i : Int)⟩, tok0 i))
 (cond (hereP b i [60, 33]) (some (23, ⟨b, (i : Int)⟩, tok0 i))
 (cond (hereP b i [60, 63]) (F_scan_scanner_instr ⟨b, (i : Int)⟩ (tok0 i))
 (cond (hereP b i [60, 47]) (F_scan_scanner_closing ⟨b, (i : Int)⟩ (tok0 i))
 (cond (hereP b i [60]) (F_scan_scanner_tag ⟨b, (i : Int)⟩ (tok0 i)) (F_scan_scanner_text ⟨b, (i : Int)⟩ (tok0 i))))))))
def declP (b : List UInt8) (i : Nat) : Bool := decide (i = 0) && (hereP b 0 [60, 63, 120, 109, 108] && decide (5 < sk wsP b 5))
theorem bind_eta (o : Option (Int × T_scan_scanner × T_scan_Token)) : (o.bind fun x => some (x.1, x.2.1, x.2.2)) = o := by cases o <;> rfl
theorem token_eq (b : List UInt8) (i : Nat) (hi : i ≤ b.length) (hb : b.length ≤ 1073741824) : F_scan_scanner_token ⟨b, (i : Int)⟩ (tok0 i) = cond (declP b i) (F_scan_scanner_decl ⟨b, (0 : Int)⟩ (tok0 0)) (tokRest b i) := by
 have rest : ((F_scan_scanner_here (⟨b, (i : Int)⟩ : T_scan_scanner) ([60, 33, 45, 45] : List UInt8)).bind fun x12 =>
    cond x12
    ((F_scan_scanner_upTo ⟨b, (i : Int)⟩ (⟨(7 : Int), (i : Int), ([] : List UInt8), ([] : List T_scan_Pair), ([] : List UInt8), (0 : Int)⟩ : T_scan_Token) (4 : Int) ([45, 45] : List UInt8)).bind fun x14 =>
    cond (x14.1 != (0 : Int))
     (some (x14.1, x14.2.1, x14.2.2))
     ((F_scan_scanner_sign x14.2.1 ([62] : List UInt8)).bind fun x17 =>
     some (x17.1, x17.2, x14.2.2)))
    ((F_scan_scanner_here (⟨b, (i : Int)⟩ : T_scan_scanner) ([60, 33, 91, 67, 68, 65, 84, 65, 91] : List UInt8)).bind fun x18 =>
    cond x18
     ((F_scan_scanner_upTo ⟨b, (i : Int)⟩ (⟨(6 : Int), (i : Int), ([] : List UInt8), ([] : List T_scan_Pair), ([] : List UInt8), (0 : Int)⟩ : T_scan_Token) (9 : Int) ([93, 93, 62] : List UInt8)).bind fun x20 =>
     some (x20.1, x20.2.1, x20.2.2))
     ((F_scan_scanner_here (⟨b, (i : Int)⟩ : T_scan_scanner) ([60, 33, 68, 79, 67, 84, 89, 80, 69] : List UInt8)).bind fun x22 =>
     cond x22
     (some ((25 : Int), (⟨b, (i : Int)⟩ : T_scan_scanner), (⟨(0 : Int), (i : Int), ([] : List UInt8), ([] : List T_scan_Pair), ([] : List UInt8), (0 : Int)⟩ : T_scan_Token)))
     ((F_scan_scanner_here (⟨b, (i : Int)⟩ : T_scan_scanner) ([60, 33] : List UInt8)).bind fun x24 =>
     cond x24
      (some ((23 : Int), (⟨b, (i : Int)⟩ : T_scan_scanner), (⟨(0 : Int), (i : Int), ([] : List UInt8), ([] : List T_scan_Pair), ([] : List UInt8), (0 : Int)⟩ : T_scan_Token)))
      ((F_scan_scanner_here (⟨b, (i : Int)⟩ : T_scan_scanner) ([60, 63] : List UInt8)).bind fun x26 =>
      cond x26
      ((F_scan_scanner_instr (⟨b, (i : Int)⟩ : T_scan_scanner) ⟨(0 : Int), (i : Int), ([] : List UInt8), ([] : List T_scan_Pair), ([] : List UInt8), (0 : Int)⟩).bind fun x28 =>
      some (x28.1, x28.2.1, x28.2.2))
      ((F_scan_scanner_here (⟨b, (i : Int)⟩ : T_scan_scanner) ([60, 47] : List UInt8)).bind fun x30 =>
      cond x30
       ((F_scan_scanner_closing (⟨b, (i : Int)⟩ : T_scan_scanner) ⟨(0 : Int), (i : Int), ([] : List UInt8), ([] : List T_scan_Pair), ([] : List UInt8), (0 : Int)⟩).bind fun x32 =>
       some (x32.1, x32.2.1, x32.2.2))
       ((F_scan_scanner_here (⟨b, (i : Int)⟩ : T_scan_scanner) ([60] : List UInt8)).bind fun x34 =>
       cond x34
       ((F_scan_scanner_tag (⟨b, (i : Int)⟩ : T_scan_scanner) ⟨(0 : Int), (i : Int), ([] : List UInt8), ([] : List T_scan_Pair), ([] : List UInt8), (0 : Int)⟩).bind fun x36 =>
       some (x36.1, x36.2.1, x36.2.2))
       ((F_scan_scanner_text (⟨b, (i : Int)⟩ : T_scan_scanner) ⟨(0 : Int), (i : Int), ([] : List UInt8), ([] : List T_scan_Pair), ([] : List UInt8), (0 : Int)⟩).bind fun x38 =>
       some (x38.1, x38.2.1, x38.2.2))))))))) = tokRest b i := by
  simp only [here_eq b i _ hi, Option.bind_some, bind_eta]
  rfl
 unfold F_scan_scanner_token
 simp only [letJ]
 unfold declP
 by_cases h0 : i = 0
 ·subst h0
  rw [show (((0 : Nat) : Int) == (0 : Int)) = true from rfl, cond_true, here_eq b 0 _ hi, Option.bind_some, decide_eq_true (rfl : (0 : Nat) = 0), Bool.true_and]
  cases c0 : hereP b 0 [60, 63, 120, 109, 108] with
  | false => rw [cond_false, cond_false, Bool.false_and, cond_false]; exact rest
  | true =>
   have hl := hereP_len c0 hi
   have h5 : 5 ≤ b.length := by simpa using hl
   rw [cond_true, show (5 : Int) = ((5 : Nat) : Int) from rfl, spaces_eq b _ 5 h5 hb, Option.bind_some, Bool.true_and]
   by_cases h5' : 5 < sk wsP b 5
   ·rw [decide_eq_true (show (((5 : Nat) : Int) < ((sk wsP b 5 : Nat) : Int)) by omega), decide_eq_true h5', cond_true, cond_true, bind_eta]; rfl
   ·rw [decide_eq_false (show ¬ (((5 : Nat) : Int) < ((sk wsP b 5 : Nat) : Int)) by omega), decide_eq_false h5', cond_false, cond_false]; exact rest
 ·rw [show ((i : Int) == (0 : Int)) = false by rw [beq_eq_false_iff_ne]; omega, cond_false, cond_false, decide_eq_false h0, Bool.false_and, cond_false]
  exact rest
theorem decN_more {n m b0 b1 b2 b3 c1 c2 c3 : Nat} (h : badR (decodeN n b0 b1 b2 b3) = false) (hnm : n ≤ m) (h1 : 1 < n → c1 = b1) (h2 : 2 < n → c2 = b2) (h3 : 3 < n → c3 = b3) : decodeN m b0 c1 c2 c3 = decodeN n b0 b1 b2 b3 := by
 have hb : ¬ ((decodeN n b0 b1 b2 b3).1 = 65533 ∧ (decodeN n b0 b1 b2 b3).2 = 1) := by
  unfold badR at h; simpa using h
 unfold decodeN at hb ⊢
 by_cases a0 : b0 < 128
 ·rw [if_pos a0, if_pos a0]
 rw [if_neg a0] at hb
 rw [if_neg a0, if_neg a0]
 by_cases a1 : b0 / 32 = 6 ∧ (1 < n ∧ b1 / 64 = 2)
 ·have e1 := h1 a1.2.1
  rw [if_pos a1, if_pos ⟨a1.1, by omega, by rw [e1]; exact a1.2.2⟩, e1]
 rw [if_neg a1] at hb
 rw [if_neg a1]
 by_cases a2 : b0 / 16 = 14 ∧ (1 < n ∧ b1 / 64 = 2) ∧ (2 < n ∧ b2 / 64 = 2)
 ·have e1 := h1 a2.2.1.1
  have e2 := h2 a2.2.2.1
  rw [if_pos a2, if_neg (by omega), if_pos ⟨a2.1, ⟨by omega, by rw [e1]; exact a2.2.1.2⟩, by omega, by rw [e2]; exact a2.2.2.2⟩, e1, e2]
 rw [if_neg a2] at hb
 rw [if_neg a2]
 by_cases a3 : b0 / 8 = 30 ∧ (1 < n ∧ b1 / 64 = 2) ∧ (2 < n ∧ b2 / 64 = 2) ∧ (3 < n ∧ b3 / 64 = 2)
 ·have e1 := h1 a3.2.1.1
  have e2 := h2 a3.2.2.1.1
  have e3 := h3 a3.2.2.2.1
  rw [if_pos a3, if_neg (by omega), if_neg (by omega), if_pos ⟨a3.1, ⟨by omega, by rw [e1]; exact a3.2.1.2⟩, ⟨by omega, by rw [e2]; exact a3.2.2.1.2⟩, by omega, by rw [e3]; exact a3.2.2.2.2⟩, e1, e2, e3]
 rw [if_neg a3] at hb
 exact absurd ⟨rfl, rfl⟩ hb
theorem getD_appL {x y : List UInt8} {k : Nat} (h : k < x.length) : (x ++ y).getD k 0 = x.getD k 0 := by
 simp [List.getD, List.getElem?_append_left h]
theorem dec_app {x y : List UInt8} (hx : x ≠ []) (h : badR (decodeL x) = false) : decodeL (x ++ y) = decodeL x := by
 have hp : 0 < x.length := List.length_pos_iff.2 hx
 rw [Lib.decodeL_N x] at h ⊢
 rw [Lib.decodeL_N (x ++ y), getD_appL hp]
 exact decN_more h (by rw [List.length_append]; omega) (fun g => by rw [getD_appL g]) (fun g => by rw [getD_appL g]) (fun g => by rw [getD_appL g])
theorem dec_ascii (c : UInt8) (y : List UInt8) (hc : c.toNat < 128) : decodeL (c :: y) = (c.toNat, 1) := by
 have := (dec_bytes (c :: y) 0 (by simp)).2.2.1
 simpa using this hc
inductive OkT : List UInt8 → Prop
 | nil : OkT []
 | cons {l : List UInt8} : l ≠ [] → badR (decodeL l) = false → charP ((decodeL l).1 : Int) = true → OkT (l.drop (decodeL l).2) → OkT l
theorem okT_inv {l : List UInt8} (h : OkT l) (hl : l ≠ []) : badR (decodeL l) = false ∧ charP ((decodeL l).1 : Int) = true ∧ OkT (l.drop (decodeL l).2) := by
 cases h with
 | nil => exact absurd rfl hl
 | cons _ a b c => exact ⟨a, b, c⟩
theorem dec_pos {l : List UInt8} (h : l ≠ []) : 1 ≤ (decodeL l).2 ∧ (decodeL l).2 ≤ l.length := by
 have := dec_bytes l 0 (List.length_pos_iff.2 h)
 simp only [List.drop_zero, Nat.zero_add] at this
 exact ⟨this.1, this.2.1⟩
theorem okT_app {x y : List UInt8} (hx : OkT x) (hy : OkT y) : OkT (x ++ y) := by
 induction hx with
 | nil => exact hy
 | @cons l h1 h2 h3 h4 ih =>
  have e := dec_app (y := y) h1 h2
  refine .cons (by simp [h1]) (by rw [e]; exact h2) (by rw [e]; exact h3) ?_
  rw [e, List.drop_append_of_le_length (dec_pos h1).2]
  exact ih
theorem okT_ascii (c : UInt8) (y : List UInt8) (hc : c.toNat < 128) (hp : charP (c.toNat : Int) = true) (hy : OkT y) : OkT (c :: y) := by
 have e := dec_ascii c y hc
 refine .cons (by simp) (by rw [e]; unfold badR; simp; omega) (by rw [e]; exact hp) (by rw [e]; exact hy)
theorem fault_step (b : List UInt8) (i : Nat) (hi : i < b.length) (hb : b.length ≤ 1073741824) (rec) : F_char_Fault_l0 b rec (i : Int) = if badR (decodeL (b.drop i)) then some (.inr ((i : Int), (20 : Int))) else if charP ((decodeL (b.drop i)).1 : Int) then rec ((i + (decodeL (b.drop i)).2 : Nat) : Int) else some (.inr ((i : Int), (21 : Int))) := by
 unfold F_char_Fault_l0
 rw [decide_eq_true (show (i : Int) < (b.length : Int) by omega), cond_true, F_next b i hi hb, Option.bind_some]
 cases badR (decodeL (b.drop i)) with
 | true => rfl
 | false => cases charP ((decodeL (b.drop i)).1 : Int) <;> rfl
theorem drop_nn {α : Type} {l : List α} {i : Nat} (h : i < l.length) : l.drop i ≠ [] := fun g => by
 have := congrArg List.length g; simp at this; omega
theorem fault_iff (b : List UInt8) (hb : b.length ≤ 1073741824) : (F_char_Fault b = some (0, 0) ∧ OkT b) ∨ (∃ (i : Nat) (e : Int), F_char_Fault b = some ((i : Int), e) ∧ e ≠ 0 ∧ ¬ OkT b ∧ i ≤ b.length) := by
 obtain ⟨o, e, h⟩ := iter_dec (b := F_char_Fault_l0 b) (fun x => b.length - x.toNat) (fun x => ∃ i : Nat, x = (i : Int) ∧ i ≤ b.length ∧ (OkT b ↔ OkT (b.drop i))) (fun o => (o = .inl () ∧ OkT b) ∨ ∃ (i : Nat) (f : Int), o = .inr ((i : Int), f) ∧ f ≠ 0 ∧ ¬ OkT b ∧ i ≤ b.length) (by
  rintro _ ⟨i, rfl, hi, hiff⟩
  by_cases hlt : i < b.length
  ·obtain ⟨d1, d2, _⟩ := dec_bytes b i hlt
   have hne := drop_nn hlt
   simp only [fault_step b i hlt hb]
   cases hbad : badR (decodeL (b.drop i)) with
   | true =>
    right
    exact ⟨_, fun _ => rfl, .inr ⟨i, 20, rfl, by decide, fun h => (by have := (okT_inv (hiff.1 h) hne).1; rw [hbad] at this; cases this), hi⟩⟩
   | false =>
    cases hc : charP ((decodeL (b.drop i)).1 : Int) with
    | false =>
     right
     exact ⟨_, fun _ => rfl, .inr ⟨i, 21, rfl, by decide, fun h => (by have := (okT_inv (hiff.1 h) hne).2.1; rw [hc] at this; cases this), hi⟩⟩
    | true =>
     left
     refine ⟨_, fun _ => rfl, ⟨i + (decodeL (b.drop i)).2, rfl, d2, hiff.trans ?_⟩, by rw [Int.toNat_natCast, Int.toNat_natCast]; omega⟩
     rw [← List.drop_drop]
     exact ⟨fun h => (okT_inv h hne).2.2, fun h => .cons hne hbad hc h⟩
  ·right
   refine ⟨.inl (), fun rec => ?_, .inl ⟨rfl, ?_⟩⟩
   ·unfold F_char_Fault_l0
    rw [decide_eq_false (by omega), cond_false]
   ·rw [hiff, List.drop_eq_nil_of_le (by omega)]; exact .nil) FUEL (0 : Int) ⟨0, rfl, Nat.zero_le _, by rw [List.drop_zero]⟩ (by unfold FUEL; omega)
 unfold F_char_Fault
 simp only [letJ]
 rw [e, Option.bind_some]
 rcases h with ⟨rfl, h⟩ | ⟨i, f, rfl, hf, hn, hi⟩
 ·exact .inl ⟨rfl, h⟩
 ·exact .inr ⟨i, f, rfl, hf, hn, hi⟩
def lnR : Bool → List UInt8 → List UInt8
 | _, [] => []
 | pc, c :: l => if c = 13 then 10 :: lnR true l else if c = 10 ∧ pc = true then lnR false l else c :: lnR false l
theorem lnR_step (p : List UInt8) (i : Nat) (hi : i < p.length) : lnR (decide (0 < i ∧ p.getD (i - 1) 0 = 13)) (p.drop i) = lnP p i ++ lnR (decide (0 < i + 1 ∧ p.getD (i + 1 - 1) 0 = 13)) (p.drop (i + 1)) := by
 have hg : p.getD i 0 = p[i] := by simp [List.getD, hi]
 rw [List.drop_eq_getElem_cons hi, Nat.add_sub_cancel]
 simp only [lnR]
 unfold lnP
 rw [hg]
 by_cases h13 : p[i] = 13
 ·rw [if_pos h13, if_pos h13, decide_eq_true (by exact ⟨by omega, h13⟩)]; rfl
 ·rw [if_neg h13, if_neg h13, decide_eq_false (show ¬ (0 < i + 1 ∧ p[i] = 13) from fun h => h13 h.2)]
  by_cases h10 : p[i] = 10 ∧ 0 < i ∧ p.getD (i - 1) 0 = 13
  ·rw [if_pos ⟨h10.1, decide_eq_true h10.2⟩, if_pos h10]; rfl
  ·rw [if_neg (fun h => h10 ⟨h.1, of_decide_eq_true h.2⟩), if_neg h10]; rfl
theorem lines_eq (p : List UInt8) (hp : p.length ≤ 1073741824) : F_char_Lines p = some (lnR false p) := by
 obtain ⟨o, e, h⟩ := iter_dec (b := F_char_Lines_l0 p) (fun x => p.length - x.2.toNat) (fun x => ∃ (l : List UInt8) (i : Nat), x = (l, (i : Int)) ∧ i ≤ p.length ∧ l.length ≤ i ∧ l ++ lnR (decide (0 < i ∧ p.getD (i - 1) 0 = 13)) (p.drop i) = lnR false p) (fun o => o = lnR false p) (by
  rintro _ ⟨l, i, rfl, hi, hl, hE⟩
  by_cases hlt : i < p.length
  ·left
   have := lnP_len p i
   rw [lnR_step p i hlt, ← List.append_assoc] at hE
   exact ⟨_, fun rec => lines_step1 p i l hlt hl hp rec, ⟨_, i + 1, rfl, by omega, by rw [List.length_append]; omega, hE⟩, by dsimp only; omega⟩
  ·right
   rw [List.drop_eq_nil_of_le (by omega)] at hE
   refine ⟨l, fun rec => ?_, by rw [← hE]; simp [lnR]⟩
   unfold F_char_Lines_l0; dsimp only; rw [decide_eq_false (by omega), cond_false]) FUEL (([] : List UInt8), (0 : Int)) ⟨[], 0, rfl, Nat.zero_le _, Nat.le_refl _, by simp⟩ (by unfold FUEL; dsimp only; omega)
 unfold F_char_Lines
 simp only [letJ]
 rw [show mkG 1 (0 : Int) (p.length : Int) = some () by unfold mkG; rw [if_pos (by omega)], Option.bind_some, Option.bind_some, show (List.replicate (Int.toNat (0 : Int)) (0 : UInt8)) = [] from rfl, e, Option.bind_some, h]
def strip (p : List UInt8) : List UInt8 := if ([239, 187, 191] : List UInt8).isPrefixOf p = true then p.drop 3 else p
def pln (p : List UInt8) : List UInt8 := lnR false (strip p)
theorem plain_eq (p : List UInt8) (hp : p.length ≤ 1073741824) : F_scan_Plain p = some (pln p) := by
 unfold F_scan_Plain F_bytes_TrimPrefix
 rw [show u8 (239 : Int) = some 239 from rfl, show u8 (187 : Int) = some 187 from rfl, show u8 (191 : Int) = some 191 from rfl, Option.bind_some, Option.bind_some, Option.bind_some, hasPrefix_eq, Option.bind_some]
 unfold pln strip
 cases h : ([239, 187, 191] : List UInt8).isPrefixOf p with
 | true =>
  have h' := h
  rw [isPre_take, Bool.and_eq_true, decide_eq_true_eq] at h'
  rw [cond_true, if_pos rfl, show slc p ((([239, 187, 191] : List UInt8).length : Nat) : Int) (p.length : Int) = some (p.drop 3) from slc_drop (n := 3) (by simpa using h'.1), Option.bind_some, Option.bind_some, lines_eq _ (by rw [List.length_drop]; omega), Option.bind_some]
 | false => rw [cond_false, if_neg (by simp), Option.bind_some, lines_eq p hp, Option.bind_some]
def textR (b : List UInt8) (i f : Nat) : Option (Int × T_scan_scanner × Tk) :=
 (F_refer_ReadText ((b.drop i).take (f - i))).bind fun x => (L_bCount ((b.drop i).take (f - i)) ([38] : List UInt8)).bind fun y => some (x.2.2, (⟨b, (f : Int)⟩ : T_scan_scanner), (⟨(5 : Int), (i : Int), [], [], x.1, y⟩ : Tk))
structure TxtAt (b : List UInt8) (i f : Nat) : Prop where
 lt : i < f
 le : f ≤ b.length
 no : ∀ x, i ≤ x → x < f → b[x]? ≠ some 60
 ed : f = b.length ∨ b[f]? = some 60
inductive Tr (b : List UInt8) : List Tk → Nat → Prop
 | nil : Tr b [] 0
 | snoc {L : List Tk} {j k : Nat} {t : Tk} : Tr b L j → j < b.length → F_scan_scanner_token ⟨b, (j : Int)⟩ (tok0 j) = some (0, ⟨b, (k : Int)⟩, t) → TokOk b j t k → k ≤ b.length → Tr b (L ++ [t]) k
theorem all_step {b : List UInt8} {L : List Tk} {j k : Nat} {t : Tk} (hL : L.length ≤ 65536) (hj : j < b.length) (h : F_scan_scanner_token ⟨b, (j : Int)⟩ (tok0 j) = some (0, ⟨b, (k : Int)⟩, t)) (rec) : F_scan_All_l0 rec (b, (j : Int), L) = rec (b, (k : Int), L ++ [t]) := by
 have hne : ((j : Int) == (b.length : Int)) = false := by rw [beq_eq_false_iff_ne]; omega
 have h' : F_scan_scanner_token ⟨b, (j : Int)⟩ ⟨(0 : Int), (j : Int), ([] : List UInt8), ([] : List T_scan_Pair), ([] : List UInt8), (0 : Int)⟩ = some (0, ⟨b, (k : Int)⟩, t) := h
 unfold F_scan_All_l0
 dsimp only
 rw [hne, cond_false, h', Option.bind_some]
 dsimp only
 rw [show ((0 : Int) != 0) = false from rfl, cond_false, app_some (by simp; omega) (by simp; omega), Option.bind_some, Option.bind_some]
theorem all_end (b : List UInt8) (L : List Tk) (rec) : F_scan_All_l0 rec (b, (b.length : Int), L) = some (L, (0 : Int), (0 : Int)) := by
 unfold F_scan_All_l0
 dsimp only
 rw [show ((b.length : Int) == (b.length : Int)) = true by simp, cond_true]
theorem all_eq (p : List UInt8) (hp : p.length ≤ 65536) : F_scan_All p = (F_char_Fault (pln p)).bind fun x4 => cond (x4.2 != (0 : Int)) (some ([], x4.1, x4.2)) (iter F_scan_All_l0 FUEL (pln p, (0 : Int), ([] : List T_scan_Token))) := by
 have hbind : ∀ o : Option (List T_scan_Token × Int × Int), (o.bind fun x => some x) = o := fun o => by cases o <;> rfl
 unfold F_scan_All
 rw [decide_eq_false (by omega), cond_false, plain_eq p (by omega), Option.bind_some]
 dsimp only
 rw [hbind]


theorem lnR_id : ∀ (l : List UInt8), (13 : UInt8) ∉ l → lnR false l = l
 | [], _ => rfl
 | c :: l, h => by
  simp only [List.mem_cons, not_or] at h
  simp only [lnR]
  rw [if_neg (fun e => h.1 e.symm), if_neg (by simp), lnR_id l h.2]
abbrev bom : List UInt8 := [239, 187, 191]
def mrk (x : List UInt8) : List UInt8 := if bom.isPrefixOf x = true then bom ++ x else x
theorem sk_pass {P : UInt8 → Bool} : ∀ (g : List UInt8) {b : List UInt8} {i : Nat} {c : UInt8} {y : List UInt8}, b.drop i = g ++ c :: y → (∀ d ∈ g, P d = true) → P c = false → sk P b i = i + g.length
 | [], b, i, c, y, e, _, hc => by
  unfold sk
  rw [e, List.nil_append, List.takeWhile_cons, hc]; rfl
 | d :: g, b, i, c, y, e, hg, hc => by
  unfold sk
  rw [e]
  have : ((d :: g) ++ c :: y).takeWhile P = d :: g := by
   rw [List.takeWhile_append_of_pos (fun x hx => hg x hx), List.takeWhile_cons, hc]
   simp
  rw [this]
theorem tag_l0_end {U : List UInt8} (hU : U.length ≤ 1073741824) (At : Int) (Nm Tx : List UInt8) (rf : Int) (m j : Nat) (ps : List T_scan_Pair) (y z : List UInt8) (g2 : j ≤ U.length) (c1 : hereP U (sk wsP U j) [47, 62] = true) :
  iter F_scan_scanner_tag_l0 (m + 1) (U, (j : Int), (2 : Int), At, Nm, ps, Tx, rf, y, z) = some (0, ⟨U, ((sk wsP U j + 2 : Nat) : Int)⟩, ⟨4, At, Nm, ps, Tx, rf⟩) := by
 rw [show iter F_scan_scanner_tag_l0 (m + 1) (U, (j : Int), (2 : Int), At, Nm, ps, Tx, rf, y, z) = F_scan_scanner_tag_l0 (iter F_scan_scanner_tag_l0 m) (U, (j : Int), (2 : Int), At, Nm, ps, Tx, rf, y, z) from rfl]
 generalize hI : iter F_scan_scanner_tag_l0 m = I
 unfold F_scan_scanner_tag_l0
 dsimp only
 obtain ⟨s1, s2⟩ := sk_le wsP U j g2
 rw [spaces_eq U (j : Int) j g2 hU, Option.bind_some, here_eq U _ _ s2, Option.bind_some, c1, cond_true, sign_eq U _ _ s2 hU, c1, if_pos rfl, Option.bind_some]
 rfl
theorem drop_go1 {b r : List UInt8} {c : UInt8} {i : Nat} (h : b.drop i = c :: r) : b.drop (i + 1) = r := by
 rw [← List.drop_drop, h]; rfl
theorem drop_get {b r : List UInt8} {c : UInt8} {i : Nat} (h : b.drop i = c :: r) : b[i]? = some c := by
 have : (b.drop i)[0]? = some c := by rw [h]; rfl
 rw [List.getElem?_drop, Nat.add_zero] at this
 exact this
theorem drop_lt {b r : List UInt8} {c : UInt8} {i : Nat} (h : b.drop i = c :: r) : i < b.length := (List.getElem?_eq_some_iff.1 (drop_get h)).1
structure Spc (nm a v g : List UInt8) (d : UInt8) (g' : List UInt8) (p q : List UInt8) : Prop where
 hp : p = 60 :: (nm ++ 32 :: (a ++ 61 :: 39 :: (v ++ [39, 47, 62])))
 hq : q = 60 :: (nm ++ (g ++ (a ++ (g ++ 61 :: (g ++ 39 :: (v ++ 39 :: (g ++ [47, 62])))))))
 hg : g = d :: g'
 hw : ∀ c ∈ g, wsP c = true
 lp : p.length ≤ 65536
 lq : q.length ≤ 65536
def encR (r : Int) : List UInt8 := (Utf8.encode r).data.toList
def Esc (v : Bool) (E : UInt8 → List UInt8) : Prop := ∀ c : UInt8, (c.toNat < 128 → charP (c.toNat : Int) = true) →
 (E c = [c] ∧ c ≠ 60 ∧ c ≠ 38 ∧ (v = true → c ≠ 9 ∧ c ≠ 10 ∧ c ≠ 13) ∧ (v = false → c ≠ 62)) ∨ (c.toNat < 128 ∧ ∃ w, E c = 38 :: (w ++ [59]) ∧ (59 : UInt8) ∉ w ∧ (62 : UInt8) ∉ w ∧ F_refer_meant w = some ((c.toNat : Int), 0))
theorem iter_one {σ ρ : Type} {b : (σ → Option ρ) → σ → Option ρ} {n : Nat} {x y : σ} (h : ∀ rec, b rec x = rec y) : iter b (n + 1) x = iter b n y := by rw [iter_succ, h]
def escF (bs : List UInt8) (rs : List (List UInt8)) (c : UInt8) : List UInt8 := (bs.zip rs).foldl (fun t x => if c = x.1 then x.2 else t) [c]
theorem cat_some {a b : List UInt8} (h : a.length + b.length ≤ 9223372036854775807) : cat a b = some (a ++ b) := by unfold cat; rw [if_pos h]
def txE (c : UInt8) : List UInt8 := if c = 38 then [38, 97, 109, 112, 59] else if c = 60 then [38, 108, 116, 59] else if c = 62 then [38, 103, 116, 59] else if c = 13 then [38, 35, 49, 51, 59] else [c]
def quE (c : UInt8) : List UInt8 := if c = 38 then [38, 97, 109, 112, 59] else if c = 60 then [38, 108, 116, 59] else if c = 34 then [38, 113, 117, 111, 116, 59] else if c = 9 then [38, 35, 57, 59] else if c = 10 then [38, 35, 49, 48, 59] else if c = 13 then [38, 35, 49, 51, 59] else [c]
def apE (c : UInt8) : List UInt8 := if c = 38 ∨ c = 60 ∨ c = 39 ∨ c.toNat < 32 then [38, 35, UInt8.ofNat (48 + c.toNat / 100), UInt8.ofNat (48 + c.toNat / 10 % 10), UInt8.ofNat (48 + c.toNat % 10), 59] else [c]

def NameAt (x : List UInt8) : Prop := ∃ (U : List UInt8) (i : Nat) (c : UInt8) (y : List UInt8) (s : T_scan_scanner), U.length ≤ 65536 ∧ U.drop i = x ++ c :: y ∧ c.toNat < 128 ∧ F_scan_scanner_name ⟨U, (i : Int)⟩ = some ((x, 0), s) ∧ OkT x ∧ (13 : UInt8) ∉ x
def PairsOk (ps : List T_scan_Pair) : Prop := ∀ p ∈ ps, NameAt p.Name ∧ OkT p.Value ∧ p.Value.length ≤ 262144
structure QW (q : UInt8) (E : UInt8 → List UInt8) : Prop where
 hq : q = 34 ∨ q = 39
 esc : Esc true E
 no : ∀ c, q ∉ E c
 n13 : ∀ c, (13 : UInt8) ∉ E c
 ok : ∀ c, charP (c.toNat : Int) = true → c.toNat < 128 → OkT (E c)
 hi : ∀ c, 128 ≤ c.toNat → E c = [c]
 le : ∀ c, (E c).length ≤ 8
 ne : ∀ c, 1 ≤ (E c).length
theorem okT_asc : ∀ (w : List UInt8), (∀ c ∈ w, c.toNat < 128 ∧ charP (c.toNat : Int) = true) → OkT w
 | [], _ => .nil
 | c :: w, h => okT_ascii c _ (h c List.mem_cons_self).1 (h c List.mem_cons_self).2 (okT_asc w fun d hd => h d (List.mem_cons_of_mem _ hd))
def shP (q : UInt8) (E : UInt8 → List UInt8) (ps : List T_scan_Pair) : List UInt8 := ps.flatMap fun p => 32 :: (p.Name ++ 61 :: q :: (p.Value.flatMap E ++ [q]))
theorem tag_l0_end2 {U : List UInt8} (hU : U.length ≤ 1073741824) (At : Int) (Nm Tx : List UInt8) (rf : Int) (m j : Nat) (ps : List T_scan_Pair) (y z : List UInt8) (g2 : j ≤ U.length) (c0 : hereP U (sk wsP U j) [47, 62] = false) (c1 : hereP U (sk wsP U j) [62] = true) :
  iter F_scan_scanner_tag_l0 (m + 1) (U, (j : Int), (2 : Int), At, Nm, ps, Tx, rf, y, z) = some (0, ⟨U, ((sk wsP U j + 1 : Nat) : Int)⟩, ⟨2, At, Nm, ps, Tx, rf⟩) := by
 rw [show iter F_scan_scanner_tag_l0 (m + 1) (U, (j : Int), (2 : Int), At, Nm, ps, Tx, rf, y, z) = F_scan_scanner_tag_l0 (iter F_scan_scanner_tag_l0 m) (U, (j : Int), (2 : Int), At, Nm, ps, Tx, rf, y, z) from rfl]
 generalize hI : iter F_scan_scanner_tag_l0 m = I
 unfold F_scan_scanner_tag_l0
 dsimp only
 obtain ⟨s1, s2⟩ := sk_le wsP U j g2
 rw [spaces_eq U (j : Int) j g2 hU, Option.bind_some, here_eq U _ _ s2, Option.bind_some, c0, cond_false, here_eq U _ _ s2, Option.bind_some, c1, cond_true, sign_eq U _ _ s2 hU, c1, if_pos rfl, Option.bind_some]
 rfl
def First (x w : List UInt8) : Prop := ∀ R, Lib.index (x ++ (w ++ R)) w = (x.length : Int)
def plB (b : UInt8) : Bool := ([65, 66, 67, 68, 69, 70, 71, 72, 73, 74, 75, 76, 77, 78, 79, 80, 81, 82, 83, 84, 85, 86, 87, 88, 89, 90, 97, 98, 99, 100, 101, 102, 103, 104, 105, 106, 107, 108, 109, 110, 111, 112, 113, 114, 115, 116, 117, 118, 119, 120, 121, 122, 48, 49, 50, 51, 52, 53, 54, 55, 56, 57, 46, 95, 45] : List UInt8).contains b
inductive DOk : Nat → List T_scan_Pair → List UInt8 → List UInt8 → Prop
 | done {la} : DOk 3 [] la la
 | skip {k : Nat} {ps la la'} : k < 3 → 0 < k → DOk (k + 1) ps la la' → DOk k ps la la'
 | take {k : Nat} {w v ps la la'} : k < 3 → idx DeclW (k : Int) = some w → F_scan_fits w v = some true → v.length ≤ 65536 → DOk (k + 1) ps (if w = [101, 110, 99, 111, 100, 105, 110, 103] then v else la) la' → DOk k (⟨w, v⟩ :: ps) la la'
structure QP (q : UInt8) (E : UInt8 → List UInt8) : Prop where
 w : QW q E
 pl : ∀ b, plB b = true → E b = [b]
abbrev utf8W : List UInt8 := [117, 116, 102, 45, 56]
def Good (t : Tk) : Prop :=
 (t.Kind = 1 ∧ t.Name = [] ∧ t.Text = [] ∧ ∃ la, DOk 0 t.Pairs [] la ∧ (la = [] ∨ F_strings_EqualFold la utf8W = some true)) ∨
 ((t.Kind = 2 ∨ t.Kind = 4) ∧ NameAt t.Name ∧ PairsOk t.Pairs ∧ (nmP t.Pairs).Nodup ∧ t.Text = []) ∨
 (t.Kind = 3 ∧ NameAt t.Name ∧ t.Pairs = [] ∧ t.Text = []) ∨
 (t.Kind = 5 ∧ t.Name = [] ∧ t.Pairs = [] ∧ OkT t.Text ∧ t.Text ≠ [] ∧ t.Text.length ≤ 262144) ∨
 (t.Kind = 6 ∧ t.Name = [] ∧ t.Pairs = [] ∧ First t.Text [93, 93, 62] ∧ OkT t.Text ∧ (13 : UInt8) ∉ t.Text ∧ t.Text.length ≤ 65536) ∨
 (t.Kind = 7 ∧ t.Name = [] ∧ t.Pairs = [] ∧ First t.Text [45, 45] ∧ OkT t.Text ∧ (13 : UInt8) ∉ t.Text ∧ t.Text.length ≤ 65536) ∨
 (t.Kind = 8 ∧ NameAt t.Name ∧ t.Pairs = [] ∧ nameP t.Name = true ∧ F_strings_EqualFold t.Name [120, 109, 108] = some false ∧ t.Text.length ≤ 65536 ∧ (t.Text = [] ∨ (First t.Text [63, 62] ∧ OkT t.Text ∧ (13 : UInt8) ∉ t.Text ∧ ∀ c x, t.Text = c :: x → wsP c = false)))
def shw (q : UInt8) (E : UInt8 → List UInt8) (t : Tk) : List UInt8 :=
 if t.Kind = 1 then [60, 63, 120, 109, 108] ++ (shP q E t.Pairs ++ [63, 62])
 else if t.Kind = 2 then 60 :: (t.Name ++ (shP q E t.Pairs ++ [62]))
 else if t.Kind = 4 then 60 :: (t.Name ++ (shP q E t.Pairs ++ [47, 62]))
 else if t.Kind = 3 then 60 :: 47 :: (t.Name ++ [62])
 else if t.Kind = 5 then t.Text.flatMap txE
 else if t.Kind = 6 then [60, 33, 91, 67, 68, 65, 84, 65, 91] ++ (t.Text ++ [93, 93, 62])
 else if t.Kind = 7 then [60, 33, 45, 45] ++ (t.Text ++ [45, 45, 62])
 else if t.Text = [] then 60 :: 63 :: (t.Name ++ [63, 62])
 else 60 :: 63 :: (t.Name ++ 32 :: (t.Text ++ [63, 62]))
theorem here_pre {U r w : List UInt8} {i : Nat} (h : U.drop i = w ++ r) : hereP U i w = true := by
 unfold hereP; rw [h, List.isPrefixOf_iff_prefix]; exact ⟨r, rfl⟩
theorem here_no1 {U r : List UInt8} {i : Nat} {c d : UInt8} (h : U.drop i = c :: d :: r) (a e : UInt8) (w : List UInt8) (he : e ≠ d) : hereP U i (a :: e :: w) = false := by
 unfold hereP; rw [h]; simp [List.isPrefixOf, he]
theorem rest_tag {U r : List UInt8} {i : Nat} {d : UInt8} (h : U.drop i = 60 :: d :: r) (h1 : d ≠ 33) (h2 : d ≠ 63) (h3 : d ≠ 47) : declP U i = false ∧ tokRest U i = F_scan_scanner_tag ⟨U, (i : Int)⟩ (tok0 i) := by
 have no := fun e w (he : e ≠ d) => here_no1 h 60 e w he
 constructor
 ·unfold declP
  by_cases h0 : i = 0
  ·subst h0; rw [no 63 _ (Ne.symm h2), Bool.false_and, Bool.and_false]
  ·rw [decide_eq_false h0, Bool.false_and]
 ·unfold tokRest
  rw [no 33 _ (Ne.symm h1), cond_false, no 33 _ (Ne.symm h1), cond_false, no 33 _ (Ne.symm h1), cond_false, no 33 _ (Ne.symm h1), cond_false, no 63 _ (Ne.symm h2), cond_false, no 47 _ (Ne.symm h3), cond_false, here_pre (w := [60]) (r := d :: r) h, cond_true]
theorem decl_no {U r : List UInt8} {i : Nat} {d : UInt8} (h : U.drop i = 60 :: d :: r) (hd : d ≠ 63) : declP U i = false := by
 unfold declP
 by_cases h0 : i = 0
 ·subst h0; rw [here_no1 h 60 63 _ (Ne.symm hd), Bool.false_and, Bool.and_false]
 ·rw [decide_eq_false h0, Bool.false_and]
def qB (b : Bool) : UInt8 := if b then 39 else 34
def eB (b : Bool) : UInt8 → List UInt8 := if b then apE else quE
def allW (q : UInt8) (E : UInt8 → List UInt8) (L : List Tk) : List UInt8 := L.flatMap (shw q E)
def Like (q : UInt8) (E : UInt8 → List UInt8) (L M : List Tk) : Prop := M.length = L.length ∧ ∀ (k : Nat) (t : Tk), L[k]? = some t → ∃ n, M[k]? = some ⟨t.Kind, ((allW q E (L.take k)).length : Int), t.Name, t.Pairs, t.Text, n⟩
theorem awake_t : F_lecternlaw06_awake = some true := by kernel_rfl
abbrev Nd := T_api_Node
abbrev Op := T_parse_open
abbrev Rdr := T_parse_reader
def nd0 : Nd := ⟨0, ⟨[], []⟩, [], [], []⟩
def kid (b : Op) (n : Nd) : Op := ⟨⟨b.node.Kind, b.node.Name, b.node.Attrs, b.node.Kids ++ [n], b.node.Text⟩, b.raw, b.in_⟩
theorem topU_len {α : Type} {a : α} {l : List α} {n : Nat} (hn : n = l.length + 1) (h : l.length ≤ 1073741824) : topU (a :: l) (IntKind.wrap .i64 ((n : Int) - 1)) = some (a, l) := by
 subst hn
 unfold topU
 rw [w64 (by omega) (by omega), if_pos (by simp)]
theorem top_len {α : Type} {a : α} {l : List α} (h : l.length ≤ 1073741824) : topU (a :: l) (IntKind.wrap .i64 (((a :: l).length : Int) - 1)) = some (a, l) := topU_len (by simp) h
theorem close_eq {a b : Op} {l : List Op} {n : Int} {d : Bool} (hl : l.length ≤ 1000000) (hk : b.node.Kids.length ≤ 1000000000) :
  F_parse_reader_close ⟨a :: b :: l, n, d⟩ = some ⟨kid b a.node :: l, n, d || decide (l.length = 0)⟩ := by
 unfold F_parse_reader_close
 dsimp only
 rw [top_len (by simp; omega), Option.bind_some, Option.bind_some]
 dsimp only
 rw [top_len (by omega), Option.bind_some, app_some (by simp only [List.length_cons, List.length_nil]; omega) (by simp only [List.length_cons, List.length_nil]; omega), Option.bind_some, Option.bind_some]
 simp only [letJ]
 cases d with
 | true => rfl
 | false =>
  rw [cond_false]
  have : (((b :: l).length : Int) == 1) = decide (l.length = 0) := by
   rw [Bool.eq_iff_iff, beq_iff_eq, decide_eq_true_eq, List.length_cons]; omega
  rw [this]; rfl
def kidT (b : Op) (s : List UInt8) : Op := match b.node.Kids.getLast? with
 | some x => ⟨⟨b.node.Kind, b.node.Name, b.node.Attrs, b.node.Kids.dropLast ++ [⟨x.Kind, x.Name, x.Attrs, x.Kids, x.Text ++ s⟩], b.node.Text⟩, b.raw, b.in_⟩
 | none => b
def lastT (b : Op) : Option (List UInt8) := match b.node.Kids.getLast? with
 | some x => if x.Kind = 3 then some x.Text else none
 | none => none
def bigA (l : List T_api_Attr) : Bool := l.any fun a => decide (64 < l.length) || decide (8192 < a.Value.length)
theorem begin_l0 (r : Rdr) (x : List T_api_Attr × Int) (hx : x.1.length ≤ 1000000000) : iter (F_parse_reader_begin_l0 r x) FUEL (0 : Int) = some (if bigA x.1 then .inr (5, r) else .inl ()) := by
 obtain ⟨l, e⟩ := x
 dsimp only at hx ⊢
 obtain ⟨o, e1, e2⟩ := iter_spec (b := F_parse_reader_begin_l0 r (l, e)) (fun i x => x = (i : Int) ∧ ∀ j (hj : j < l.length), j < i → (decide (64 < l.length) || decide (8192 < l[j].Value.length)) = false) (fun o => o = (if bigA l then .inr (5, r) else .inl ())) l.length (x0 := (0 : Int)) ⟨rfl, fun j _ h => by omega⟩ (by
  rintro i _ rec hi ⟨rfl, hs⟩
  by_cases hb : (decide (64 < l.length) || decide (8192 < l[i].Value.length)) = true
  ·right
   have hbig : bigA l = true := List.any_eq_true.2 ⟨_, List.getElem_mem hi, hb⟩
   rw [hbig]
   refine ⟨.inr (5, r), ?_, rfl⟩
   unfold F_parse_reader_begin_l0
   dsimp only
   rw [decide_eq_true (by omega), cond_true, idx_some hi, Option.bind_some]
   have : (decide ((64 : Int) < (l.length : Int)) || decide ((8192 : Int) < (l[i].Value.length : Int))) = true := by
    rw [← hb]; congr 1 <;> (rw [decide_eq_decide]; omega)
   rw [this, cond_true]
  ·left
   replace hb := Bool.eq_false_iff.2 hb
   refine ⟨((i + 1 : Nat) : Int), ?_, rfl, fun j hj h => ?_⟩
   ·unfold F_parse_reader_begin_l0
    dsimp only
    rw [decide_eq_true (by omega), cond_true, idx_some hi, Option.bind_some]
    have : (decide ((64 : Int) < (l.length : Int)) || decide ((8192 : Int) < (l[i].Value.length : Int))) = false := by
     rw [← hb]; congr 1 <;> (rw [decide_eq_decide]; omega)
    rw [this, cond_false, w64 (by omega) (by omega)]
    rfl
   ·rcases Nat.lt_or_ge j i with h1 | h1
    ·exact hs j hj h1
    ·have : j = i := by omega
     subst this; exact hb) (by
  rintro _ rec ⟨rfl, hs⟩
  have hbig : bigA l = false := by
   refine Bool.eq_false_iff.2 fun h => ?_
   obtain ⟨a, ha, hb⟩ := List.any_eq_true.1 h
   obtain ⟨j, hj, rfl⟩ := List.getElem_of_mem ha
   exact absurd hb (by rw [hs j hj hj]; simp)
  rw [hbig]
  refine ⟨.inl (), ?_, rfl⟩
  unfold F_parse_reader_begin_l0
  dsimp only
  rw [decide_eq_false (by omega), cond_false]) (n := FUEL) (by unfold FUEL; omega)
 rw [e1, e2]
def beginP (a : Op) (l : List Op) (n : Int) (d : Bool) (t : Tk) : Option (Int × Rdr) :=
 if l.length = 0 ∧ d = true then some (30, ⟨a :: l, n, d⟩)
 else if 32 < l.length then some (31, ⟨a :: l, n, d⟩)
 else (F_scope_Scope_Open a.in_ t.Pairs).bind fun o => if o.2 ≠ 0 then some (o.2, ⟨a :: l, n, d⟩)
  else (F_scope_Scope_Element ⟨o.1.binds⟩ t.Name).bind fun q => if q.2 ≠ 0 then some (q.2, ⟨a :: l, n, d⟩)
   else (F_scope_Scope_Attrs ⟨o.1.binds⟩ t.Pairs).bind fun v => if v.2 ≠ 0 then some (v.2, ⟨a :: l, n, d⟩)
    else if bigA v.1 = true then some (5, ⟨a :: l, n, d⟩) else if v.1.length ≤ 1000000000 then some (0, ⟨⟨⟨2, q.1, v.1, [], []⟩, t.Name, ⟨o.1.binds⟩⟩ :: a :: l, n + 1, d⟩) else F_parse_reader_begin ⟨a :: l, n, d⟩ t
theorem begin_eq {a : Op} {l : List Op} {n : Int} {d : Bool} (t : Tk) (hl : l.length ≤ 1000000) (h0 : 0 ≤ n) (h1 : n ≤ 1000000000) (hv : ∀ s v, F_scope_Scope_Attrs s t.Pairs = some v → v.1.length ≤ 1000000000) :
  F_parse_reader_begin ⟨a :: l, n, d⟩ t = beginP a l n d t := by
 unfold beginP
 by_cases c1 : l.length = 0 ∧ d = true
 ·rw [if_pos c1]
  unfold F_parse_reader_begin
  simp only [letJ]
  rw [show (((a :: l).length : Int) == 1) = true by simp; omega, cond_true, c1.2, cond_true]
 rw [if_neg c1]
 have key : F_parse_reader_begin ⟨a :: l, n, d⟩ t = (cond (decide ((32 : Int) < (l.length : Int))) (some ((31 : Int), (⟨a :: l, n, d⟩ : Rdr)))
   ((F_scope_Scope_Open a.in_ t.Pairs).bind fun o => cond (o.2 != (0 : Int)) (some (o.2, ⟨a :: l, n, d⟩))
    ((F_scope_Scope_Element ⟨o.1.binds⟩ t.Name).bind fun q => cond (q.2 != (0 : Int)) (some (q.2, ⟨a :: l, n, d⟩))
     ((F_scope_Scope_Attrs ⟨o.1.binds⟩ t.Pairs).bind fun v => cond (v.2 != (0 : Int)) (some (v.2, ⟨a :: l, n, d⟩))
      ((iter (F_parse_reader_begin_l0 ⟨a :: l, n, d⟩ v) FUEL (0 : Int)).bind fun w => match w with
       | .inl _ => (app 144 (a :: l) [(⟨⟨2, q.1, v.1, [], []⟩, t.Name, ⟨o.1.binds⟩⟩ : Op)]).bind fun _ => some ((0 : Int), (⟨⟨⟨2, q.1, v.1, [], []⟩, t.Name, ⟨o.1.binds⟩⟩ :: a :: l, IntKind.wrap .i64 (n + 1), d⟩ : Rdr))
       | .inr x => some x))))) := by
  unfold F_parse_reader_begin
  simp only [letJ]
  have e1 : (IntKind.wrap .i64 (((a :: l).length : Int) - 1)) = (l.length : Int) := by
   rw [List.length_cons, w64 (by omega) (by omega)]; omega
  have e2 : (cond (((a :: l).length : Int) == 1) d false) = false := by
   cases d with
   | false => cases (((a :: l).length : Int) == 1) <;> rfl
   | true =>
    have : (((a :: l).length : Int) == 1) = false := by
     refine Bool.eq_false_iff.2 fun h => c1 ⟨?_, rfl⟩
     simp at h; omega
    rw [this]; rfl
  cases hc : (((a :: l).length : Int) == 1) with
  | true =>
   rw [hc] at e2
   rw [cond_true] at e2 ⊢
   subst e2
   rw [cond_false, top_len (by omega), Option.bind_some, e1]; rfl
  | false => rw [cond_false, cond_false, top_len (by omega), Option.bind_some, e1]; rfl
 rw [key]
 by_cases c2 : 32 < l.length
 ·rw [if_pos c2, decide_eq_true (by omega), cond_true]
 rw [if_neg c2, decide_eq_false (by omega), cond_false]
 cases F_scope_Scope_Open a.in_ t.Pairs with
 | none => rfl
 | some o =>
  rw [Option.bind_some, Option.bind_some]
  by_cases c3 : o.2 = 0
  case neg => rw [if_pos c3, show (o.2 != 0) = true by simpa using c3, cond_true]
  rw [if_neg (by simpa using c3), show (o.2 != 0) = false by simpa using c3, cond_false]
  cases F_scope_Scope_Element ⟨o.1.binds⟩ t.Name with
  | none => rfl
  | some q =>
   rw [Option.bind_some, Option.bind_some]
   by_cases c4 : q.2 = 0
   case neg => rw [if_pos c4, show (q.2 != 0) = true by simpa using c4, cond_true]
   rw [if_neg (by simpa using c4), show (q.2 != 0) = false by simpa using c4, cond_false]
   cases hA : F_scope_Scope_Attrs ⟨o.1.binds⟩ t.Pairs with
   | none => rfl
   | some v =>
    have hv' := hv _ _ hA
    rw [Option.bind_some, Option.bind_some]
    by_cases c5 : v.2 = 0
    case neg => rw [if_pos c5, show (v.2 != 0) = true by simpa using c5, cond_true]
    rw [if_neg (by simpa using c5), show (v.2 != 0) = false by simpa using c5, cond_false, begin_l0 _ _ hv', Option.bind_some]
    cases hb : bigA v.1 with
    | true => rfl
    | false =>
     rw [if_pos hv']
     show (app 144 (a :: l) _).bind _ = _
     rw [app_some (by simp only [List.length_cons, List.length_nil]; omega) (by simp only [List.length_cons, List.length_nil]; omega), Option.bind_some, w64 (by omega) (by omega)]
     rfl
inductive Row : List Tk → Prop
 | nil : Row []
 | snoc {L : List Tk} {t : Tk} : Row L → Good t → (t.Kind = 1 → L = []) → (t.Kind = 5 → ∀ u, L.getLast? = some u → u.Kind ≠ 5) → Row (L ++ [t])
theorem no_mark {w : List UInt8} {c : UInt8} {r : List UInt8} (h : w = c :: r) (hc : c ≠ 239) : strip w = w := by
 subst h
 unfold strip
 rw [if_neg (by intro h; simp only [bom, List.isPrefixOf, Bool.and_eq_true, beq_iff_eq] at h; exact hc h.1.symm)]
theorem pln_id {w : List UInt8} {c : UInt8} {r : List UInt8} (h : w = c :: r) (hc : c ≠ 239) (h13 : (13 : UInt8) ∉ w) : pln w = w := by
 unfold pln; rw [no_mark h hc, lnR_id _ h13]
def runR : List Tk → Rdr → Option (Rdr ⊕ (Int × Int))
 | [], r => some (.inl r)
 | t :: L, r => (F_parse_reader_take r t).bind fun x => if x.1 ≠ 0 then some (.inr (t.At, x.1)) else runR L x.2
def r0 : Rdr := ⟨[⟨⟨1, ⟨[], []⟩, [], [], []⟩, [], ⟨[]⟩⟩], 0, false⟩
def endP (p : List UInt8) (r : Rdr) : Option (Nd × Int × Int) :=
 cond (decide ((1 : Int) < (r.open_.length : Int))) ((F_scan_Plain p).bind fun x => some (nd0, (x.length : Int), 26))
  (cond (!r.done) ((F_scan_Plain p).bind fun x => some (nd0, (x.length : Int), 30)) ((topU r.open_ (0 : Int)).bind fun x => some (x.1.node, 0, 0)))
theorem run_l0 (M : List Tk) (a e : Int) (hM : M.length ≤ 1073741824) : ∀ (L L0 : List Tk) (r : Rdr) (m : Nat), M = L0 ++ L → L.length < m →
  iter (F_parse_Parse_l0 (M, a, e)) m ((0 : Int), ([] : List UInt8), ([] : List UInt8), ([] : List T_api_Attr), ([] : List T_api_Node), ([] : List UInt8), r.open_, r.nodes, r.done, (L0.length : Int)) =
   (runR L r).bind fun o => match o with
    | .inl r' => some (.inl ((0 : Int), ([] : List UInt8), ([] : List UInt8), ([] : List T_api_Attr), ([] : List T_api_Node), ([] : List UInt8), r'.open_, r'.nodes, r'.done))
    | .inr (x, y) => some (.inr (nd0, x, y))
 | [], L0, r, m + 1, h, hm => by
  subst h
  rw [List.append_nil]
  show F_parse_Parse_l0 _ _ _ = _
  unfold F_parse_Parse_l0
  dsimp only
  rw [decide_eq_false (by omega), cond_false]; rfl
 | t :: L, L0, r, m + 1, h, hm => by
  have hlt : L0.length < M.length := by rw [h]; simp
  have hg : M[L0.length] = t := by subst h; simp
  have ih := run_l0 M a e hM L (L0 ++ [t])
  show F_parse_Parse_l0 _ _ _ = _
  unfold F_parse_Parse_l0
  dsimp only
  rw [decide_eq_true (by omega), cond_true, idx_some hlt, Option.bind_some, hg]
  unfold runR
  have er : (⟨r.open_, r.nodes, r.done⟩ : Rdr) = r := rfl
  rw [er]
  cases ht : F_parse_reader_take r t with
  | none => rfl
  | some x =>
   rw [Option.bind_some, Option.bind_some]
   by_cases hx : x.1 = 0
   ·rw [show (x.1 != (0 : Int)) = false by simpa using hx, cond_false, if_neg (by simpa using hx), w64 (by omega) (by omega)]
    have := ih x.2 m (by rw [h]; simp) (by simp at hm; omega)
    rw [List.length_append, List.length_singleton, Int.natCast_add] at this
    exact this
   ·rw [show (x.1 != (0 : Int)) = true by simpa using hx, cond_true, if_pos hx]; rfl
 | [], _, _, 0, _, hm => by omega
 | _ :: _, _, _, 0, _, hm => by omega
theorem parse_eq {p : List UInt8} {M : List Tk} {a : Int} (h : F_scan_All p = some (M, a, 0)) (hM : M.length ≤ 1073741824) :
  F_parse_Parse p = (runR M r0).bind fun o => match o with
   | .inl r => endP p r
   | .inr (x, y) => some (nd0, x, y) := by
 unfold F_parse_Parse
 rw [h, Option.bind_some]
 dsimp only
 rw [show ((0 : Int) != 0) = false from rfl, cond_false, show F_scope_New = some ⟨[]⟩ from rfl, Option.bind_some]
 have := run_l0 M a 0 hM M [] r0 FUEL rfl (by unfold FUEL; omega)
 simp only [letJ]
 rw [show ((([] : List Tk).length : Nat) : Int) = 0 from rfl] at this
 have e0 : r0.open_ = [(⟨(⟨(1 : Int), (⟨([] : List UInt8), ([] : List UInt8)⟩ : T_api_Name), ([] : List T_api_Attr), ([] : List T_api_Node), ([] : List UInt8)⟩ : T_api_Node), ([] : List UInt8), (⟨[]⟩ : T_scope_Scope)⟩ : T_parse_open)] := rfl
 have e1 : r0.nodes = 0 := rfl
 have e2 : r0.done = false := rfl
 rw [e0, e1, e2] at this
 rw [this]
 cases runR M r0 with
 | none => rfl
 | some o =>
  rw [Option.bind_some, Option.bind_some]
  cases o with
  | inl r => rfl
  | inr x => rfl
def fin (x : Int × Rdr) : Int × Rdr := if x.1 = 0 ∧ 2000 < x.2.nodes then (5, x.2) else x
theorem fin_eq (x : Int × Rdr) : (letJ (fun v : Bool => cond v (some ((5 : Int), x.2)) (some (x.1, x.2))) fun J => cond (x.1 == (0 : Int)) (J (decide ((2000 : Int) < x.2.nodes))) (J false)) = some (fin x) := by
 obtain ⟨e, r⟩ := x
 simp only [letJ, fin]
 by_cases he : e = 0
 ·subst he
  rw [beq_self_eq_true, cond_true]
  by_cases hn : 2000 < r.nodes
  ·rw [decide_eq_true hn, cond_true, if_pos ⟨rfl, hn⟩]
  ·rw [decide_eq_false hn, cond_false, if_neg (fun h => hn h.2)]
 ·rw [show (e == 0) = false by simpa using he, cond_false, cond_false, if_neg (fun h => he h.1)]
section
variable {r : Rdr} {t : Tk}
theorem take_2 (h : t.Kind = 2) : F_parse_reader_take r t = (F_parse_reader_begin r t).bind fun x => some (fin x) := by
 unfold F_parse_reader_take
 rw [h, show ((2 : Int) == 7) = false from rfl, show ((2 : Int) == 8) = false from rfl, show ((2 : Int) == 5) = false from rfl, show ((2 : Int) == 6) = false from rfl, beq_self_eq_true, cond_false, cond_false, cond_false, cond_false, cond_true]
 cases F_parse_reader_begin r t with
 | none => rfl
 | some x => exact fin_eq x
theorem take_4 (h : t.Kind = 4) : F_parse_reader_take r t = (F_parse_reader_begin r t).bind fun x => if x.1 = 0 then (F_parse_reader_close x.2).bind fun y => some (fin (0, y)) else some x := by
 unfold F_parse_reader_take
 rw [h, show ((4 : Int) == 7) = false from rfl, show ((4 : Int) == 8) = false from rfl, show ((4 : Int) == 5) = false from rfl, show ((4 : Int) == 6) = false from rfl, show ((4 : Int) == 2) = false from rfl, beq_self_eq_true, cond_false, cond_false, cond_false, cond_false, cond_false, cond_true]
 cases F_parse_reader_begin r t with
 | none => rfl
 | some x =>
  rw [Option.bind_some, Option.bind_some]
  by_cases hx : x.1 = 0
  ·rw [if_pos hx, show (x.1 == 0) = true by simpa using hx, cond_true]
   cases F_parse_reader_close x.2 with
   | none => rfl
   | some y =>
    rw [Option.bind_some, Option.bind_some, hx]
    unfold fin
    by_cases hn : 2000 < y.nodes
    ·rw [decide_eq_true hn, cond_true, if_pos ⟨rfl, hn⟩]
    ·rw [decide_eq_false hn, cond_false, if_neg (fun h => hn h.2)]
  ·rw [if_neg hx, show (x.1 == 0) = false by simpa using hx, cond_false]
theorem take_3 (h : t.Kind = 3) : F_parse_reader_take r t = if r.open_.length = 1 then some (26, r) else (topU r.open_ (IntKind.wrap .i64 ((r.open_.length : Int) - 1))).bind fun v => if v.1.raw = t.Name then (F_parse_reader_close r).bind fun y => some (fin (0, y)) else some (26, r) := by
 unfold F_parse_reader_take
 rw [h, show ((3 : Int) == 7) = false from rfl, show ((3 : Int) == 8) = false from rfl, show ((3 : Int) == 5) = false from rfl, show ((3 : Int) == 6) = false from rfl, show ((3 : Int) == 2) = false from rfl, show ((3 : Int) == 4) = false from rfl, beq_self_eq_true, cond_false, cond_false, cond_false, cond_false, cond_false, cond_false, cond_true]
 by_cases h1 : r.open_.length = 1
 ·rw [if_pos h1, h1]; rfl
 ·rw [if_neg h1, show ((r.open_.length : Int) == 1) = false by rw [beq_eq_false_iff_ne]; omega, cond_false]
  cases topU r.open_ (IntKind.wrap .i64 ((r.open_.length : Int) - 1)) with
  | none => rfl
  | some v =>
   rw [Option.bind_some, Option.bind_some]
   by_cases hv : v.1.raw = t.Name
   ·rw [if_pos hv, show (v.1.raw == t.Name) = true by simpa using hv, Bool.not_true, cond_false]
    cases F_parse_reader_close r with
    | none => rfl
    | some y => exact fin_eq (0, y)
   ·rw [if_neg hv, show (v.1.raw == t.Name) = false by simpa using hv, Bool.not_false, cond_true]
end
def el (nm : List UInt8) : Op := ⟨⟨2, ⟨[], nm⟩, [], [], []⟩, nm, ⟨[]⟩⟩
theorem open_nil : F_scope_Scope_Open ⟨[]⟩ [] = some (⟨[]⟩, 0) := by kernel_rfl
theorem attrs_nil : ∀ s, F_scope_Scope_Attrs s [] = some ([], 0) := fun s => by kernel_rfl
theorem begin_pl {a : Op} {l : List Op} {n : Int} {d : Bool} {t : Tk} {nm : List UInt8} (ha : a.in_ = ⟨[]⟩) (hN : t.Name = nm) (hP : t.Pairs = []) (hE : F_scope_Scope_Element ⟨[]⟩ nm = some (⟨[], nm⟩, 0)) (hl : l.length ≤ 1000000) (h0 : 0 ≤ n) (h1 : n ≤ 1000000000) :
  F_parse_reader_begin ⟨a :: l, n, d⟩ t = some (if l.length = 0 ∧ d = true then (30, ⟨a :: l, n, d⟩) else if 32 < l.length then (31, ⟨a :: l, n, d⟩) else (0, ⟨el nm :: a :: l, n + 1, d⟩)) := by
 rw [begin_eq t hl h0 h1 (fun s v hv => by rw [hP, attrs_nil] at hv; rw [← Option.some.inj hv]; simp)]
 unfold beginP
 rw [ha, hP, hN, open_nil, Option.bind_some]
 dsimp only
 rw [if_neg (show ¬ ((0 : Int) ≠ 0) by simp), hE, Option.bind_some]
 dsimp only
 rw [if_neg (show ¬ ((0 : Int) ≠ 0) by simp), attrs_nil, Option.bind_some]
 dsimp only
 rw [if_neg (show ¬ ((0 : Int) ≠ 0) by simp), if_neg (show ¬ (bigA [] = true) by simp [bigA]), if_pos (show ([] : List T_api_Attr).length ≤ 1000000000 by simp)]
 split
 ·rfl
 ·split <;> rfl
def doc0 : Op := ⟨⟨1, ⟨[], []⟩, [], [], []⟩, [], ⟨[]⟩⟩
def elA : Op := el [97]
theorem el_a : F_scope_Scope_Element ⟨[]⟩ [97] = some (⟨[], [97]⟩, 0) := by kernel_rfl
theorem el_b : F_scope_Scope_Element ⟨[]⟩ [98] = some (⟨[], [98]⟩, 0) := by kernel_rfl
def opsA (k : Nat) : List Op := List.replicate k elA ++ [doc0]
theorem opsA_len (k : Nat) : (opsA k).length = k + 1 := by simp [opsA]
theorem opsA_cases (k : Nat) : ∃ a l, opsA k = a :: l ∧ a.in_ = ⟨[]⟩ ∧ l.length = k := by
 cases k with
 | zero => exact ⟨doc0, [], rfl, rfl, rfl⟩
 | succ k => exact ⟨elA, opsA k, rfl, rfl, opsA_len k⟩
theorem fin_ok {r : Rdr} (h : r.nodes ≤ 2000) : fin (0, r) = (0, r) := by unfold fin; rw [if_neg (fun h => by have := h.2; dsimp only at this; omega)]
theorem fin_big {r : Rdr} (h : 2000 < r.nodes) : fin (0, r) = (5, r) := by unfold fin; rw [if_pos ⟨rfl, h⟩]
def IsO (nm : List UInt8) (k : Int) (t : Tk) : Prop := t.Kind = k ∧ t.Name = nm ∧ t.Pairs = []
theorem run_open : ∀ (ts rest : List Tk) (k : Nat), (∀ t ∈ ts, IsO [97] 2 t) → k ≤ 33 →
  (k + ts.length ≤ 33 → runR (ts ++ rest) ⟨opsA k, k, false⟩ = runR rest ⟨opsA (k + ts.length), ((k + ts.length : Nat) : Int), false⟩) ∧
  (33 < k + ts.length → ∃ x, runR (ts ++ rest) ⟨opsA k, k, false⟩ = some (.inr (x, 31)))
 | [], rest, k, _, hk => ⟨fun _ => rfl, fun h => by simp at h; omega⟩
 | t :: ts, rest, k, ht, hk => by
  obtain ⟨h1, h2, h3⟩ := ht t List.mem_cons_self
  obtain ⟨a, l, e1, e2, e3⟩ := opsA_cases k
  have hb := begin_pl (a := a) (l := l) (n := (k : Int)) (d := false) (t := t) e2 h2 h3 el_a (by omega) (by omega) (by omega)
  rw [if_neg (fun h => by simp at h)] at hb
  have ih := run_open ts rest (k + 1) (fun u hu => ht u (List.mem_cons_of_mem _ hu))
  have hst : runR (t :: ts ++ rest) ⟨opsA k, k, false⟩ = if 32 < k then some (.inr (t.At, 31)) else runR (ts ++ rest) ⟨opsA (k + 1), ((k + 1 : Nat) : Int), false⟩ := by
   show (F_parse_reader_take _ t).bind _ = _
   rw [take_2 h1, e1, hb, e3]
   by_cases hc : 32 < k
   ·rw [if_pos hc, if_pos hc]; rfl
   ·rw [if_neg hc, if_neg hc, Option.bind_some]
    have : fin (0, (⟨el [97] :: a :: l, (k : Int) + 1, false⟩ : Rdr)) = (0, ⟨el [97] :: a :: l, (k : Int) + 1, false⟩) := by
     unfold fin; rw [if_neg (fun h => by have := h.2; dsimp only at this; omega)]
    rw [this, Option.bind_some]
    show (if (0 : Int) ≠ 0 then _ else _) = _
    rw [if_neg (by simp), ← e1]; rfl
  rw [List.length_cons]
  by_cases hc : 32 < k
  ·rw [if_pos hc] at hst
   exact ⟨fun h => by omega, fun _ => ⟨_, hst⟩⟩
  ·rw [if_neg hc] at hst
   rw [hst]
   obtain ⟨i1, i2⟩ := ih (by omega)
   have e4 : k + (ts.length + 1) = k + 1 + ts.length := by omega
   rw [e4]
   exact ⟨i1, i2⟩
def nst : Nat → Nd
 | 0 => ⟨2, ⟨[], [97]⟩, [], [], []⟩
 | j + 1 => ⟨2, ⟨[], [97]⟩, [], [nst j], []⟩
def addk (x : Nd) : List Op → List Op
 | [] => []
 | a :: l => kid a x :: l
def cs (n k : Nat) : List Op := match n - k with
 | 0 => opsA k
 | j + 1 => addk (nst j) (opsA k)
theorem cs_step {n k : Nat} (h : k < n) : ∃ a l b l', cs n (k + 1) = a :: l ∧ opsA k = b :: l' ∧ l = b :: l' ∧ a.raw = [97] ∧ a.node = nst (n - (k + 1)) ∧ cs n k = kid b a.node :: l' ∧ b.node.Kids = [] ∧ l'.length = k := by
 have e0 : n - k = (n - (k + 1)) + 1 := by omega
 have hb : ∃ b l', opsA k = b :: l' ∧ b.node.Kids = [] ∧ l'.length = k := by
  cases k with
  | zero => exact ⟨doc0, [], rfl, rfl, rfl⟩
  | succ k => exact ⟨elA, opsA k, rfl, rfl, opsA_len k⟩
 obtain ⟨b, l', hb1, hb2, hb3⟩ := hb
 have hk : cs n k = kid b (nst (n - (k + 1))) :: l' := by
  unfold cs; rw [e0]; show addk _ (opsA k) = _; rw [hb1]; rfl
 cases hj : n - (k + 1) with
 | zero =>
  refine ⟨elA, opsA k, b, l', ?_, hb1, hb1, rfl, rfl, ?_, hb2, hb3⟩
  ·unfold cs; rw [hj]; rfl
  ·rw [hk, hj]; rfl
 | succ j =>
  refine ⟨kid elA (nst j), opsA k, b, l', ?_, hb1, hb1, rfl, rfl, ?_, hb2, hb3⟩
  ·unfold cs; rw [hj]; rfl
  ·rw [hk, hj]; rfl
theorem run_close : ∀ (ts rest : List Tk) (n k : Nat) (d : Bool), (∀ t ∈ ts, IsO [97] 3 t) → ts.length ≤ k → k ≤ n → n ≤ 2000 →
  runR (ts ++ rest) ⟨cs n k, n, d⟩ = runR rest ⟨cs n (k - ts.length), n, d || decide (ts ≠ [] ∧ ts.length = k)⟩
 | [], rest, n, k, d, _, _, _, _ => by simp
 | t :: ts, rest, n, k + 1, d, ht, hl, hk, hn => by
  obtain ⟨h1, h2, h3⟩ := ht t List.mem_cons_self
  obtain ⟨a, l, b, l', c1, c2, c3, c4, c5, c6, c7, c8⟩ := cs_step (n := n) (k := k) (by omega)
  subst c3
  have ih := run_close ts rest n k (d || decide (l'.length = 0)) (fun u hu => ht u (List.mem_cons_of_mem _ hu)) (by simp at hl; omega) (by omega) hn
  show (F_parse_reader_take _ t).bind _ = _
  rw [take_3 h1, c1]
  dsimp only
  rw [if_neg (by simp), top_len (by simp; omega), Option.bind_some, if_pos (by rw [c4, h2]), close_eq (by omega) (by rw [c7]; simp), Option.bind_some]
  have : fin (0, (⟨kid b a.node :: l', (n : Int), d || decide (l'.length = 0)⟩ : Rdr)) = (0, ⟨kid b a.node :: l', (n : Int), d || decide (l'.length = 0)⟩) := by
   unfold fin; rw [if_neg (fun h => by have := h.2; dsimp only at this; omega)]
  rw [this, Option.bind_some]
  dsimp only
  rw [if_neg (by simp), ← c6]
  show runR (ts ++ rest) _ = _
  rw [ih]
  have e1 : k + 1 - (t :: ts).length = k - ts.length := by simp
  rw [e1]
  congr 2
  rw [c8]
  cases d with
  | true => simp
  | false =>
   simp only [Bool.false_or, List.length_cons]
   rw [Bool.eq_iff_iff]
   simp only [Bool.or_eq_true, decide_eq_true_eq, ne_eq, reduceCtorEq, not_false_eq_true, true_and]
   have hl' : ts.length ≤ k := by simp at hl; omega
   constructor
   ·rintro (h | ⟨_, h⟩) <;> omega
   ·intro h
    by_cases hk0 : k = 0
    ·exact .inl hk0
    ·exact .inr ⟨fun h0 => hk0 (by rw [h0] at h; simpa using h.symm), by omega⟩
 | _ :: _, _, _, 0, _, _, hl, _, _ => by simp at hl
def kb (i : Nat) : Op := ⟨⟨2, ⟨[], [97]⟩, [], List.replicate i (el [98]).node, []⟩, [97], ⟨[]⟩⟩
theorem run_lone : ∀ (ts rest : List Tk) (i : Nat), (∀ t ∈ ts, IsO [98] 4 t) → i ≤ 1999 →
  (1 + i + ts.length ≤ 2000 → runR (ts ++ rest) ⟨[kb i, doc0], ((1 + i : Nat) : Int), false⟩ = runR rest ⟨[kb (i + ts.length), doc0], ((1 + i + ts.length : Nat) : Int), false⟩) ∧
  (2000 < 1 + i + ts.length → ∃ x, runR (ts ++ rest) ⟨[kb i, doc0], ((1 + i : Nat) : Int), false⟩ = some (.inr (x, 5)))
 | [], rest, i, _, hi => ⟨fun _ => rfl, fun h => by simp at h; omega⟩
 | t :: ts, rest, i, ht, hi => by
  obtain ⟨h1, h2, h3⟩ := ht t List.mem_cons_self
  have hb := begin_pl (a := kb i) (l := [doc0]) (n := ((1 + i : Nat) : Int)) (d := false) (t := t) rfl h2 h3 el_b (by simp) (by omega) (by omega)
  rw [if_neg (fun h => by simp at h), if_neg (by simp)] at hb
  have hk : kid (kb i) (el [98]).node = kb (i + 1) := by
   unfold kid kb; simp only [List.replicate_succ']
  have hst : runR (t :: ts ++ rest) ⟨[kb i, doc0], ((1 + i : Nat) : Int), false⟩ = if 2000 < 1 + (i + 1) then some (.inr (t.At, 5)) else runR (ts ++ rest) ⟨[kb (i + 1), doc0], ((1 + (i + 1) : Nat) : Int), false⟩ := by
   show (F_parse_reader_take _ t).bind _ = _
   rw [take_4 h1, hb, Option.bind_some]
   dsimp only
   rw [if_pos rfl, close_eq (by simp) (by simp [kb]; omega), Option.bind_some, Option.bind_some, hk]
   by_cases hc : 2000 < 1 + (i + 1)
   ·rw [if_pos hc, fin_big (by dsimp only; omega)]; rfl
   ·rw [if_neg hc, fin_ok (by dsimp only; omega)]
    show (if (0 : Int) ≠ 0 then _ else _) = _
    rw [if_neg (by simp)]
    rfl
  rw [List.length_cons]
  by_cases hc : 2000 < 1 + (i + 1)
  ·rw [if_pos hc] at hst
   exact ⟨fun h => by omega, fun _ => ⟨_, hst⟩⟩
  ·rw [if_neg hc] at hst
   rw [hst]
   obtain ⟨i1, i2⟩ := run_lone ts rest (i + 1) (fun u hu => ht u (List.mem_cons_of_mem _ hu)) (by omega)
   have e4 : 1 + i + (ts.length + 1) = 1 + (i + 1) + ts.length := by omega
   have e5 : i + (ts.length + 1) = i + 1 + ts.length := by omega
   rw [e4, e5]
   exact ⟨i1, i2⟩
def oA : Tk := ⟨2, 0, [97], [], [], 0⟩
def cA : Tk := ⟨3, 0, [97], [], [], 0⟩
def lB : Tk := ⟨4, 0, [98], [], [], 0⟩
theorem stop_ltr {c : UInt8} (h : (c.toNat : Int) ≠ 58 ∧ partP (c.toNat : Int) = true ∧ startP (c.toNat : Int) = true) : ∀ i k, stopN i k (c.toNat : Int) = false := fun i k => by
 unfold stopN; rw [h.2.1, h.2.2]; simp
theorem stop_sgn {d : UInt8} (h : (d.toNat : Int) ≠ 58 ∧ partP (d.toNat : Int) = false) : ∀ i k, stopN i k (d.toNat : Int) = true := fun i k => by
 unfold stopN; rw [h.2]; simp [h.1]
theorem name_one {U z : List UInt8} {c d : UInt8} {i : Nat} (hU : U.length ≤ 1073741824) (e : U.drop i = c :: d :: z) (hc : c.toNat < 128) (hd : d.toNat < 128) (hc1 : ∀ i k, stopN i k (c.toNat : Int) = false) (hd1 : ∀ i k, stopN i k (d.toNat : Int) = true) (hs : F_char_Split [c] = some ([], [c], true)) :
  F_scan_scanner_name ⟨U, (i : Int)⟩ = some (([c], 0), ⟨U, ((i + 1 : Nat) : Int)⟩) := by
 have l1 := drop_lt e
 have e2 := drop_go1 e
 have l2 := drop_lt e2
 have hit : iter (F_scan_scanner_name_l0 ⟨U, (i : Int)⟩) FUEL (i : Int) = some ((i + 1 : Nat) : Int) := by
  obtain ⟨m, hm⟩ : ∃ m, FUEL = m + 2 := ⟨FUEL - 2, by unfold FUEL; omega⟩
  rw [hm, iter_succ, name_step U i i l1 hU, e, dec_ascii _ _ hc]
  dsimp only
  rw [hc1, cond_false, iter_succ, name_step U i (i + 1) l2 hU, e2, dec_ascii _ _ hd]
  dsimp only
  rw [hd1, cond_true]
 rw [name_eq U i (i + 1) hit (by omega) (by omega)]
 have ht : (U.drop i).take (i + 1 - i) = [c] := by rw [e, show i + 1 - i = 1 by omega]; rfl
 rw [ht, show ([c] == ([] : List UInt8)) = false from rfl, cond_false, hs, Option.bind_some]
 rfl
def ltr (c : UInt8) : Prop := c.toNat < 128 ∧ (∀ i k, stopN i k (c.toNat : Int) = false) ∧ F_char_Split [c] = some ([], [c], true) ∧ c ≠ 33 ∧ c ≠ 63 ∧ c ≠ 47
theorem ltr_a : ltr 97 := ⟨by decide, stop_ltr (by decide), by kernel_rfl, by decide, by decide, by decide⟩
theorem ltr_b : ltr 98 := ⟨by decide, stop_ltr (by decide), by kernel_rfl, by decide, by decide, by decide⟩
theorem bindE (o : Option (Int × T_scan_scanner × T_scan_Token)) : (o.bind fun x => some x) = o := by cases o <;> rfl
theorem tok_open {U R : List UInt8} {c : UInt8} {i : Nat} (hU : U.length ≤ 1073741824) (g : ltr c) (h : U.drop i = 60 :: c :: 62 :: R) : F_scan_scanner_token ⟨U, (i : Int)⟩ (tok0 i) = some (0, ⟨U, ((i + 3 : Nat) : Int)⟩, ⟨2, i, [c], [], [], 0⟩) := by
 obtain ⟨g1, g2, g3, g4, g5, g6⟩ := g
 obtain ⟨r1, r2⟩ := rest_tag h g4 g5 g6
 have l0 := drop_lt h
 have h1 := drop_go1 h
 have h2 := drop_go1 h1
 have l2 := drop_lt h2
 rw [token_eq U i (by omega) hU, r1, cond_false, r2]
 unfold F_scan_scanner_tag
 dsimp only
 rw [w64 (x := (i : Int) + 1) (by omega) (by omega), show (i : Int) + 1 = ((i + 1 : Nat) : Int) by omega, name_one hU h1 g1 (by decide) g2 (stop_sgn (by decide)) g3, Option.bind_some]
 dsimp only
 obtain ⟨m, hm⟩ : ∃ m, FUEL = m + 1 := ⟨FUEL - 1, by unfold FUEL; omega⟩
 have hs : sk wsP U (i + 1 + 1) = i + 1 + 1 := sk_pass [] (b := U) (c := 62) (y := R) h2 (by simp) (by decide)
 rw [show ((0 : Int) != 0) = false from rfl, cond_false, bindE, hm, tag_l0_end2 hU _ _ [] 0 m (i + 1 + 1) [] [] [] (by omega) (by rw [hs]; unfold hereP; rw [h2]; rfl) (by rw [hs]; unfold hereP; rw [h2]; rfl), hs]
theorem tok_lone {U R : List UInt8} {c : UInt8} {i : Nat} (hU : U.length ≤ 1073741824) (g : ltr c) (h : U.drop i = 60 :: c :: 47 :: 62 :: R) : F_scan_scanner_token ⟨U, (i : Int)⟩ (tok0 i) = some (0, ⟨U, ((i + 4 : Nat) : Int)⟩, ⟨4, i, [c], [], [], 0⟩) := by
 obtain ⟨g1, g2, g3, g4, g5, g6⟩ := g
 obtain ⟨r1, r2⟩ := rest_tag h g4 g5 g6
 have l0 := drop_lt h
 have h1 := drop_go1 h
 have h2 := drop_go1 h1
 have l2 := drop_lt h2
 rw [token_eq U i (by omega) hU, r1, cond_false, r2]
 unfold F_scan_scanner_tag
 dsimp only
 rw [w64 (x := (i : Int) + 1) (by omega) (by omega), show (i : Int) + 1 = ((i + 1 : Nat) : Int) by omega, name_one hU h1 g1 (by decide) g2 (stop_sgn (by decide)) g3, Option.bind_some]
 dsimp only
 obtain ⟨m, hm⟩ : ∃ m, FUEL = m + 1 := ⟨FUEL - 1, by unfold FUEL; omega⟩
 have hs : sk wsP U (i + 1 + 1) = i + 1 + 1 := sk_pass [] (b := U) (c := 47) (y := 62 :: R) h2 (by simp) (by decide)
 rw [show ((0 : Int) != 0) = false from rfl, cond_false, bindE, hm, tag_l0_end hU _ _ [] 0 m (i + 1 + 1) [] [] [] (by omega) (by rw [hs]; unfold hereP; rw [h2]; rfl), hs]
theorem tok_close {U R : List UInt8} {c : UInt8} {i : Nat} (hU : U.length ≤ 1073741824) (g : ltr c) (h : U.drop i = 60 :: 47 :: c :: 62 :: R) : F_scan_scanner_token ⟨U, (i : Int)⟩ (tok0 i) = some (0, ⟨U, ((i + 4 : Nat) : Int)⟩, ⟨3, i, [c], [], [], 0⟩) := by
 obtain ⟨g1, g2, g3, g4, g5, g6⟩ := g
 have no := fun e w (he : e ≠ 47) => here_no1 h 60 e w he
 have l0 := drop_lt h
 have h2 := drop_go1 (drop_go1 h)
 have h3 := drop_go1 h2
 have l3 := drop_lt h3
 have hs : sk wsP U (i + 1 + 1 + 1) = i + 1 + 1 + 1 := sk_pass [] (b := U) (c := 62) h3 (by simp) (by decide)
 rw [token_eq U i (by omega) hU, decl_no h (by decide), cond_false]
 unfold tokRest
 rw [no 33 _ (by decide), cond_false, no 33 _ (by decide), cond_false, no 33 _ (by decide), cond_false, no 33 _ (by decide), cond_false, no 63 _ (by decide), cond_false, here_pre (w := [60, 47]) (r := c :: 62 :: R) h, cond_true]
 unfold F_scan_scanner_closing
 dsimp only
 rw [w64 (x := (i : Int) + 2) (by omega) (by omega), show (i : Int) + 2 = ((i + 1 + 1 : Nat) : Int) by omega, name_one hU h2 g1 (by decide) g2 (stop_sgn (by decide)) g3, Option.bind_some]
 dsimp only
 rw [show ((0 : Int) != 0) = false from rfl, cond_false, spaces_eq U _ _ (by omega) hU, Option.bind_some, hs, sign_eq U _ _ (by omega) hU, if_pos (by rw [hereP_one, drop_get h3]; simp), Option.bind_some]
 rfl
theorem run_words : ∀ (L : List Tk) (pre R : List UInt8) (T : List Tk) (m : Nat), (∀ t ∈ L, t = oA ∨ t = cA ∨ t = lB) → (pre ++ (allW 34 quE L ++ R)).length ≤ 65536 → T.length + L.length ≤ 65536 →
  ∃ M, M.length = L.length ∧ (∀ (k : Nat) (t : Tk), L[k]? = some t → ∃ u, M[k]? = some u ∧ IsO t.Name t.Kind u) ∧
   iter F_scan_All_l0 (L.length + m) (pre ++ (allW 34 quE L ++ R), (pre.length : Int), T) = iter F_scan_All_l0 m (pre ++ (allW 34 quE L ++ R), ((pre ++ allW 34 quE L).length : Int), T ++ M)
 | [], pre, R, T, m, _, _, _ => ⟨[], rfl, fun k t h => by simp at h, by simp [allW]⟩
 | t :: L, pre, R, T, m, ht, hl, hT => by
  have e : allW 34 quE (t :: L) = shw 34 quE t ++ allW 34 quE L := rfl
  rw [e] at hl ⊢
  have hst : ∃ u : Tk, IsO t.Name t.Kind u ∧ ∀ rec, F_scan_All_l0 rec (pre ++ ((shw 34 quE t ++ allW 34 quE L) ++ R), (pre.length : Int), T) = rec (pre ++ ((shw 34 quE t ++ allW 34 quE L) ++ R), ((pre ++ shw 34 quE t).length : Int), T ++ [u]) := by
   rw [List.length_cons] at hT
   have hd : (pre ++ ((shw 34 quE t ++ allW 34 quE L) ++ R)).drop pre.length = shw 34 quE t ++ (allW 34 quE L ++ R) := by rw [List.drop_left, List.append_assoc]
   rcases ht t List.mem_cons_self with rfl | rfl | rfl
   ·exact ⟨⟨2, pre.length, [97], [], [], 0⟩, ⟨rfl, rfl, rfl⟩, fun rec => by
     rw [List.length_append]; exact all_step (by omega) (drop_lt hd) (tok_open (by omega) ltr_a hd) rec⟩
   ·exact ⟨⟨3, pre.length, [97], [], [], 0⟩, ⟨rfl, rfl, rfl⟩, fun rec => by
     rw [List.length_append]; exact all_step (by omega) (drop_lt hd) (tok_close (by omega) ltr_a hd) rec⟩
   ·exact ⟨⟨4, pre.length, [98], [], [], 0⟩, ⟨rfl, rfl, rfl⟩, fun rec => by
     rw [List.length_append]; exact all_step (by omega) (drop_lt hd) (tok_lone (by omega) ltr_b hd) rec⟩
  obtain ⟨u, hu, hs⟩ := hst
  have e2 : pre ++ ((shw 34 quE t ++ allW 34 quE L) ++ R) = (pre ++ shw 34 quE t) ++ (allW 34 quE L ++ R) := by simp
  obtain ⟨M, m1, m2, m3⟩ := run_words L (pre ++ shw 34 quE t) R (T ++ [u]) m (fun v hv => ht v (List.mem_cons_of_mem _ hv)) (by rw [← e2]; exact hl) (by simp only [List.length_append, List.length_cons, List.length_nil] at hT ⊢; omega)
  refine ⟨u :: M, by simp [m1], fun k v hv => ?_, ?_⟩
  ·cases k with
   | zero =>
    have : t = v := by simpa using hv
    subst this
    exact ⟨u, rfl, hu⟩
   | succ k => exact m2 k v hv
  ·rw [show (t :: L).length + m = (L.length + m) + 1 by simp only [List.length_cons]; omega, iter_one hs, e2, m3]
   simp
theorem parse_rowQ {L : List Tk} (h : ∀ t ∈ L, t = oA ∨ t = cA ∨ t = lB) {w : List UInt8} (hw : allW 34 quE L = w) (h60 : w[0]? = some 60) (hl : w.length ≤ 65536) :
  ∃ M, M.length = L.length ∧ (∀ (k : Nat) (t : Tk), L[k]? = some t → ∃ u, M[k]? = some u ∧ IsO t.Name t.Kind u) ∧ F_scan_Plain w = some w ∧
   F_parse_Parse w = (runR M r0).bind fun o => match o with
    | .inl r => endP w r
    | .inr (x, y) => some (nd0, x, y) := by
 have hasc : ∀ (L : List Tk), (∀ t ∈ L, t = oA ∨ t = cA ∨ t = lB) → L.length ≤ (allW 34 quE L).length ∧ OkT (allW 34 quE L) ∧ (13 : UInt8) ∉ allW 34 quE L := by
  intro L
  induction L with
  | nil => intro _; exact ⟨by simp, .nil, by simp [allW]⟩
  | cons t L ih =>
   intro h
   obtain ⟨i1, i2, i3⟩ := ih fun u hu => h u (List.mem_cons_of_mem _ hu)
   have e : allW 34 quE (t :: L) = shw 34 quE t ++ allW 34 quE L := rfl
   have h1 : 1 ≤ (shw 34 quE t).length ∧ OkT (shw 34 quE t) ∧ (13 : UInt8) ∉ shw 34 quE t := by
    rcases h t List.mem_cons_self with rfl | rfl | rfl
    ·exact ⟨by decide, okT_asc _ (by decide), by decide⟩
    ·exact ⟨by decide, okT_asc _ (by decide), by decide⟩
    ·exact ⟨by decide, okT_asc _ (by decide), by decide⟩
   rw [e, List.length_append, List.length_cons]
   exact ⟨by omega, okT_app h1.2.1 i2, by rw [List.mem_append, not_or]; exact ⟨h1.2.2, i3⟩⟩
 subst hw
 obtain ⟨a1, a2, a3⟩ := hasc L h
 have hp : pln (allW 34 quE L) = allW 34 quE L := by
  cases hc : allW 34 quE L with
  | nil => rw [hc] at h60; simp at h60
  | cons c r =>
   rw [hc] at h60 a3
   have : c = 60 := by simpa using h60
   subst this
   exact pln_id rfl (by decide) a3
 obtain ⟨k, hk⟩ : ∃ k, FUEL = L.length + (k + 1) := ⟨FUEL - L.length - 1, by unfold FUEL; omega⟩
 obtain ⟨M, m1, m2, m3⟩ := run_words L [] [] [] (k + 1) h (by simp; exact hl) (by simp; omega)
 rw [List.append_nil, List.nil_append, List.nil_append] at m3
 refine ⟨M, m1, m2, by rw [plain_eq _ (by omega), hp], parse_eq (a := 0) ?_ (by omega)⟩
 rw [all_eq _ hl, hp]
 have hfault : F_char_Fault (allW 34 quE L) = some (0, 0) := by
  rcases fault_iff (allW 34 quE L) (by omega) with ⟨hf, _⟩ | ⟨_, _, _, _, hno, _⟩
  ·exact hf
  ·exact absurd a2 hno
 rw [hfault, Option.bind_some]
 show cond false _ _ = _
 rw [cond_false, hk]
 rw [show (([] : List UInt8).length : Int) = 0 from rfl] at m3
 rw [m3]
 exact all_end _ M _
def Rel (L M : List Tk) : Prop := ∀ (k : Nat) (t : Tk), L[k]? = some t → ∃ u, M[k]? = some u ∧ IsO t.Name t.Kind u
theorem rel_split {L1 L2 M : List Tk} (hl : M.length = (L1 ++ L2).length) (h : Rel (L1 ++ L2) M) : ∃ A B, M = A ++ B ∧ A.length = L1.length ∧ B.length = L2.length ∧ Rel L1 A ∧ Rel L2 B := by
 rw [List.length_append] at hl
 refine ⟨M.take L1.length, M.drop L1.length, (List.take_append_drop _ _).symm, by rw [List.length_take]; omega, by rw [List.length_drop]; omega, fun k t hk => ?_, fun k t hk => ?_⟩
 ·have hlt := (List.getElem?_eq_some_iff.1 hk).1
  obtain ⟨u, hu, h2⟩ := h k t (by rw [List.getElem?_append_left hlt]; exact hk)
  exact ⟨u, by rw [List.getElem?_take, if_pos hlt]; exact hu, h2⟩
 ·obtain ⟨u, hu, h2⟩ := h (L1.length + k) t (by rw [List.getElem?_append_right (by omega), Nat.add_sub_cancel_left]; exact hk)
  exact ⟨u, by rw [List.getElem?_drop]; exact hu, h2⟩
theorem rel_rep {n : Nat} {x : Tk} {A : List Tk} (hl : A.length = n) (h : Rel (List.replicate n x) A) : ∀ u ∈ A, IsO x.Name x.Kind u := by
 intro u hu
 obtain ⟨k, hk, rfl⟩ := List.getElem_of_mem hu
 obtain ⟨v, hv, h2⟩ := h k x (by rw [List.getElem?_replicate, if_pos (by omega)])
 rw [List.getElem?_eq_getElem hk] at hv
 rw [Option.some.inj hv]; exact h2
def SA (w : List UInt8) (n : Nat) : List UInt8 := (List.replicate n w).flatten
theorem SA_succ (w : List UInt8) (n : Nat) : SA w (n + 1) = SA w n ++ w := by
 unfold SA; rw [List.replicate_succ', List.flatten_append]; simp
theorem SA_cons (w : List UInt8) (n : Nat) : SA w (n + 1) = w ++ SA w n := by
 unfold SA; rw [List.replicate_succ]; rfl
theorem SA_len (w : List UInt8) : ∀ n, (SA w n).length = n * w.length
 | 0 => by simp [SA]
 | n + 1 => by rw [SA_succ, List.length_append, SA_len w n, Nat.add_mul, Nat.one_mul]
theorem allW_rep (x : Tk) : ∀ n, allW 34 quE (List.replicate n x) = SA (shw 34 quE x) n
 | 0 => rfl
 | n + 1 => by
  rw [List.replicate_succ, SA_cons, ← allW_rep x n]; rfl
theorem allW_app (A B : List Tk) : allW 34 quE (A ++ B) = allW 34 quE A ++ allW 34 quE B := by unfold allW; rw [List.flatMap_append]
def wO : List UInt8 := [60, 97, 62]
def wC : List UInt8 := [60, 47, 97, 62]
def wL : List UInt8 := [60, 98, 47, 62]
theorem cs_len : ∀ n k : Nat, (cs n k).length = k + 1 := fun n k => by
 unfold cs
 cases n - k with
 | zero => exact opsA_len k
 | succ j =>
  have := opsA_len k
  show (addk (nst j) (opsA k)).length = _
  cases h : opsA k with
  | nil => rw [h] at this; simp at this
  | cons a l => rw [h] at this; exact this
theorem endP_many {w : List UInt8} {r : Rdr} (hp : F_scan_Plain w = some w) (h : 1 < r.open_.length) : endP w r = some (nd0, (w.length : Int), 26) := by
 unfold endP; rw [decide_eq_true (by omega), cond_true, hp]; rfl
theorem endP_one {w : List UInt8} {a : Op} {n : Int} : endP w ⟨[a], n, true⟩ = some (a.node, 0, 0) := rfl
theorem parse_nest {n m : Nat} (h1 : 1 ≤ n) (h2 : n ≤ 40) (h3 : m ≤ n + 1) : ∃ r, F_parse_Parse (SA wO n ++ SA wC m) = some r ∧ (33 < n → r.2.2 = 31) ∧
  (n ≤ 33 → (m < n → r.2.2 = 26) ∧ (m = n → r.2.2 = 0 ∧ r.1 = (kid doc0 (nst (n - 1))).node) ∧ (m = n + 1 → r.2.2 = 26)) := by
 have hL : ∀ t ∈ List.replicate n oA ++ List.replicate m cA, t = oA ∨ t = cA ∨ t = lB := by
  intro t ht
  rcases List.mem_append.1 ht with h | h
  ·exact .inl (List.eq_of_mem_replicate h)
  ·exact .inr (.inl (List.eq_of_mem_replicate h))
 have hw : allW 34 quE (List.replicate n oA ++ List.replicate m cA) = SA wO n ++ SA wC m := by
  rw [allW_app, allW_rep, allW_rep]; rfl
 obtain ⟨M, m1, m2, m3, m4⟩ := parse_rowQ hL hw (by
  obtain ⟨k, rfl⟩ : ∃ k, n = k + 1 := ⟨n - 1, by omega⟩
  rw [SA_cons]; rfl) (by rw [List.length_append, SA_len, SA_len]; show n * 3 + m * 4 ≤ _; omega)
 obtain ⟨A, B, rfl, a1, b1, a2, b2⟩ := rel_split m1 m2
 rw [List.length_replicate] at a1 b1
 have hA := rel_rep a1 a2
 have hB := rel_rep b1 b2
 obtain ⟨o1, o2⟩ := run_open A B 0 hA (by omega)
 have hr0 : r0 = ⟨opsA 0, ((0 : Nat) : Int), false⟩ := rfl
 rw [hr0] at m4
 by_cases hn : 33 < n
 ·obtain ⟨x, hx⟩ := o2 (by omega)
  rw [hx] at m4
  exact ⟨_, m4, fun _ => rfl, fun h => absurd hn (by omega)⟩
 rw [o1 (by omega), Nat.zero_add, a1] at m4
 have hcs : opsA n = cs n n := by unfold cs; rw [Nat.sub_self]
 rw [hcs] at m4
 have step : ∀ (B0 R : List Tk), (∀ t ∈ B0, IsO [97] 3 t) → B0.length ≤ n → runR (B0 ++ R) ⟨cs n n, n, false⟩ = runR R ⟨cs n (n - B0.length), n, decide (B0 ≠ [] ∧ B0.length = n)⟩ := fun B0 R hb hl => by
  rw [run_close B0 R n n false hb hl (Nat.le_refl _) (by omega), Bool.false_or]
 by_cases hm : m ≤ n
 ·have hs := step B [] hB (by omega)
  rw [List.append_nil] at hs
  rw [hs, b1] at m4
  by_cases hlt : m < n
  ·have he : endP (SA wO n ++ SA wC m) ⟨cs n (n - m), n, decide (B ≠ [] ∧ m = n)⟩ = some (nd0, _, 26) := endP_many m3 (by dsimp only; rw [cs_len]; omega)
   have m5 : F_parse_Parse (SA wO n ++ SA wC m) = endP (SA wO n ++ SA wC m) ⟨cs n (n - m), n, decide (B ≠ [] ∧ m = n)⟩ := m4
   rw [he] at m5
   exact ⟨_, m5, fun h => by omega, fun _ => ⟨fun _ => rfl, fun h => by omega, fun h => by omega⟩⟩
  ·have hmn : m = n := by omega
   subst hmn
   have m5 : F_parse_Parse (SA wO m ++ SA wC m) = endP (SA wO m ++ SA wC m) ⟨cs m (m - m), m, decide (B ≠ [] ∧ m = m)⟩ := m4
   have hc0 : cs m (m - m) = [kid doc0 (nst (m - 1))] := by
    rw [Nat.sub_self]
    obtain ⟨k, rfl⟩ : ∃ k, m = k + 1 := ⟨m - 1, by omega⟩
    rfl
   have hB0 : B ≠ [] := fun h0 => by rw [h0] at b1; simp at b1; omega
   rw [hc0, decide_eq_true ⟨hB0, rfl⟩, endP_one] at m5
   exact ⟨_, m5, fun h => by omega, fun _ => ⟨fun h => by omega, fun _ => ⟨rfl, rfl⟩, fun h => by omega⟩⟩
 ·have hmn : m = n + 1 := by omega
  obtain ⟨B0, t, rfl⟩ : ∃ B0 t, B = B0 ++ [t] := by
   rcases List.eq_nil_or_concat B with h0 | ⟨B0, t, h0⟩
   ·rw [h0] at b1; simp at b1; omega
   ·exact ⟨B0, t, by rw [h0, List.concat_eq_append]⟩
  have hb0 : B0.length = n := by rw [List.length_append, List.length_singleton] at b1; omega
  have hs := step B0 [t] (fun u hu => hB u (List.mem_append_left _ hu)) (by omega)
  have hlast : runR [t] ⟨cs n (n - B0.length), n, decide (B0 ≠ [] ∧ B0.length = n)⟩ = some (.inr (t.At, 26)) := by
   show (F_parse_reader_take _ t).bind _ = _
   rw [take_3 (hB t (by simp)).1, if_pos (by dsimp only; rw [cs_len]; omega), Option.bind_some]
   rfl
  rw [hs, hlast] at m4
  exact ⟨_, m4, fun h => by omega, fun _ => ⟨fun h => by omega, fun h => by omega, fun _ => rfl⟩⟩
theorem parse_many {k : Nat} (hk : k ≤ 2010) : ∃ r, F_parse_Parse (wO ++ SA wL k ++ wC) = some r ∧ (k < 2000 → r.2.2 = 0) ∧ (2000 ≤ k → r.2.2 = 5) := by
 have hL : ∀ t ∈ [oA] ++ (List.replicate k lB ++ [cA]), t = oA ∨ t = cA ∨ t = lB := by
  intro t ht
  rcases List.mem_append.1 ht with h | h
  ·exact .inl (List.mem_singleton.1 h)
  ·rcases List.mem_append.1 h with h | h
   ·exact .inr (.inr (List.eq_of_mem_replicate h))
   ·exact .inr (.inl (List.mem_singleton.1 h))
 have hw : allW 34 quE ([oA] ++ (List.replicate k lB ++ [cA])) = wO ++ SA wL k ++ wC := by
  rw [allW_app, allW_app, allW_rep, ← List.append_assoc]; rfl
 obtain ⟨M, m1, m2, m3, m4⟩ := parse_rowQ hL hw rfl (by rw [List.length_append, List.length_append, SA_len]; show 3 + k * 4 + 4 ≤ _; omega)
 obtain ⟨A, B, rfl, a1, b1, a2, b2⟩ := rel_split m1 m2
 obtain ⟨C, D, rfl, c1, d1, c2, d2⟩ := rel_split b1 b2
 rw [List.length_replicate] at c1
 have hA := rel_rep (n := 1) (x := oA) a1 a2
 have hC := rel_rep c1 c2
 have hD := rel_rep (n := 1) (x := cA) d1 d2
 obtain ⟨o1, _⟩ := run_open A (C ++ D) 0 hA (by omega)
 have hr0 : r0 = ⟨opsA 0, ((0 : Nat) : Int), false⟩ := rfl
 rw [hr0, o1 (by rw [a1]; simp), a1] at m4
 have hst : (⟨opsA (0 + [oA].length), ((0 + [oA].length : Nat) : Int), false⟩ : Rdr) = ⟨[kb 0, doc0], ((1 + 0 : Nat) : Int), false⟩ := rfl
 rw [hst] at m4
 obtain ⟨l1, l2⟩ := run_lone C D 0 hC (by omega)
 rw [c1] at l1 l2
 by_cases h : k < 2000
 ·rw [l1 (by omega)] at m4
  obtain ⟨t, rfl⟩ : ∃ t, D = [t] := by
   cases D with
   | nil => simp at d1
   | cons t D =>
    have h0 : D = [] := List.length_eq_zero_iff.1 (by simpa using d1)
    exact ⟨t, by rw [h0]⟩
  obtain ⟨t1, t2, t3⟩ := hD t (by simp)
  have hlast : runR [t] ⟨[kb (0 + k), doc0], ((1 + 0 + k : Nat) : Int), false⟩ = some (.inl ⟨[kid doc0 (kb (0 + k)).node], ((1 + 0 + k : Nat) : Int), true⟩) := by
   show (F_parse_reader_take _ t).bind _ = _
   rw [take_3 t1]
   dsimp only
   rw [if_neg (by simp), top_len (by simp), Option.bind_some, if_pos (by rw [t2]; rfl), close_eq (by simp) (by simp [doc0]), Option.bind_some, fin_ok (by dsimp only; omega), Option.bind_some]
   rfl
  rw [hlast] at m4
  have m5 : F_parse_Parse (wO ++ SA wL k ++ wC) = endP (wO ++ SA wL k ++ wC) ⟨[kid doc0 (kb (0 + k)).node], ((1 + 0 + k : Nat) : Int), true⟩ := m4
  rw [endP_one] at m5
  exact ⟨_, m5, fun _ => rfl, fun h => by omega⟩
 ·obtain ⟨x, hx⟩ := l2 (by omega)
  rw [hx] at m4
  exact ⟨_, m4, fun h => by omega, fun _ => rfl⟩
theorem depth_step {m : Nat} {x : Nd} {d : Int} (hx : ∃ y, x.Kids = [y] ∧ iter F_tree_Depth_b m y = some d) (h0 : 0 < d) (h1 : d ≤ 1000000) : iter F_tree_Depth_b (m + 1) x = some (d + 1) := by
 obtain ⟨y, hy, hd⟩ := hx
 show F_tree_Depth_b (iter F_tree_Depth_b m) x = _
 generalize iter F_tree_Depth_b m = rc at hd ⊢
 unfold F_tree_Depth_b
 obtain ⟨o, e1, e2⟩ := iter_spec (b := F_tree_Depth_l0 x rc) (fun i s => s = (if i = 0 then 0 else d, (i : Int))) (fun o => o = d) 1 (x0 := ((0 : Int), (0 : Int))) rfl (by
  rintro i _ rec hi rfl
  left
  have : i = 0 := by omega
  subst this
  refine ⟨(d, ((1 : Nat) : Int)), ?_, by simp⟩
  unfold F_tree_Depth_l0
  dsimp only
  rw [hy, show decide (((0 : Nat) : Int) < (([y] : List Nd).length : Int)) = true from rfl, cond_true, idx_some (l := [y]) (i := 0) (by simp), Option.bind_some]
  show (rc y).bind _ = _
  rw [hd, Option.bind_some, if_pos rfl, if_pos h0]
  rfl) (by
  rintro _ rec rfl
  refine ⟨d, ?_, rfl⟩
  unfold F_tree_Depth_l0
  dsimp only
  rw [hy]
  rfl) (n := FUEL) (by unfold FUEL; omega)
 simp only [letJ]
 rw [e1, Option.bind_some, e2, w64 (by omega) (by omega)]
theorem depth_nst : ∀ (j m : Nat), j < m → j ≤ 1000 → iter F_tree_Depth_b m (nst j) = some ((j : Int) + 1)
 | 0, m + 1, _, _ => by
  show F_tree_Depth_b (iter F_tree_Depth_b m) (nst 0) = _
  generalize iter F_tree_Depth_b m = rc
  unfold F_tree_Depth_b
  obtain ⟨o, e1, e2⟩ := iter_spec (b := F_tree_Depth_l0 (nst 0) rc) (fun i s => s = (0, 0)) (fun o => o = 0) 0 (x0 := ((0 : Int), (0 : Int))) rfl (by
   intro i _ _ hi; omega) (by
   rintro _ rec rfl
   exact ⟨0, rfl, rfl⟩) (n := FUEL) (by unfold FUEL; omega)
  simp only [letJ]
  rw [e1, Option.bind_some, e2]; rfl
 | j + 1, m + 1, h, h2 => by
  have := depth_nst j m (by omega) (by omega)
  rw [depth_step ⟨nst j, rfl, this⟩ (by omega) (by omega)]
  congr 1
theorem depth_doc {n : Nat} (h1 : 1 ≤ n) (h2 : n ≤ 40) : F_tree_Depth (kid doc0 (nst (n - 1))).node = some ((n : Int) + 1) := by
 unfold F_tree_Depth
 obtain ⟨m, hm⟩ : ∃ m, FUEL = m + 100 := ⟨FUEL - 100, by unfold FUEL; omega⟩
 rw [hm, depth_step (m := m + 99) (d := (n : Int)) ⟨nst (n - 1), rfl, by rw [depth_nst _ _ (by omega) (by omega)]; congr 1; omega⟩ (by omega) (by omega)]
theorem num_of (p : Int) {a b : Nat} (hb : 0 < b) (hb2 : b ≤ 1000) (ha : a ≤ 100000) : ∃ n : Nat, IntKind.wrap .i64 ((a : Int) + IntKind.wrap .i64 (Int.tmod (IntKind.wrap .u64 p) (b : Int))) = (n : Int) ∧ a ≤ n ∧ n < a + b := by
 obtain ⟨u1, u2⟩ := wu64 p
 have e1 : Int.tmod (IntKind.wrap .u64 p) (b : Int) = (IntKind.wrap .u64 p) % (b : Int) := Int.tmod_eq_emod_of_nonneg u1
 have h1 := Int.emod_nonneg (IntKind.wrap .u64 p) (b := (b : Int)) (by omega)
 have h2 := Int.emod_lt_of_pos (IntKind.wrap .u64 p) (b := (b : Int)) (by omega)
 rw [e1]
 generalize (IntKind.wrap .u64 p) % (b : Int) = z at h1 h2
 refine ⟨a + z.toNat, ?_, by omega, by omega⟩
 rw [w64 (x := z) (by omega) (by omega), w64 (by omega) (by omega)]; omega
theorem nests_l0 (p : Int) {n : Nat} (h : IntKind.wrap .i64 ((1 : Int) + IntKind.wrap .i64 (Int.tmod (IntKind.wrap .u64 p) (40 : Int))) = (n : Int)) (hn : n ≤ 1000) :
  iter (F_lecternlaw06_ParseNests_l0 p) FUEL (([] : List UInt8), ([] : List UInt8), (0 : Int)) = some (SA wO n, SA wC n) := by
 obtain ⟨o, e1, e2⟩ := iter_spec (b := F_lecternlaw06_ParseNests_l0 p) (fun i s => s = (SA wO i, SA wC i, (i : Int))) (fun o => o = (SA wO n, SA wC n)) n (x0 := (([] : List UInt8), ([] : List UInt8), (0 : Int))) rfl (by
  rintro i _ rec hi rfl
  left
  refine ⟨(SA wO (i + 1), SA wC (i + 1), ((i + 1 : Nat) : Int)), ?_, rfl⟩
  unfold F_lecternlaw06_ParseNests_l0
  dsimp only
  rw [h, decide_eq_true (by omega), cond_true, cat_some (by rw [SA_len]; show i * 3 + 3 ≤ _; omega), Option.bind_some, cat_some (by rw [SA_len]; show i * 4 + 4 ≤ _; omega), Option.bind_some, w64 (by omega) (by omega), SA_succ, SA_succ]
  rfl) (by
  rintro _ rec rfl
  refine ⟨_, ?_, rfl⟩
  unfold F_lecternlaw06_ParseNests_l0
  dsimp only
  rw [h, decide_eq_false (by omega), cond_false]) (n := FUEL) (by unfold FUEL; omega)
 rw [e1, e2]
theorem nests_l1 (p : Int) {k : Nat} (h : IntKind.wrap .i64 ((1990 : Int) + IntKind.wrap .i64 (Int.tmod (IntKind.wrap .u64 p) (20 : Int))) = (k : Int)) (hk : k ≤ 3000) :
  iter (F_lecternlaw06_ParseNests_l1 p) FUEL (wO, (0 : Int)) = some (wO ++ SA wL k) := by
 obtain ⟨o, e1, e2⟩ := iter_spec (b := F_lecternlaw06_ParseNests_l1 p) (fun i s => s = (wO ++ SA wL i, (i : Int))) (fun o => o = wO ++ SA wL k) k (x0 := (wO, (0 : Int))) (by rw [show SA wL 0 = [] from rfl, List.append_nil]; rfl) (by
  rintro i _ rec hi rfl
  left
  refine ⟨(wO ++ SA wL (i + 1), ((i + 1 : Nat) : Int)), ?_, rfl⟩
  unfold F_lecternlaw06_ParseNests_l1
  dsimp only
  rw [h, decide_eq_true (by omega), cond_true, cat_some (by rw [List.length_append, SA_len]; show 3 + i * 4 + 4 ≤ _; omega), Option.bind_some, w64 (by omega) (by omega), SA_succ, List.append_assoc]
  rfl) (by
  rintro _ rec rfl
  refine ⟨_, ?_, rfl⟩
  unfold F_lecternlaw06_ParseNests_l1
  dsimp only
  rw [h, decide_eq_false (by omega), cond_false]) (n := FUEL) (by unfold FUEL; omega)
 rw [e1, e2]
theorem parseNests (p0 p1 : Int) : F_lecternlaw06_ParseNests p0 p1 = some true := by
 obtain ⟨n, hn, n1, n2⟩ := num_of p0 (a := 1) (b := 40) (by omega) (by omega) (by omega)
 obtain ⟨k, hk, k1, k2⟩ := num_of p1 (a := 1990) (b := 20) (by omega) (by omega) (by omega)
 replace hn : IntKind.wrap .i64 ((1 : Int) + IntKind.wrap .i64 (Int.tmod (IntKind.wrap .u64 p0) (40 : Int))) = (n : Int) := hn
 replace hk : IntKind.wrap .i64 ((1990 : Int) + IntKind.wrap .i64 (Int.tmod (IntKind.wrap .u64 p1) (20 : Int))) = (k : Int) := hk
 obtain ⟨m, rfl⟩ : ∃ m, n = m + 1 := ⟨n - 1, by omega⟩
 obtain ⟨x, x1, x2, x3⟩ := parse_nest (n := m + 1) (m := m + 1) n1 (by omega) (by omega)
 obtain ⟨y, y1, y2, y3⟩ := parse_nest (n := m + 1) (m := m) n1 (by omega) (by omega)
 obtain ⟨z, z1, z2, z3⟩ := parse_nest (n := m + 1) (m := m + 1 + 1) n1 (by omega) (by omega)
 obtain ⟨v, v1, v2, v3⟩ := parse_many (k := k) (by omega)
 have hsl : slc (SA wC (m + 1)) (4 : Int) ((SA wC (m + 1)).length : Int) = some (SA wC m) := by
  unfold slc
  rw [if_pos ⟨by omega, by rw [SA_len]; show (4 : Int) ≤ (((m + 1) * 4 : Nat) : Int); omega, by omega⟩, SA_cons]
  have e1 : (wC ++ SA wC m).drop (4 : Int).toNat = SA wC m := rfl
  rw [e1, List.take_of_length_le]
  rw [List.length_append]; show _ ≤ ((((4 + (SA wC m).length : Nat)) : Int).toNat) - 4; omega
 have cs1 : cat (SA wO (m + 1)) (SA wC (m + 1)) = some (SA wO (m + 1) ++ SA wC (m + 1)) := cat_some (by rw [SA_len, SA_len]; show (m + 1) * 3 + (m + 1) * 4 ≤ _; omega)
 have cs2 : cat (SA wO (m + 1)) (SA wC m) = some (SA wO (m + 1) ++ SA wC m) := cat_some (by rw [SA_len, SA_len]; show (m + 1) * 3 + m * 4 ≤ _; omega)
 have cs3 : cat (SA wO (m + 1) ++ SA wC (m + 1)) ([60, 47, 97, 62] : List UInt8) = some (SA wO (m + 1) ++ SA wC (m + 1 + 1)) := by
  rw [cat_some (by rw [List.length_append, SA_len, SA_len]; show (m + 1) * 3 + (m + 1) * 4 + 4 ≤ _; omega), SA_succ wC (m + 1), List.append_assoc]; rfl
 have z1' : F_parse_Parse ((SA wO (m + 1) ++ SA wC (m + 1)) ++ ([60, 47, 97, 62] : List UInt8)) = some z := by
  rw [List.append_assoc]; rw [SA_succ wC (m + 1)] at z1; exact z1
 have cs4 : cat (wO ++ SA wL k) ([60, 47, 97, 62] : List UInt8) = some (wO ++ SA wL k ++ wC) := cat_some (by rw [List.length_append, SA_len]; show 3 + k * 4 + 4 ≤ _; omega)
 have hin : ((iter (F_lecternlaw06_ParseNests_l1 p1) FUEL (([60, 97, 62] : List UInt8), (0 : Int))).bind fun o =>
   (cat o ([60, 47, 97, 62] : List UInt8)).bind fun _ => (F_parse_Parse (o ++ ([60, 47, 97, 62] : List UInt8))).bind fun x60 =>
    some (((x60.2.2 == (0 : Int)) == (decide ((k : Int) < (2000 : Int)))) && ((x60.2.2 == (0 : Int)) || (x60.2.2 == (5 : Int))))) = some true := by
  have := nests_l1 p1 hk (by omega)
  rw [show (([60, 97, 62] : List UInt8), (0 : Int)) = (wO, (0 : Int)) from rfl, this, Option.bind_some, cs4, Option.bind_some]
  have : F_parse_Parse (wO ++ SA wL k ++ ([60, 47, 97, 62] : List UInt8)) = some v := v1
  rw [this, Option.bind_some]
  by_cases h : k < 2000
  ·rw [v2 h, decide_eq_true (by omega)]; rfl
  ·rw [v3 (by omega), decide_eq_false (by omega)]; rfl
 unfold F_lecternlaw06_ParseNests
 rw [awake_t, Option.bind_some, Bool.not_true, cond_false]
 simp only [letJ]
 rw [nests_l0 p0 hn (by omega), Option.bind_some]
 dsimp only
 rw [cs1, Option.bind_some, x1, Option.bind_some, hsl, Option.bind_some, cs2, Option.bind_some, y1, Option.bind_some, Option.bind_some, cs3, Option.bind_some, z1', Option.bind_some, hn, hk]
 by_cases h : m + 1 ≤ 33
 ·obtain ⟨_, a2, _⟩ := x3 h
  obtain ⟨a2, a4⟩ := a2 rfl
  obtain ⟨b1, _, _⟩ := y3 h
  obtain ⟨_, _, c3⟩ := z3 h
  rw [a2, a4, b1 (by omega), c3 rfl, decide_eq_true (by omega), decide_eq_false (by omega)]
  rw [depth_doc (by omega) (by omega), w64 (x := ((m + 1 : Nat) : Int) + 1) (by omega) (by omega), Option.bind_some, bne_self_eq_false]
  have q1 : ((!(((0 : Int) == 0) == true)) || (false && ((((0 : Int) != 31) || ((26 : Int) != 0)) || ((26 : Int) != 0)))) = false := by decide
  have q2 : (((26 : Int) != 26) || ((26 : Int) != 26)) = false := by decide
  simp only [q1, q2, bne_self_eq_false, Bool.or_self, cond_false, cond_true]
  exact hin
 ·rw [x2 (by omega), y2 (by omega), z2 (by omega), decide_eq_false (by omega), decide_eq_true (by omega)]
  exact hin
end Go.Proofs.YtilhbalhkljanaaGreatDoor
