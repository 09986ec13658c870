/- Characters and names: what the program's functions answer. No condition. -/
import Derived.Test.YtilhbalhkljanaaGreatDoorWs
import Derived.Test.YtilhbalhkljanaaGreatDoorPf
import Derived.Test.YtilhbalhkljanaaGreatDoorPl1
import Derived.KernelRfl
import Derived.Lib.MapLaws
import Derived.Lib.TrimUEq
import Derived.Lib.ValidLaws
import Derived.Lib.Index
import Derived.Laws.BitsAllLaws
import Derived.Lib.SlTrimSet
import Derived.Laws.Cover4
import Derived.Lib.IndexMore
import Derived.Lib.IndexLaws
import Derived.Test.YtilhbalhkljanaaGreatDoorEng25
set_option linter.unusedSimpArgs false
set_option linter.unusedVariables false
set_option maxRecDepth 20000
namespace Go.Proofs.YtilhbalhkljanaaGreatDoor
open Go.Lib (decodeL decodeN)
theorem VT (p : LB) (x k : Nat) : (p.drop x).getD k 0 = p.getD (x + k) 0 := by simp [List.getD, List.getElem?_drop]
theorem Sh (n b0 b1 b2 b3 : Nat) : (b0 < 128 → decodeN n b0 b1 b2 b3 = (b0, 1)) ∧ (2 ≤ (decodeN n b0 b1 b2 b3).2 → 128 ≤ b1) ∧ (3 ≤ (decodeN n b0 b1 b2 b3).2 → 128 ≤ b2) ∧ (4 ≤ (decodeN n b0 b1 b2 b3).2 → 128 ≤ b3) ∧ (decodeN n b0 b1 b2 b3).2 ≤ 4 := by
 unfold decodeN
 repeat' split
 all_goals refine ⟨fun h => ?_, fun h => ?_, fun h => ?_, fun h => ?_, ?_⟩
 all_goals first | rfl | omega | (simp only at *; omega)
theorem Qb {α : Type} {l : List α} {i : Nat} (h : i < l.length) : l.drop i = l[i] :: l.drop (i + 1) := List.drop_eq_getElem_cons h
theorem CT (p : LB) (x : Nat) (hx : x < p.length) : 1 ≤ (decodeL (p.drop x)).2 ∧ x + (decodeL (p.drop x)).2 ≤ p.length ∧ ((p.getD x 0).toNat < 128 → decodeL (p.drop x) = ((p.getD x 0).toNat, 1)) ∧ ∀ k, 1 ≤ k → k < (decodeL (p.drop x)).2 → 128 ≤ (p.getD (x + k) 0).toNat := by
 have hne : p.drop x ≠ [] := by intro h; have := congrArg List.length h; simp at this; omega
 have h1 := Lib.decodeL_width (p.drop x)
 have h2 := Lib.decodeL_le (p.drop x) hne
 have e := Lib.decodeL_N (p.drop x)
 simp only [VT] at e
 have f := Sh (p.drop x).length (p.getD (x + 0) 0).toNat (p.getD (x + 1) 0).toNat (p.getD (x + 2) 0).toNat (p.getD (x + 3) 0).toNat
 rw [← e] at f
 obtain ⟨f0, f1, f2, f3, f4⟩ := f
 rw [lD] at h2
 refine ⟨h1, by omega, fun h => f0 h, fun k hk1 hk2 => ?_⟩
 match k, hk1, hk2 with
 | 1, _, hk => exact f1 om
 | 2, _, hk => exact f2 om
 | 3, _, hk => exact f3 om
 | k + 4, _, hk => omega
theorem X3 (p : LB) (x : Nat) : (rnS p x = ((decodeL (p.drop x)).1 : Int)) ∧ wdS p x = (decodeL (p.drop x)).2 := by
 have := Lib.decodeL_drop ⟨p.toArray⟩ x
 simp only at this
 unfold rnS wdS
 rw [← this]
 exact ⟨rfl, rfl⟩
def Gc (d : Nat × Nat) : Bool := decide (d.1 = 65533 ∧ d.2 = 1)
def inP (r : Int) : List Ah → Bool
 | [] => false
 | s :: l => if r ≤ s.hi then decide (s.lo ≤ r) else inP r l
theorem eF (r : Int) (l : List Ah) (hl : l.length ≤ 9223372036854775807) : FI r l = some (inP r l) := by
 unfold FI
 simp only [Av]
 obtain ⟨o, h1, h2⟩ := CA (b := FV r l) (fun i x => x = (i : Int) ∧ inP r l = inP r (l.drop i)) (fun o => match o with | .inl _ => inP r l = false | .inr b => inP r l = b) l.length (x0 := (0 : Int)) ⟨rfl, by simp⟩
  (fun i x rec hi ⟨hx, hI⟩ => by
   subst hx
   rw [Qb hi, inP] at hI
   unfold FV
   rw [dT om, cT, Bw hi, bS, w64 om om]
   by_cases c : r ≤ l[i].hi
   ·rw [if_pos c] at hI
    rw [dT c]
    exact .inr ⟨.inr _, rfl, hI⟩
   ·rw [if_neg c] at hI
    rw [dF c]
    exact .inl ⟨_, rfl, rfl, hI⟩)
  (fun x rec ⟨hx, hI⟩ => ⟨.inl (), by
   subst hx
   unfold FV
   rw [dF om, cF], by show inP r l = false; rw [hI, List.drop_length]; rfl⟩) (n := AA) (by unfold AA; omega)
 rw [h1, bS]
 cases o with
 | inl u => simp only at h2; rw [h2]
 | inr b => simp only at h2; rw [h2]
def srt : List Ah → Bool
 | [] => true
 | s :: l => l.all (fun t => decide (s.hi < t.lo)) && srt l
theorem My (r : Int) : ∀ l, srt l = true → inP r l = l.any fun s => decide (s.lo ≤ r ∧ r ≤ s.hi)
 | [], _ => rfl
 | s :: l, h => by
  simp only [srt, Bool.and_eq_true, List.all_eq_true, decide_eq_true_eq] at h
  simp only [inP, List.any_cons]
  by_cases c : r ≤ s.hi
  ·rw [if_pos c]
   have : (l.any fun s => decide (s.lo ≤ r ∧ r ≤ s.hi)) = false := by
    rw [List.any_eq_false]
    intro t ht
    have := h.1 t ht
    simp only [decide_eq_true_eq]; omega
   rw [this, Bool.or_false]
   by_cases c2 : s.lo ≤ r <;> simp [c, c2]
  ·rw [if_neg c, My r l h.2, dF (fun hh => c hh.2), Bool.false_or]
def Ee (r : Int) : Bool := decide (r = 9 ∨ r = 10 ∨ r = 13 ∨ (32 ≤ r ∧ r ≤ 55295) ∨ (57344 ≤ r ∧ r ≤ 65533) ∨ (65536 ≤ r ∧ r ≤ 1114111))
def F3 (r : Int) : Bool := decide ((65 ≤ r ∧ r ≤ 90) ∨ r = 95 ∨ (97 ≤ r ∧ r ≤ 122) ∨ (192 ≤ r ∧ r ≤ 214) ∨ (216 ≤ r ∧ r ≤ 246) ∨ (248 ≤ r ∧ r ≤ 767) ∨ (880 ≤ r ∧ r ≤ 893) ∨ (895 ≤ r ∧ r ≤ 8191) ∨ (8204 ≤ r ∧ r ≤ 8205) ∨ (8304 ≤ r ∧ r ≤ 8591) ∨ (11264 ≤ r ∧ r ≤ 12271) ∨ (12289 ≤ r ∧ r ≤ 55295) ∨ (63744 ≤ r ∧ r ≤ 64975) ∨ (65008 ≤ r ∧ r ≤ 65533) ∨ (65536 ≤ r ∧ r ≤ 983039))
def KR (r : Int) : Bool := F3 r || decide (r = 45 ∨ r = 46 ∨ (48 ≤ r ∧ r ≤ 57) ∨ r = 183 ∨ (768 ≤ r ∧ r ≤ 879) ∨ (8255 ≤ r ∧ r ≤ 8256))
theorem Xk (r : Int) (k : Bool → Option Bool) (l : List Ah) (hl : l.length ≤ 9223372036854775807) : (FI r l).bind k = k (inP r l) := by rw [eF r l hl]; rfl
theorem NY (r : Int) : DV r = some (Ee r) := by
 unfold DV Ee
 simp only [Av]
 by_cases c : r = 9 ∨ r = 10 ∨ r = 13
 ·have e : (((r == (9 : Int)) || (r == (10 : Int))) || (r == (13 : Int))) = true := by simp only [Bool.or_eq_true, beq_iff_eq]; omega
  rw [e, cT, dT om]
 ·have e : (((r == (9 : Int)) || (r == (10 : Int))) || (r == (13 : Int))) = false := by simp only [Bool.or_eq_false_iff, bn]; omega
  rw [e, cF, Xk _ _ _ dc]
  congr 1
  rw [My _ _ dc, Bool.eq_iff_iff]
  simp only [List.any_cons, List.any_nil, Bool.or_eq_true, decide_eq_true_eq, Bool.false_eq_true, or_false]
  omega
theorem JJ (r : Int) : D6 r = some (F3 r) := by
 unfold D6 F3
 by_cases c : r < 128
 ·rw [dT c, cT]
  congr 1
  rw [Bool.eq_iff_iff]
  simp only [Bool.or_eq_true, Bool.and_eq_true, beq_iff_eq, decide_eq_true_eq]
  omega
 ·rw [dF c, cF, Xk _ _ _ dc]
  congr 1
  rw [My _ _ dc, Bool.eq_iff_iff]
  simp only [List.any_cons, List.any_nil, Bool.or_eq_true, decide_eq_true_eq, Bool.false_eq_true, or_false]
  omega
theorem N5 (r : Int) : ER r = some (KR r) := by
 unfold ER KR
 rw [JJ, bS]
 simp only [Av]
 by_cases c : F3 r = true ∨ r = 45 ∨ r = 46 ∨ (48 ≤ r ∧ r ≤ 57) ∨ r = 183
 ·have e : ((((F3 r || (r == (45 : Int))) || (r == (46 : Int))) || ((decide ((48 : Int) ≤ r)) && (decide (r ≤ (57 : Int))))) || (r == (183 : Int))) = true := by
   simp only [Bool.or_eq_true, Bool.and_eq_true, beq_iff_eq, decide_eq_true_eq]
   rcases c with c | c
   ·simp [c]
   ·omega
  rw [e, cT]
  congr 1
  rcases c with c | c
  ·simp [c]
  ·rw [dT om, Bool.or_true]
 ·have hs : F3 r = false := by simpa using fun h => c (.inl h)
  have e : ((((F3 r || (r == (45 : Int))) || (r == (46 : Int))) || ((decide ((48 : Int) ≤ r)) && (decide (r ≤ (57 : Int))))) || (r == (183 : Int))) = false := by
   rw [Bool.eq_false_iff]
   simp only [ne_eq, Bool.or_eq_true, Bool.and_eq_true, beq_iff_eq, decide_eq_true_eq, hs, Bool.false_eq_true, false_or]
   intro h; apply c; right; omega
  rw [e, cF, Xk _ _ _ dc]
  congr 1
  rw [hs, Bool.false_or]
  rw [My _ _ dc, Bool.eq_iff_iff]
  simp only [List.any_cons, List.any_nil, Bool.or_eq_true, decide_eq_true_eq, Bool.false_eq_true, or_false]
  omega
theorem Yg (n b0 b1 b2 b3 : Nat) : (decodeN n b0 b1 b2 b3).2 = 2 → (decodeN n b0 b1 b2 b3).1 ≤ 2047 := by
 unfold decodeN
 repeat' split
 all_goals first | (intro h; simp only at h; omega) | (intro _; simp only; omega)
theorem V8 (l : LB) (x : Nat) (hx : x < l.length) : ((((decodeL (l.drop x)).1 : Int) == (65533 : Int)) && decide (((decodeL (l.drop x)).2 : Int) < (3 : Int))) = Gc (decodeL (l.drop x)) := by
 obtain ⟨d1, _⟩ := CT l x hx
 have e := Lib.decodeL_N (l.drop x)
 have h2 := Yg (l.drop x).length ((l.drop x).getD 0 0).toNat ((l.drop x).getD 1 0).toNat ((l.drop x).getD 2 0).toNat ((l.drop x).getD 3 0).toNat
 rw [← e] at h2
 unfold Gc
 rw [Bool.eq_iff_iff]
 simp only [Bool.and_eq_true, beq_iff_eq, decide_eq_true_eq]
 omega
theorem GK (p : LB) (x : Nat) (hx : x < p.length) (hl : p.length ≤ 1073741824) : Ff p (x : Int) = some (if Gc (decodeL (p.drop x)) then (0, 0, 20) else if Ee (decodeL (p.drop x)).1 then (((decodeL (p.drop x)).1 : Int), ((x + (decodeL (p.drop x)).2 : Nat) : Int), 0) else (0, 0, 21)) := by
 obtain ⟨d1, d2, d3, d4⟩ := CT p x hx
 unfold Ff
 rw [dF om, dF om]
 simp only [Bool.or_self, cF]
 have hs : slc p (x : Int) (p.length : Int) = some (p.drop x) := by
  unfold slc; rw [if_pos om]; simp only [Int.toNat_natCast]; rw [List.take_of_length_le (by simp)]
 rw [hs, bS]
 have hne : p.drop x ≠ [] := by intro h; have := congrArg List.length h; simp at this; omega
 have hd : Dy (p.drop x) = some (((decodeL (p.drop x)).1 : Int), ((decodeL (p.drop x)).2 : Int)) := by
  unfold Dy Lib.decodeGo
  rw [if_neg hne, if_neg (by
   show ¬ ((p.drop x).toArray.size = 0)
   simp; omega)]
  rfl
 rw [hd, bS]
 simp only [V8 p x hx, NY, bS]
 cases Gc (decodeL (p.drop x))
 ·cases Ee ((decodeL (p.drop x)).1 : Int)
  ·rfl
  ·simp only [cF, bT, Bool.false_eq_true, if_false, if_true]
   rw [w64 om om]; rfl
 ·rfl
def okN (l : LB) : Nat → Nat → Bool
 | 0, _ => true
 | n + 1, j => if j < l.length then !Gc (decodeL (l.drop j)) && (KR (decodeL (l.drop j)).1 && ((!decide (j = 0) || F3 (decodeL (l.drop j)).1) && okN l n (j + (decodeL (l.drop j)).2))) else true
theorem OW (l : LB) : ∀ n j, l.length ≤ j + n → okN l n j = true → Lib.validD (l.drop j) = true
 | 0, j, h, _ => by rw [List.drop_of_length_le om]; rfl
 | n + 1, j, h, hok => by
  by_cases hj : j < l.length
  ·obtain ⟨d1, d2, d3, d4⟩ := CT l j hj
   simp only [okN, if_pos hj, Bool.and_eq_true, Bool.not_eq_true'] at hok
   have hne : l.drop j ≠ [] := by intro h; have := congrArg List.length h; simp at this; omega
   have hb := hok.1
   unfold Gc at hb
   rw [Lib.validD_step _ hne, if_neg (of_decide_eq_false hb), List.drop_drop]
   exact OW l n _ om hok.2.2.2
  ·rw [List.drop_of_length_le om]; rfl
def JC (l : LB) : Bool := !(decide (l = []) || decide (100 < l.length)) && okN l l.length 0
theorem Iy (l : LB) : Eo l = some (JC l) := by
 unfold Eo JC
 simp only [Av]
 by_cases c : l = [] ∨ 100 < l.length
 ·have e1 : ((l == ([] : LB)) || decide ((100 : Int) < (l.length : Int))) = true := by
   simp only [Bool.or_eq_true, beq_iff_eq, decide_eq_true_eq]
   rcases c with rfl | c
   ·left; rfl
   ·right; omega
  have e2 : (decide (l = []) || decide (100 < l.length)) = true := by simpa using c
  rw [e1, e2]; rfl
 ·have hl : l.length ≤ 100 := by omega
  have hne : 0 < l.length := List.length_pos_iff.2 fun h => c (.inl h)
  have e1 : ((l == ([] : LB)) || decide ((100 : Int) < (l.length : Int))) = false := by
   simp only [Bool.or_eq_false_iff, bn, decide_eq_false_iff_not]
   exact ⟨fun h => c (.inl h), by omega⟩
  have e2 : (decide (l = []) || decide (100 < l.length)) = false := by
   simp only [Bool.or_eq_false_iff, decide_eq_false_iff_not]
   exact ⟨fun h => c (.inl h), by omega⟩
  rw [e1, e2, cF, bF, Bool.true_and]
  have hv : EQ l = some (Lib.validD l) := by unfold EQ; rw [if_pos om]
  rw [hv, bS]
  cases hval : Lib.validD l
  ·have : okN l l.length 0 = false := by
    cases hok : okN l l.length 0
    ·rfl
    ·have := OW l l.length 0 om hok
     rw [List.drop_zero, hval] at this; cases this
   rw [this]; rfl
  simp only [bT, cF]
  obtain ⟨o, h1, h2⟩ := CA (b := E4 l) (fun i x => i ≤ x ∧ x ≤ l.length ∧ okN l l.length 0 = okN l (l.length - i) x ∧ Lib.validD (l.drop x) = true) (fun o => match o with | .inl _ => okN l l.length 0 = true | .inr b => b = false ∧ okN l l.length 0 = false) l.length (x0 := (0 : Nat)) ⟨Nat.le_refl _, Nat.zero_le _, rfl, by simpa using hval⟩
   (fun i j rec hi ⟨hij, hjl, hI, hV⟩ => by
    have es : l.length - i = (l.length - (i + 1)) + 1 := by omega
    rw [es, okN] at hI
    unfold E4
    by_cases hj : j < l.length
    ·obtain ⟨d1, d2, d3, d4⟩ := CT l j hj
     obtain ⟨r1, r2⟩ := X3 l j
     have hne : l.drop j ≠ [] := by intro h; have := congrArg List.length h; simp at this; omega
     rw [Lib.validD_step _ hne] at hV
     have hb : Gc (decodeL (l.drop j)) = false := by
      unfold Gc
      apply dF
      intro h; rw [if_pos h] at hV; cases hV
     rw [if_neg (of_decide_eq_false hb), List.drop_drop] at hV
     rw [if_pos hj, hb] at hI
     simp only [Av]
     rw [dT hj, cT]
     simp only [r1, r2, N5, JJ, bS]
     have ez : (((j : Nat) : Int) == (0 : Int)) = decide (j = 0) := by
      rw [Bool.eq_iff_iff]; simp only [beq_iff_eq, decide_eq_true_eq]; omega
     rw [ez]
     cases hp : KR ((decodeL (l.drop j)).1 : Int)
     ·rw [hp] at hI
      refine .inr ⟨.inr false, ?_, rfl, by simpa using hI⟩
      cases decide (j = 0) <;> cases F3 ((decodeL (l.drop j)).1 : Int) <;> rfl
     ·rw [hp] at hI
      cases hd0 : decide (j = 0)
      ·rw [hd0] at hI
       exact .inl ⟨j + (decodeL (l.drop j)).2, rfl, by omega, d2, by simpa using hI, hV⟩
      ·rw [hd0] at hI
       cases hs : F3 ((decodeL (l.drop j)).1 : Int)
       ·rw [hs] at hI
        exact .inr ⟨.inr false, rfl, rfl, by simpa using hI⟩
       ·rw [hs] at hI
        exact .inl ⟨j + (decodeL (l.drop j)).2, rfl, by omega, d2, by simpa using hI, hV⟩
    ·rw [if_neg hj] at hI
     rw [dF hj, cF]
     exact .inr ⟨.inl (), rfl, hI⟩)
   (fun j rec ⟨hij, hjl, hI, hV⟩ => ⟨.inl (), by
    unfold E4
    rw [dF om, cF], by show okN l l.length 0 = true; rw [hI, Nat.sub_self]; rfl⟩) (n := AA) (by unfold AA; omega)
  rw [h1, bS]
  cases o with
  | inl u => simp only at h2; rw [h2]
  | inr b => obtain ⟨rfl, h3⟩ := h2; rw [h3]
def sk (P : UInt8 → Bool) (s : LB) (i : Nat) : Nat := i + ((s.drop i).takeWhile P).length
theorem DK (P : UInt8 → Bool) (s : LB) (i : Nat) (h : i ≤ s.length) : i ≤ sk P s i ∧ sk P s i ≤ s.length := by
 unfold sk
 have := (List.takeWhile_sublist P (l := s.drop i)).length_le
 rw [lD] at this
 omega
theorem Ye (P : UInt8 → Bool) (s : LB) : sk P s s.length = s.length := by simp [sk]
theorem Fx {P : UInt8 → Bool} {s : LB} {i : Nat} (h : i < s.length) : sk P s i = if P s[i] = true then sk P s (i + 1) else i := by
 unfold sk
 rw [List.drop_eq_getElem_cons h, List.takeWhile_cons]
 split
 ·rw [lC]; omega
 ·rfl
theorem TC {P : UInt8 → Bool} {s : LB} : ∀ (j i : Nat), i + j = s.length → (h : sk P s i < s.length) → P s[sk P s i] = false
 | 0, i, e, h => by
  have : i = s.length := by omega
  subst this
  rw [Ye] at h; omega
 | j + 1, i, e, h => by
  have hi : i < s.length := by omega
  cases hP : P s[i] with
  | true =>
   have e2 : sk P s i = sk P s (i + 1) := by rw [Fx hi, if_pos hP]
   have := TC (P := P) (s := s) j (i + 1) om (by rw [← e2]; exact h)
   simpa only [e2] using this
  | false =>
   have e2 : sk P s i = i := by rw [Fx hi, if_neg (by simp [hP])]
   simp only [e2, hP]
theorem ON {b : (Int → Option Int) → Int → Option Int} (P : UInt8 → Bool) (s : LB)
  (hb : ∀ (rec : Int → Option Int) (i : Nat) (h : i < s.length), b rec (i : Int) = cond (P s[i]) (rec ((i + 1 : Nat) : Int)) (some (i : Int)))
  (he : ∀ rec : Int → Option Int, b rec (s.length : Int) = some (s.length : Int)) :
  ∀ (n j i : Nat), i + j = s.length → j < n → iter b n (i : Int) = some ((sk P s i : Nat) : Int)
 | 0, j, i, _, h => by omega
 | n + 1, 0, i, e, h => by
  have : i = s.length := by omega
  subst this
  show b (iter b n) _ = _
  rw [he, Ye]
 | n + 1, j + 1, i, e, h => by
  have hi : i < s.length := by omega
  show b (iter b n) _ = _
  rw [hb _ i hi, Fx hi]
  cases hP : P s[i] with
  | true => rw [cT, if_pos rfl]; exact ON P s hb he n j (i + 1) om om
  | false => rw [cF, if_neg (by simp)]
theorem XS {p : UInt8 → Bool} (h : (List.range 256).all (fun n => p (UInt8.ofNat n)) = true) (c : UInt8) : p c = true := by
 rw [List.all_eq_true] at h
 have := h c.toNat (List.mem_range.2 c.toNat_lt)
 simpa using this
theorem PK (c : UInt8) : ((c.toNat : Int)).toNat.toUInt8 = c := by simp
theorem DN {σ ρ : Type} (b : (σ → Option ρ) → σ → Option ρ) (n : Nat) (x : σ) : iter b (n + 1) x = b (iter b n) x := rfl
theorem Q5 {σ τ ρ ψ : Type} {b : (σ → Option ρ) → σ → Option ρ} {c : (τ → Option ψ) → τ → Option ψ} (μ : σ → Nat) (I : σ → τ → Prop) (R : ρ → ψ → Prop)
  (step : ∀ x y, I x y → (∃ x' y', (∀ rec, b rec x = rec x') ∧ (∀ rec, c rec y = rec y') ∧ I x' y' ∧ μ x' < μ x) ∨ (∃ o q, (∀ rec, b rec x = some o) ∧ (∀ rec, c rec y = some q) ∧ R o q)) :
  ∀ (n m : Nat) (x : σ) (y : τ), I x y → μ x < n → μ x < m → ∃ o q, iter b n x = some o ∧ iter c m y = some q ∧ R o q
 | 0, _, x, y, _, h, _ => by omega
 | _ + 1, 0, x, y, _, _, h => by omega
 | n + 1, m + 1, x, y, hI, h1, h2 => by
  rcases step x y hI with ⟨x', y', e1, e2, hI', hm⟩ | ⟨o, q, e1, e2, hR⟩
  ·obtain ⟨o, q, g1, g2, hR⟩ := Q5 μ I R step n m x' y' hI' om om
   exact ⟨o, q, by show b (iter b n) x = _; rw [e1, g1], by show c (iter c m) y = _; rw [e2, g2], hR⟩
  ·exact ⟨o, q, e1 _, e2 _, hR⟩
theorem Y6 : Em = some true := by kernel_rfl
def fm (n b0 b1 b2 b3 : Nat) : Int × Int :=
 if b0 < 128 then (b0, 1)
 else if 192 ≤ b0 ∧ b0 < 224 then
  (if n < 2 then (0, 0) else if b1 < 128 ∨ 191 < b1 then (0, 0) else
   if (64 * ((b0 : Int) - 192) + b1 - 128 < 128 ∨ 1114111 < 64 * ((b0 : Int) - 192) + b1 - 128) ∨ (55296 ≤ 64 * ((b0 : Int) - 192) + b1 - 128 ∧ 64 * ((b0 : Int) - 192) + b1 - 128 ≤ 57343) then (0, 0) else (64 * ((b0 : Int) - 192) + b1 - 128, 2))
 else if 224 ≤ b0 ∧ b0 < 240 then
  (if n < 3 then (0, 0) else if b1 < 128 ∨ 191 < b1 then (0, 0) else if b2 < 128 ∨ 191 < b2 then (0, 0) else
   if (64 * (64 * ((b0 : Int) - 224) + b1 - 128) + b2 - 128 < 2048 ∨ 1114111 < 64 * (64 * ((b0 : Int) - 224) + b1 - 128) + b2 - 128) ∨ (55296 ≤ 64 * (64 * ((b0 : Int) - 224) + b1 - 128) + b2 - 128 ∧ 64 * (64 * ((b0 : Int) - 224) + b1 - 128) + b2 - 128 ≤ 57343) then (0, 0) else (64 * (64 * ((b0 : Int) - 224) + b1 - 128) + b2 - 128, 3))
 else if 240 ≤ b0 ∧ b0 < 248 then
  (if n < 4 then (0, 0) else if b1 < 128 ∨ 191 < b1 then (0, 0) else if b2 < 128 ∨ 191 < b2 then (0, 0) else if b3 < 128 ∨ 191 < b3 then (0, 0) else
   if (64 * (64 * (64 * ((b0 : Int) - 240) + b1 - 128) + b2 - 128) + b3 - 128 < 65536 ∨ 1114111 < 64 * (64 * (64 * ((b0 : Int) - 240) + b1 - 128) + b2 - 128) + b3 - 128) ∨ (55296 ≤ 64 * (64 * (64 * ((b0 : Int) - 240) + b1 - 128) + b2 - 128) + b3 - 128 ∧ 64 * (64 * (64 * ((b0 : Int) - 240) + b1 - 128) + b2 - 128) + b3 - 128 ≤ 57343) then (0, 0) else (64 * (64 * (64 * ((b0 : Int) - 240) + b1 - 128) + b2 - 128) + b3 - 128, 4))
 else (0, 0)
open Go.Lib (decodeL decodeN)
abbrev bt (l : LB) (k : Nat) : Nat := (l.getD k 0).toNat
theorem BU {α : Type} {l : List α} {n : Nat} (h : n ≤ l.length) : slc l (n : Int) (l.length : Int) = some (l.drop n) := by
 unfold slc; rw [if_pos om]; simp only [Int.toNat_natCast]; rw [List.take_of_length_le (by simp)]
theorem Ew {α : Type} {l : List α} {n : Nat} (h : n ≤ l.length) : slc l (0 : Int) (n : Int) = some (l.take n) := by
 unfold slc; rw [if_pos om]; simp
def AF (b : LB) (i : Nat) (w : LB) : Bool := w.isPrefixOf (b.drop i)
theorem D3 (w l : LB) : w.isPrefixOf l = (decide (w.length ≤ l.length) && (l.take w.length == w)) := by
 rw [Bool.eq_iff_iff, List.isPrefixOf_iff_prefix, Bool.and_eq_true, decide_eq_true_eq, beq_iff_eq, List.prefix_iff_eq_take]
 constructor
 ·intro h
  refine ⟨?_, h.symm⟩
  have := congrArg List.length h
  rw [List.length_take] at this; omega
 ·rintro ⟨_, h⟩; exact h.symm
theorem Cr (l w : LB) : CR l w = some (w.isPrefixOf l) := by
 unfold CR Gt
 simp only [Av]
 rw [D3]
 by_cases h : w.length ≤ l.length
 ·rw [dT (show (w.length : Int) ≤ (l.length : Int) by omega), cT, Ew h, bS, bS, dT h, Bool.true_and]
 ·rw [dF (show ¬ (w.length : Int) ≤ (l.length : Int) by omega), cF, dF h, Bool.false_and]
theorem BP (b : LB) (i : Nat) (w : LB) (hi : i ≤ b.length) : Aq ⟨b, (i : Int)⟩ w = some (AF b i w) := by
 unfold Aq
 dsimp only
 rw [BU hi, bS, Cr, bS]; rfl
theorem AT {b : LB} {i : Nat} {w : LB} (h : AF b i w = true) (hi : i ≤ b.length) : i + w.length ≤ b.length := by
 unfold AF at h
 rw [D3, Bool.and_eq_true, decide_eq_true_eq, lD] at h
 omega
theorem CJ {b : LB} {i : Nat} {c : UInt8} {w : LB} (h : AF b i (c :: w) = true) : b[i]? = some c := by
 unfold AF at h
 rw [List.isPrefixOf_iff_prefix] at h
 obtain ⟨r, hr⟩ := h
 have : (b.drop i)[0]? = some c := by rw [← hr]; rfl
 rwa [List.getElem?_drop, Nat.add_zero] at this
theorem Ig {b : LB} {i : Nat} {c : UInt8} : AF b i [c] = (b[i]? == some c) := by
 unfold AF
 by_cases hi : i < b.length
 ·rw [List.drop_eq_getElem_cons hi, List.getElem?_eq_getElem hi]
  simp only [List.isPrefixOf, Bool.and_true]
  rw [Bool.eq_iff_iff, beq_iff_eq, beq_iff_eq, Option.some.injEq]
  exact ⟨fun h => h.symm, fun h => h.symm⟩
 ·rw [List.drop_eq_nil_of_le om, List.getElem?_eq_none om]; rfl
def wsP (c : UInt8) : Bool := decide ((0 : Int) ≤ Lib.indexByte [32, 9, 10, 13] c)
theorem AZ (b : LB) (a : Int) (i : Nat) (hi : i ≤ b.length) (hb : b.length ≤ 1073741824) : Bc ⟨b, a⟩ (i : Int) = some ((sk wsP b i : Nat) : Int) := by
 unfold Bc
 simp only [Av]
 have := ON (b := CW ⟨b, a⟩) wsP b (fun rec i h => by
  unfold CW
  simp only [Av]
  rw [dT om, cT, Bw h, bS]
  unfold E8
  rw [PK, bS, w64 om om]
  rfl) (fun rec => by
  unfold CW
  simp only [Av]
  rw [dF om, cF, cF]) AA (b.length - i) i om (by unfold AA; omega)
 rw [this, bS]
theorem BW (b : LB) (i : Nat) (w : LB) (hi : i ≤ b.length) (hb : b.length ≤ 1073741824) : A8 ⟨b, (i : Int)⟩ w = some (if AF b i w = true then (0, ⟨b, ((i + w.length : Nat) : Int)⟩) else (23, ⟨b, (i : Int)⟩)) := by
 unfold A8
 rw [BP b i w hi, bS]
 cases h : AF b i w with
 | false => rfl
 | true =>
  have := AT h hi
  dsimp only
  rw [bT, cF, if_pos rfl, w64 om om]; rfl
theorem GU (b : LB) (i : Nat) (hi : i ≤ b.length) (hb : b.length ≤ 1073741824) : ∃ (e : Int) (j : Nat), AX ⟨b, (i : Int)⟩ = some (e, ⟨b, (j : Int)⟩) ∧ i ≤ j ∧ j ≤ b.length := by
 obtain ⟨s1, s2⟩ := DK wsP b i hi
 unfold AX
 rw [AZ b _ i hi hb, bS]
 dsimp only
 rw [BW b _ _ s2 hb, bS]
 cases h : AF b (sk wsP b i) [61] with
 | false =>
  obtain ⟨t1, t2⟩ := DK wsP b _ s2
  rw [if_neg (by simp)]
  dsimp only
  rw [AZ b _ _ s2 hb, bS]
  exact ⟨23, _, rfl, by omega, t2⟩
 | true =>
  have hl := AT h s2
  obtain ⟨t1, t2⟩ := DK wsP b _ hl
  rw [if_pos rfl]
  dsimp only
  rw [AZ b _ _ hl hb, bS]
  exact ⟨0, _, rfl, by omega, t2⟩
theorem bO (l : LB) (c : UInt8) (h : 0 ≤ Lib.indexByte l c) : Lib.indexByte l c < l.length := by
 induction l with
 | nil => simp [Lib.indexByte] at h
 | cons b l ih =>
  simp only [Lib.indexByte] at h ⊢
  split
  ·rw [lC]; omega
  ·rename_i hb
   rw [if_neg hb] at h
   split at h
   ·omega
   ·rename_i h1
    rw [if_neg h1]
    have h2 := Lib.indexByte_ge l c
    have h3 : Lib.indexByte l c ≠ -1 := by simpa using h1
    have := ih om
    rw [lC]; omega
theorem Iv (l : LB) (c : UInt8) (h : ¬ Lib.indexByte l c < 0) : ∃ n : Nat, Lib.indexByte l c = (n : Int) ∧ n < l.length := by
 have := bO l c om
 exact ⟨(Lib.indexByte l c).toNat, by omega, by omega⟩
theorem FM (b : LB) (i : Nat) (hi : i ≤ b.length) (hb : b.length ≤ 1073741824) : ∃ (v : LB) (e : Int) (j : Nat), AY ⟨b, (i : Int)⟩ = some ((v, e), ⟨b, (j : Int)⟩) ∧ i ≤ j ∧ j ≤ b.length ∧ v.length ≤ b.length ∧ (e = 0 → i < j) := by
 have none : ∃ (v : LB) (e : Int) (j : Nat), (some ((([] : LB), (23 : Int)), (⟨b, (i : Int)⟩ : TS)) : Option ((LB × Int) × TS)) = some ((v, e), ⟨b, (j : Int)⟩) ∧ i ≤ j ∧ j ≤ b.length ∧ v.length ≤ b.length ∧ (e = 0 → i < j) := ⟨[], 23, i, rfl, Nat.le_refl _, hi, Nat.zero_le _, fun h => by omega⟩
 have main : i < b.length → ∃ (v : LB) (e : Int) (j : Nat), ((slc b (IntKind.wrap .i64 ((i : Int) + (1 : Int))) (b.length : Int)).bind fun x7 =>
   (idx b (i : Int)).bind fun x8 =>
   (CI x7 (x8.toNat : Int)).bind fun x9 =>
   cond (decide (x9 < (0 : Int)))
   (some ((([] : LB), (23 : Int)), (⟨b, (i : Int)⟩ : TS)))
   ((slc x7 (0 : Int) x9).bind fun x11 =>
   some ((x11, (0 : Int)), (⟨b, (IntKind.wrap .i64 ((i : Int) + (IntKind.wrap .i64 (x9 + (2 : Int)))))⟩ : TS)))) = some ((v, e), ⟨b, (j : Int)⟩) ∧ i ≤ j ∧ j ≤ b.length ∧ v.length ≤ b.length ∧ (e = 0 → i < j) := by
  intro hlt
  rw [w64 (x := (i : Int) + 1) om om, show (i : Int) + 1 = ((i + 1 : Nat) : Int) by omega, BU hlt, bS, Bw hlt, bS]
  unfold CI
  rw [PK, bS]
  by_cases hn : Lib.indexByte (b.drop (i + 1)) b[i] < 0
  ·rw [dT hn, cT]; exact none
  ·obtain ⟨n, e1, e2⟩ := Iv _ _ hn
   rw [dF hn, cF, e1, Ew (Nat.le_of_lt e2), bS]
   rw [lD] at e2
   rw [w64 (x := (n : Int) + 2) om om, w64 om om]
   refine ⟨_, 0, i + (n + 2), rfl, by omega, by omega, ?_, fun _ => by omega⟩
   rw [List.length_take, lD]; omega
 unfold AY
 dsimp only
 rw [BP b i _ hi, BP b i _ hi, bS]
 simp only [Av]
 cases h1 : AF b i [39] with
 | true =>
  have := AT h1 hi
  rw [bT, cF, cF]
  exact main (by simp at this; omega)
 | false =>
  rw [bF, cT, bS]
  cases h2 : AF b i [34] with
  | true =>
   have := AT h2 hi
   rw [bT, cF]
   exact main (by simp at this; omega)
  | false => rw [bF, cT]; exact none
theorem J1 (b : LB) (i : Nat) (hi : i < b.length) : Dy (b.drop i) = some (((decodeL (b.drop i)).1 : Int), ((decodeL (b.drop i)).2 : Int)) := by
 have hne : b.drop i ≠ [] := by intro h; have := congrArg List.length h; simp at this; omega
 unfold Dy Lib.decodeGo
 rw [if_neg hne, if_neg (by
  show ¬ ((b.drop i).toArray.size = 0)
  simp; omega)]
 rfl
theorem Ix (q : LB) (hq : q.length ≤ 1073741824) : ∃ r, CH q = some r := by
 unfold CH Rf
 rw [if_pos om, bS]
 simp only [Av, Iy, bS]
 cases (Lib.cut q [58]).2.2 <;> cases JC q <;> cases JC (Lib.cut q [58]).1 <;> cases JC (Lib.cut q [58]).2.1 <;> exact ⟨_, rfl⟩
theorem En (b : LB) (i : Nat) (hi : i ≤ b.length) (hb : b.length ≤ 1073741824) : ∃ (v : LB) (e : Int) (j : Nat), AM ⟨b, (i : Int)⟩ = some ((v, e), ⟨b, (j : Int)⟩) ∧ i ≤ j ∧ j ≤ b.length ∧ v.length ≤ b.length ∧ (e = 0 → v ≠ [] ∧ i < j) := by
 have key : ∃ o : Int, iter (AC ⟨b, (i : Int)⟩) AA (i : Int) = some o ∧ ∃ j : Nat, o = (j : Int) ∧ i ≤ j ∧ j ≤ b.length := by
  refine CA (b := AC ⟨b, (i : Int)⟩) (fun k x => ∃ j : Nat, x = (j : Int) ∧ i + k ≤ j ∧ j ≤ b.length) _ (b.length - i) (x0 := (i : Int)) ⟨i, rfl, by omega, hi⟩ ?_ ?_ (n := AA) (by unfold AA; omega)
  ·rintro k x rec hk ⟨j, rfl, h1, h2⟩
   unfold AC
   dsimp only
   by_cases hj : j < b.length
   ·obtain ⟨d1, d2, _⟩ := CT b j hj
    rw [dT om, cT, BU h2, bS, J1 b j hj, bS]
    simp only [Av, N5, JJ, bS]
    have hgo : IntKind.wrap .i64 ((j : Int) + ((decodeL (b.drop j)).2 : Int)) = ((j + (decodeL (b.drop j)).2 : Nat) : Int) := by rw [w64 om om]; omega
    rw [hgo]
    have two : ∀ c : Bool, (∃ y, cond c (some (j : Int)) (rec ((j + (decodeL (b.drop j)).2 : Nat) : Int)) = rec y ∧ ∃ j' : Nat, y = (j' : Int) ∧ i + (k + 1) ≤ j' ∧ j' ≤ b.length) ∨ (∃ o, cond c (some (j : Int)) (rec ((j + (decodeL (b.drop j)).2 : Nat) : Int)) = some o ∧ ∃ j' : Nat, o = (j' : Int) ∧ i ≤ j' ∧ j' ≤ b.length) := by
     intro c
     cases c with
     | false => exact .inl ⟨_, rfl, _, rfl, by omega, d2⟩
     | true => exact .inr ⟨_, rfl, j, rfl, by omega, h2⟩
    cases ((decodeL (b.drop j)).1 : Int) != 58 with
    | false => exact two false
    | true =>
     cases KR ((decodeL (b.drop j)).1 : Int) with
     | false => exact two true
     | true =>
      cases ((j : Int) == (i : Int)) with
      | false => exact two false
      | true => exact two (!F3 ((decodeL (b.drop j)).1 : Int))
   ·rw [dF om, cF]
    exact .inr ⟨_, rfl, j, rfl, by omega, h2⟩
  ·rintro x rec ⟨j, rfl, h1, h2⟩
   have : j = b.length := by omega
   subst this
   unfold AC
   dsimp only
   rw [dF om, cF]
   exact ⟨_, rfl, _, rfl, hi, Nat.le_refl _⟩
 obtain ⟨o, e1, j, rfl, h1, h2⟩ := key
 unfold AM
 simp only [Av]
 rw [e1, bS]
 have hsl : slc b (i : Int) (j : Int) = some ((b.drop i).take (j - i)) := by
  unfold slc; rw [if_pos om]; simp only [Int.toNat_natCast]
 rw [hsl, bS]
 have hlen : ((b.drop i).take (j - i)).length = j - i := by rw [List.length_take, lD]; omega
 generalize (b.drop i).take (j - i) = w at hlen
 by_cases hw : w = []
 ·rw [show (w == []) = true by simp [hw], cT]
  exact ⟨[], 23, i, rfl, Nat.le_refl _, hi, Nat.zero_le _, fun h => by omega⟩
 ·obtain ⟨r, hr⟩ := Ix w om
  rw [show (w == []) = false by simp [hw], cF, hr, bS]
  cases r.2.2 with
  | false => exact ⟨[], 24, i, rfl, Nat.le_refl _, hi, Nat.zero_le _, fun h => by omega⟩
  | true =>
   have : 0 < w.length := List.length_pos_iff.2 hw
   exact ⟨w, 0, j, rfl, h1, h2, by omega, fun _ => ⟨hw, by omega⟩⟩
theorem Ci {σ ρ : Type} {b : (σ → Option ρ) → σ → Option ρ} (μ : σ → Nat) (I : σ → Prop) (R : ρ → Prop)
  (step : ∀ x, I x → (∃ y, (∀ rec, b rec x = rec y) ∧ I y ∧ μ y < μ x) ∨ (∃ o, (∀ rec, b rec x = some o) ∧ R o)) :
  ∀ (n : Nat) (x : σ), I x → μ x < n → ∃ o, iter b n x = some o ∧ R o
 | 0, x, _, h => by omega
 | n + 1, x, hI, h1 => by
  rcases step x hI with ⟨y, e1, hI', hm⟩ | ⟨o, e1, hR⟩
  ·obtain ⟨o, g1, hR⟩ := Ci μ I R step n y hI' om
   exact ⟨o, by show b (iter b n) x = _; rw [e1, g1], hR⟩
  ·exact ⟨o, e1 _, hR⟩
theorem XG (p0 p1 : LB) (h0 : p0.length ≤ 1073741824) (h1 : p1.length ≤ 1073741824) : ∃ o, iter (Cq p0 p1) AA (0 : Int) = some o ∧
  (∀ a, o = .inr (.inl a) → ∃ (i : Nat) (g0 : i < p0.length) (g1 : i < p1.length), a = (i : Int) ∧ (128 : Int) ≤ ior .u8 (p0[i].toNat : Int) (p1[i].toNat : Int)) := by
 refine Ci (b := Cq p0 p1) (fun x => p0.length - x.toNat) (fun x => ∃ i : Nat, x = (i : Int) ∧ i ≤ p0.length) _ ?_ AA (0 : Int) ⟨0, rfl, Nat.zero_le _⟩ (by unfold AA; omega)
 rintro _ ⟨i, rfl, hi⟩
 by_cases hlt : i < p0.length ∧ i < p1.length
 ·obtain ⟨g0, g1⟩ := hlt
  have hmin : decide ((i : Int) < (if (p1.length : Int) < (p0.length : Int) then (p1.length : Int) else (p0.length : Int))) = true := by
   apply dT; split <;> omega
  have hb : ∀ rec, Cq p0 p1 rec (i : Int) = cond (decide ((128 : Int) ≤ (ior .u8 (p0[i].toNat : Int) (p1[i].toNat : Int))))
    (some (.inr (.inl (i : Int)))) (cond ((p1[i].toNat : Int) == (p0[i].toNat : Int)) (rec ((i + 1 : Nat) : Int))
     (cond (decide ((p1[i].toNat : Int) < (p0[i].toNat : Int)))
      (cond (((decide ((65 : Int) ≤ (p1[i].toNat : Int))) && (decide ((p1[i].toNat : Int) ≤ (90 : Int)))) && ((p0[i].toNat : Int) == (IntKind.wrap .u8 ((IntKind.wrap .u8 ((p1[i].toNat : Int) + (97 : Int))) - (65 : Int))))) (rec ((i + 1 : Nat) : Int)) (some (.inr (.inr false))))
      (cond (((decide ((65 : Int) ≤ (p0[i].toNat : Int))) && (decide ((p0[i].toNat : Int) ≤ (90 : Int)))) && ((p1[i].toNat : Int) == (IntKind.wrap .u8 ((IntKind.wrap .u8 ((p0[i].toNat : Int) + (97 : Int))) - (65 : Int))))) (rec ((i + 1 : Nat) : Int)) (some (.inr (.inr false)))))) := by
   intro rec
   unfold Cq
   simp only [Av]
   rw [hmin, cT, Bw g0, bS, Bw g1, bS, w64 om om]
   rfl
  have go : ∃ y : Int, y = ((i + 1 : Nat) : Int) ∧ (∃ i : Nat, y = (i : Int) ∧ i ≤ p0.length) ∧ p0.length - y.toNat < p0.length - ((i : Nat) : Int).toNat := ⟨_, rfl, ⟨_, rfl, g0⟩, by omega⟩
  obtain ⟨y, hy, hI, hm⟩ := go
  cases c1 : decide ((128 : Int) ≤ (ior .u8 (p0[i].toNat : Int) (p1[i].toNat : Int))) with
  | true =>
   right
   exact ⟨.inr (.inl (i : Int)), fun rec => by rw [hb, c1, cT], fun a ha => by
    injection ha with ha; injection ha with ha
    exact ⟨i, g0, g1, ha.symm, of_decide_eq_true c1⟩⟩
  | false =>
   have fin : ∀ o : Unit ⊕ Int ⊕ Bool, o = .inr (.inr false) → ∀ a, o = .inr (.inl a) → ∃ (i : Nat) (g0 : i < p0.length) (g1 : i < p1.length), a = (i : Int) ∧ (128 : Int) ≤ ior .u8 (p0[i].toNat : Int) (p1[i].toNat : Int) := by
    rintro o rfl a ha; cases ha
   cases c2 : ((p1[i].toNat : Int) == (p0[i].toNat : Int)) with
   | true => exact .inl ⟨y, fun rec => by rw [hb, c1, cF, c2, cT, hy], hI, hm⟩
   | false =>
    cases c3 : decide ((p1[i].toNat : Int) < (p0[i].toNat : Int)) with
    | true =>
     cases c4 : (((decide ((65 : Int) ≤ (p1[i].toNat : Int))) && (decide ((p1[i].toNat : Int) ≤ (90 : Int)))) && ((p0[i].toNat : Int) == (IntKind.wrap .u8 ((IntKind.wrap .u8 ((p1[i].toNat : Int) + (97 : Int))) - (65 : Int))))) with
     | true => exact .inl ⟨y, fun rec => by rw [hb, c1, cF, c2, cF, c3, cT, c4, cT, hy], hI, hm⟩
     | false => exact .inr ⟨_, fun rec => by rw [hb, c1, cF, c2, cF, c3, cT, c4, cF], fin _ rfl⟩
    | false =>
     cases c4 : (((decide ((65 : Int) ≤ (p0[i].toNat : Int))) && (decide ((p0[i].toNat : Int) ≤ (90 : Int)))) && ((p1[i].toNat : Int) == (IntKind.wrap .u8 ((IntKind.wrap .u8 ((p0[i].toNat : Int) + (97 : Int))) - (65 : Int))))) with
     | true => exact .inl ⟨y, fun rec => by rw [hb, c1, cF, c2, cF, c3, cF, c4, cT, hy], hI, hm⟩
     | false => exact .inr ⟨_, fun rec => by rw [hb, c1, cF, c2, cF, c3, cF, c4, cF], fin _ rfl⟩
 ·right
  have hmin : decide ((i : Int) < (if (p1.length : Int) < (p0.length : Int) then (p1.length : Int) else (p0.length : Int))) = false := by
   apply dF; split <;> omega
  exact ⟨.inl (), fun rec => by unfold Cq; rw [hmin, cF], fun a ha => by cases ha⟩
theorem ZV (c rn : Int) (hc : c = 120 ∨ c = 109 ∨ c = 108) (hr : 128 ≤ rn) : iter (B9 c rn) AA (c - 32) = some c := by
 obtain ⟨m, hm⟩ : ∃ m, AA = m + 1 + 1 := ⟨AA - 2, by unfold AA; rfl⟩
 rw [hm, DN]
 unfold B9
 have h1 : ((c - 32 != c) && decide (c - 32 < rn)) = true := by simp; omega
 rw [h1, cT]
 have h2 : Dx (c - 32) = some c := by
  rcases hc with rfl | rfl | rfl <;> rfl
 rw [h2, bS]
 show iter (B9 c rn) (m + 1) c = some c
 rw [DN]
 unfold B9
 have h3 : ((c != c) && decide (c < rn)) = false := by simp
 rw [h3, cF]
def V3 (l : LB) : Prop := l = [120, 109, 108] ∨ l = [109, 108] ∨ l = [108] ∨ l = []
theorem Z7 (s : LB) (hs : s.length ≤ 1073741824) (l : LB) (hl : V3 l) : ∃ o, iter (By s) AA (l, (0 : Nat)) = some o ∧ True := by
 refine Ci (b := By s) (fun x => s.length - x.2) (fun x => V3 x.1) _ ?_ AA (l, (0 : Nat)) hl (by unfold AA; dsimp only; omega)
 rintro ⟨a, p⟩ hx
 dsimp only at hx ⊢
 by_cases hp : p < s.length
 ·obtain ⟨r1, r2⟩ := X3 s p
  obtain ⟨d1, d2, _⟩ := CT s p hp
  have hw : s.length - (p + wdS s p) < s.length - p := by rw [r2]; omega
  have core : ∀ (c : UInt8) (t : LB), a = c :: t → ((c.toNat : Int) = 120 ∨ (c.toNat : Int) = 109 ∨ (c.toNat : Int) = 108) → DD a = some ((c.toNat : Int), 1) → V3 t →
    (∃ y : LB × Nat, (∀ rec, By s rec (a, p) = rec y) ∧ V3 y.1 ∧ s.length - y.2 < s.length - p) ∨ (∃ o, (∀ rec, By s rec (a, p) = some o) ∧ True) := by
   intro c t ha hc hd ht
   have hsl : slc a (1 : Int) (a.length : Int) = some t := by rw [X1 (by rw [ha]; simp), ha]; rfl
   generalize hrn : rnS s p = rn at *
   have hb : ∀ rec, By s rec (a, p) = cond ((c.toNat : Int) == rn) (rec (t, p + wdS s p)) (cond (decide ((c.toNat : Int) < rn))
     (cond (decide (rn < (128 : Int))) (cond (((decide ((65 : Int) ≤ (c.toNat : Int))) && (decide ((c.toNat : Int) ≤ (90 : Int)))) && (rn == (IntKind.wrap .i32 ((IntKind.wrap .i32 ((c.toNat : Int) + (97 : Int))) - (65 : Int))))) (rec (t, p + wdS s p)) (some (.inr false)))
      ((Dx (c.toNat : Int)).bind fun x102 => (iter (B9 (c.toNat : Int) rn) AA x102).bind fun o => cond (o == rn) (rec (t, p + wdS s p)) (some (.inr false))))
     (cond (decide ((c.toNat : Int) < (128 : Int))) (cond (((decide ((65 : Int) ≤ rn)) && (decide (rn ≤ (90 : Int)))) && ((c.toNat : Int) == (IntKind.wrap .i32 ((IntKind.wrap .i32 (rn + (97 : Int))) - (65 : Int))))) (rec (t, p + wdS s p)) (some (.inr false)))
      ((Dx rn).bind fun x102 => (iter (B9 rn (c.toNat : Int)) AA x102).bind fun o => cond (o == (c.toNat : Int)) (rec (t, p + wdS s p)) (some (.inr false))))) := by
    intro rec
    unfold By
    simp only [Av]
    rw [dT hp, cT, show ((a.length : Int) == 0) = false by rw [ha]; simp; omega, cF, hd, bS]
    dsimp only
    rw [hsl, bS, hrn]
   have two : ∀ k : Bool, (∃ y : LB × Nat, (∀ rec : LB × Nat → Option (LB ⊕ Bool), cond k (rec (t, p + wdS s p)) (some (.inr false)) = rec y) ∧ V3 y.1 ∧ s.length - y.2 < s.length - p) ∨ (∃ o, (∀ rec : LB × Nat → Option (LB ⊕ Bool), cond k (rec (t, p + wdS s p)) (some (.inr false)) = some o) ∧ True) := by
    intro k
    cases k with
    | true => exact .inl ⟨(t, p + wdS s p), fun _ => rfl, ht, hw⟩
    | false => exact .inr ⟨_, fun _ => rfl, trivial⟩
   simp only [hb]
   cases ((c.toNat : Int) == rn) with
   | true => exact .inl ⟨(t, p + wdS s p), fun _ => rfl, ht, hw⟩
   | false =>
    simp only [cF]
    by_cases c3 : (c.toNat : Int) < rn
    ·rw [dT c3]
     simp only [cT]
     by_cases c4 : rn < 128
     ·rw [dT c4]
      simp only [cT]
      exact two _
     ·rw [dF c4]
      have hf : Dx (c.toNat : Int) = some ((c.toNat : Int) - 32) := by rcases hc with h | h | h <;> rw [h] <;> rfl
      simp only [cF, hf, bS, ZV _ rn hc om]
      exact two _
    ·rw [dF c3, dT (show (c.toNat : Int) < 128 by omega)]
     simp only [cF, cT]
     exact two _
  rcases hx with h | h | h | h
  ·exact core 120 [109, 108] h (.inl rfl) (by rw [h]; rfl) (.inr (.inl rfl))
  ·exact core 109 [108] h (.inr (.inl rfl)) (by rw [h]; rfl) (.inr (.inr (.inl rfl)))
  ·exact core 108 [] h (.inr (.inr rfl)) (by rw [h]; rfl) (.inr (.inr (.inr rfl)))
  ·right
   refine ⟨.inr false, fun rec => ?_, trivial⟩
   unfold By
   dsimp only
   rw [dT hp, cT, h]; rfl
 ·right
  refine ⟨.inl a, fun rec => ?_, trivial⟩
  unfold By
  dsimp only
  rw [dF hp, cF]
theorem Mz (w : LB) (hw : w.length ≤ 1073741824) : ∃ r, Bl w [120, 109, 108] = some r := by
 obtain ⟨o, e1, e2⟩ := XG w [120, 109, 108] hw (by simp)
 unfold Bl
 simp only [Av]
 rw [e1, bS]
 match o, e2 with
 | .inl _, _ => exact ⟨_, rfl⟩
 | .inr (.inr r), _ => exact ⟨_, rfl⟩
 | .inr (.inl a), e2 =>
  obtain ⟨i, g0, g1, rfl, _⟩ := e2 a rfl
  have hx : V3 (([120, 109, 108] : LB).drop i) := by
   match i, g1 with
   | 0, _ => exact .inl rfl
   | 1, _ => exact .inr (.inl rfl)
   | 2, _ => exact .inr (.inr (.inl rfl))
  dsimp only
  rw [BU (Nat.le_of_lt g0), bS, BU (Nat.le_of_lt g1), bS]
  obtain ⟨o2, f1, _⟩ := Z7 (w.drop i) (by rw [lD]; omega) _ hx
  rw [f1, bS]
  cases o2 with
  | inl q => exact ⟨_, rfl⟩
  | inr q => exact ⟨_, rfl⟩
theorem O7 (w v : LB) (hw : w.length ≤ 1073741824) (hv : v.length ≤ 1073741824) (h1 : ∀ b ∈ w, b.toNat < 128) (h2 : ∀ b ∈ v, b.toNat < 128) : ∃ r, Bl w v = some r := by
 obtain ⟨o, e1, e2⟩ := XG w v hw hv
 unfold Bl
 simp only [Av]
 rw [e1, bS]
 match o, e2 with
 | .inl _, _ => exact ⟨_, rfl⟩
 | .inr (.inr r), _ => exact ⟨_, rfl⟩
 | .inr (.inl a), e2 =>
  obtain ⟨i, g0, g1, rfl, h⟩ := e2 a rfl
  have a1 := h1 _ (List.getElem_mem g0)
  have a2 := h2 _ (List.getElem_mem g1)
  have e : ior .u8 (w[i].toNat : Int) (v[i].toNat : Int) = ((w[i].toNat ||| v[i].toNat : Nat) : Int) := u8_or_nat _ _ om om
  have := Nat.or_lt_two_pow (n := 7) a1 a2
  rw [e] at h; omega
theorem F9 (l w : LB) : CM l w = some (if w.isPrefixOf l = true then (l.drop w.length, true) else (l, false)) := by
 have hh : C3 l w = some (w.isPrefixOf l) := by
  unfold C3
  simp only [Av]
  rw [D3]
  by_cases h : w.length ≤ l.length
  ·rw [dT (show (w.length : Int) ≤ (l.length : Int) by omega), cT, Ew h, bS, dT h, Bool.true_and]
  ·rw [dF (show ¬ (w.length : Int) ≤ (l.length : Int) by omega), cF, dF h, Bool.false_and]
 unfold CM DG
 rw [hh, bS]
 cases h : w.isPrefixOf l with
 | false => rfl
 | true =>
  have h2 := h
  rw [D3, Bool.and_eq_true, decide_eq_true_eq] at h2
  rw [bT, cF, BU h2.1]; rfl
theorem HN {p : UInt8 → Bool} : ∀ {l : LB}, l.dropWhile p = [] → ∀ b ∈ l, p b = true
 | [], _, b, hb => by cases hb
 | c :: l, h, b, hb => by
  rw [List.dropWhile_cons] at h
  split at h
  ·rename_i hc
   rcases List.mem_cons.1 hb with rfl | hb
   ·exact hc
   ·exact HN h b hb
  ·cases h
theorem Jx {p : UInt8 → Bool} : ∀ {l : LB}, (∀ b ∈ l.dropWhile p, p b = true) → l.dropWhile p = []
 | [], _ => rfl
 | c :: l, h => by
  rw [List.dropWhile_cons] at h ⊢
  split
  ·rename_i hc
   rw [if_pos hc] at h
   exact Jx h
  ·rename_i hc
   rw [if_neg hc] at h
   exact absurd (h c (List.mem_cons_self ..)) hc
theorem LH {l cs : LB} (h : Lib.trimS l cs = []) : ∀ b ∈ l, cs.contains b = true := by
 unfold Lib.trimS Lib.trimLeftS Lib.trimRightS at h
 have h1 := HN h
 have h2 : l.reverse.dropWhile (cs.contains ·) = [] := Jx (fun b hb => h1 b (by rw [List.mem_reverse]; exact hb))
 have h3 := HN h2
 exact fun b hb => h3 b (by rw [List.mem_reverse]; exact hb)
theorem P3 (w v : LB) (hv : v.length ≤ 1073741824) : ∃ r, E3 w v = some r ∧ (w = [101, 110, 99, 111, 100, 105, 110, 103] → r = true → ∀ b ∈ v, b.toNat < 128) := by
 unfold E3
 by_cases c1 : w = [118, 101, 114, 115, 105, 111, 110]
 ·rw [show (w == ([118, 101, 114, 115, 105, 111, 110] : LB)) = true by rw [c1]; rfl, cT, F9, bS]
  have hne : w ≠ [101, 110, 99, 111, 100, 105, 110, 103] := by rw [c1]; decide
  simp only [Av]
  generalize hx : (if ([49, 46] : LB).isPrefixOf v = true then (v.drop ([49, 46] : LB).length, true) else (v, false)) = x
  have hxl : x.1.length ≤ 1073741824 := by
   rw [← hx]; split
   ·dsimp only; rw [lD]; omega
   ·exact hv
  have ht : G5 x.1 [48, 49, 50, 51, 52, 53, 54, 55, 56, 57] = some (Lib.trimS x.1 [48, 49, 50, 51, 52, 53, 54, 55, 56, 57]) := by
   unfold G5; rw [if_pos ⟨by omega, by decide, by decide⟩]
  rw [ht]
  cases x.2 && !(x.1 == []) with
  | true => exact ⟨_, rfl, fun h => absurd h hne⟩
  | false => exact ⟨_, rfl, fun h => absurd h hne⟩
 ·rw [show (w == ([118, 101, 114, 115, 105, 111, 110] : LB)) = false by simpa using c1, cF]
  by_cases c2 : w = [101, 110, 99, 111, 100, 105, 110, 103]
  ·rw [show (w == ([101, 110, 99, 111, 100, 105, 110, 103] : LB)) = true by rw [c2]; rfl, cT]
   simp only [Av]
   by_cases c3 : v = []
   ·rw [show (v == ([] : LB)) = true by simp [c3]]
    exact ⟨false, rfl, fun _ h => by cases h⟩
   ·have hpos : 0 < v.length := List.length_pos_iff.2 c3
    rw [show (v == ([] : LB)) = false by simpa using c3, bF, cT, show (0 : Int) = ((0 : Nat) : Int) from rfl, Bw hpos, bS]
    unfold E8
    rw [PK, bS]
    cases decide (((0 : Nat) : Int) ≤ Lib.indexByte _ v[0]) with
    | false => exact ⟨false, rfl, fun _ h => by cases h⟩
    | true =>
     rw [cT]
     unfold G5
     rw [if_pos ⟨by omega, by decide, by decide⟩, bS]
     refine ⟨_, rfl, fun _ h b hb => ?_⟩
     have h2 := LH (eq_of_beq h) b hb
     have h3 := XS (p := fun c => !(([65, 66, 67, 68, 69, 70, 71, 72, 73, 74, 75, 76, 77, 78, 79, 80, 81, 82, 83, 84, 85, 86, 87, 88, 89, 90, 97, 98, 99, 100, 101, 102, 103, 104, 105, 106, 107, 108, 109, 110, 111, 112, 113, 114, 115, 116, 117, 118, 119, 120, 121, 122, 48, 49, 50, 51, 52, 53, 54, 55, 56, 57, 46, 95, 45] : LB).contains c) || decide (c.toNat < 128)) (by decide +kernel) b
     rw [h2] at h3
     simpa using h3
  ·rw [show (w == ([101, 110, 99, 111, 100, 105, 110, 103] : LB)) = false by simpa using c2, cF]
   exact ⟨_, rfl, fun h => absurd h c2⟩
theorem Io : ∀ {s sub : LB} {n : Nat}, Lib.index s sub = (n : Int) → sub ≠ [] → sub.isPrefixOf (s.drop n) = true ∧ n + sub.length ≤ s.length
 | [], sub, n, h, hne => by
  simp only [Lib.index] at h
  split at h
  ·rename_i he
   exact absurd (by simpa using he) hne
  ·omega
 | b :: l, sub, n, h, hne => by
  simp only [Lib.index] at h
  split at h
  ·rename_i hp
   have : n = 0 := by omega
   subst this
   have h2 := hp
   rw [D3, Bool.and_eq_true, decide_eq_true_eq] at h2
   exact ⟨hp, by omega⟩
  ·split at h
   ·omega
   ·cases n with
    | zero =>
     have := Lib.index_ge l sub
     rename_i h1
     have h3 : Lib.index l sub ≠ -1 := by simpa using h1
     omega
    | succ n =>
     have := Io (s := l) (sub := sub) (n := n) om hne
     exact ⟨this.1, by rw [lC]; omega⟩
theorem Qm : ∀ {l : LB} {c : UInt8} {n : Nat}, Lib.indexByte l c = (n : Int) → l[n]? = some c
 | [], c, n, h => by simp [Lib.indexByte] at h
 | b :: l, c, n, h => by
  simp only [Lib.indexByte] at h
  split at h
  ·rename_i hb
   have : n = 0 := by omega
   subst this
   have : b = c := by simpa using hb
   subst this; rfl
  ·split at h
   ·omega
   ·rename_i h1
    have := Lib.indexByte_ge l c
    have h3 : Lib.indexByte l c ≠ -1 := by simpa using h1
    cases n with
    | zero => omega
    | succ n =>
     have := Qm (l := l) (c := c) (n := n) om
     simpa using this
theorem Nu (c : Int) : ∃ r, Fm c = some r := by
 unfold Fm
 cases (decide ((48 : Int) ≤ c)) && (decide (c ≤ (57 : Int))) with
 | true => exact ⟨_, rfl⟩
 | false =>
  cases (decide ((97 : Int) ≤ c)) && (decide (c ≤ (102 : Int))) with
  | true => exact ⟨_, rfl⟩
  | false => cases (decide ((65 : Int) ≤ c)) && (decide (c ≤ (70 : Int))) <;> exact ⟨_, rfl⟩
theorem WJ (a : LB) (k : Int) (ha : a.length ≤ 1073741824) : ∃ o, iter (B4 a k) AA ((0 : Int), (0 : Int)) = some o ∧ True := by
 refine CA (b := B4 a k) (fun i x => ∃ n : Int, x = (n, (i : Int))) _ a.length (x0 := ((0 : Int), (0 : Int))) ⟨0, rfl⟩ ?_ ?_ (n := AA) (by unfold AA; omega)
 ·rintro i x rec hi ⟨n, rfl⟩
  obtain ⟨r, hr⟩ := Nu (a[i].toNat : Int)
  unfold B4
  dsimp only
  rw [dT om, cT, Bw hi, bS, hr, bS]
  cases decide (k ≤ r) with
  | true => exact .inr ⟨_, rfl, trivial⟩
  | false =>
   rw [cF, w64 (x := (i : Int) + 1) om om]
   exact .inl ⟨_, rfl, _, rfl⟩
 ·rintro x rec ⟨n, rfl⟩
  unfold B4
  dsimp only
  rw [dF om, cF]
  exact ⟨_, rfl, trivial⟩
theorem Ts (s : LB) (hs : s.length ≤ 1073741824) : ∃ r, DY s = some r := by
 unfold DY
 cases s == ([108, 116] : LB) with
 | true => exact ⟨_, rfl⟩
 | false =>
 cases s == ([103, 116] : LB) with
 | true => exact ⟨_, rfl⟩
 | false =>
 cases s == ([97, 109, 112] : LB) with
 | true => exact ⟨_, rfl⟩
 | false =>
 cases s == ([97, 112, 111, 115] : LB) with
 | true => exact ⟨_, rfl⟩
 | false =>
 cases s == ([113, 117, 111, 116] : LB) with
 | true => exact ⟨_, rfl⟩
 | false =>
  simp only [cF]
  rw [F9, bS]
  generalize hx : (if ([35] : LB).isPrefixOf s = true then (s.drop ([35] : LB).length, true) else (s, false)) = x
  have hxl : x.1.length ≤ 1073741824 := by
   rw [← hx]; split
   ·dsimp only; rw [lD]; omega
   ·exact hs
  simp only [Av]
  rw [F9, bS]
  generalize hy : (if ([120] : LB).isPrefixOf x.1 = true then (x.1.drop ([120] : LB).length, true) else (x.1, false)) = y
  have hyl : y.1.length ≤ 1073741824 := by
   rw [← hy]; split
   ·dsimp only; rw [lD]; omega
   ·exact hxl
  have core : ∀ (a : LB) (k : Int), a.length ≤ 1073741824 → ∃ r : Int × Int, cond ((!x.2) || (a == ([] : LB))) (some ((0 : Int), (22 : Int))) ((iter (B4 a k) AA ((0 : Int), (0 : Int))).bind fun o => match o with
    | .inl o1 => (DV (IntKind.wrap .i32 o1)).bind fun x34 => cond (!x34) (some ((0 : Int), (21 : Int))) (some ((IntKind.wrap .i32 o1), (0 : Int)))
    | .inr o1 => some o1) = some r := by
   intro a k ha
   cases (!x.2) || (a == ([] : LB)) with
   | true => exact ⟨_, rfl⟩
   | false =>
    obtain ⟨o, e, _⟩ := WJ a k ha
    rw [cF, e, bS]
    cases o with
    | inr q => exact ⟨_, rfl⟩
    | inl q =>
     dsimp only
     rw [NY, bS]
     cases Ee (IntKind.wrap .i32 q) <;> exact ⟨_, rfl⟩
  cases y.2 with
  | true => exact core y.1 16 hyl
  | false => exact core x.1 10 hxl
theorem OT (p : LB) (i : Nat) (hi : i < p.length) (hp : p.length ≤ 1073741824) : ∃ (r n e : Int), Db p (i : Int) = some (r, n, e) ∧ (e = 0 → ∃ m : Nat, n = (m : Int) ∧ i < m ∧ m ≤ p.length) := by
 unfold Db
 simp only [Av]
 rw [dF (show ¬ (i : Int) < 0 by omega), dF (show ¬ (p.length : Int) ≤ (i : Int) by omega), show (false || false) = false from rfl, cF, Bw hi, bS]
 by_cases h38 : (p[i].toNat : Int) = 38
 ·rw [show ((p[i].toNat : Int) != 38) = false by simpa using h38, cF, BU (Nat.le_of_lt hi), bS]
  unfold CI
  rw [bS]
  by_cases hn : Lib.indexByte (p.drop i) (59 : Int).toNat.toUInt8 < 0
  ·rw [dT hn, cT]
   exact ⟨_, _, _, rfl, fun h => by cases h⟩
  ·obtain ⟨n, e1, e2⟩ := Iv _ _ hn
   have hg := Qm e1
   have hn0 : n ≠ 0 := by
    intro h0
    subst h0
    rw [List.getElem?_drop, Nat.add_zero, List.getElem?_eq_getElem hi] at hg
    injection hg with hg
    rw [hg] at h38
    exact absurd h38 dc
   rw [lD] at e2
   rw [dF hn, cF, e1, w64 (x := (i : Int) + 1) om om, w64 (x := (i : Int) + (n : Int)) om om]
   have hsl : slc p ((i : Int) + 1) ((i : Int) + (n : Int)) = some ((p.drop (i + 1)).take (n - 1)) := by
    unfold slc; rw [if_pos om]
    rw [show ((i : Int) + 1).toNat = i + 1 by omega, show ((i : Int) + (n : Int)).toNat - (i + 1) = n - 1 by omega]
   rw [hsl, bS]
   obtain ⟨r, hr⟩ := Ts ((p.drop (i + 1)).take (n - 1)) (by rw [List.length_take, lD]; omega)
   rw [hr, bS]
   by_cases h2 : r.2 = 0
   ·rw [show (r.2 != 0) = false by simpa using h2, cF, w64 om om]
    exact ⟨_, _, _, rfl, fun _ => ⟨i + n + 1, by omega, by omega, by omega⟩⟩
   ·rw [show (r.2 != 0) = true by simpa using h2, cT]
    exact ⟨_, _, _, rfl, fun h => absurd h h2⟩
 ·rw [show ((p[i].toNat : Int) != 38) = true by simpa using h38, cT]
  exact ⟨_, _, _, rfl, fun h => by cases h⟩
theorem PP (r : Int) : (Utf8.encode r).data.toList.length ≤ 4 := by
 have h : (Utf8.encode r).data.size ≤ 4 := encode_size_le r
 rw [Array.length_toList]; exact h
theorem GW (p : LB) (v : Bool) (hp : p.length ≤ 1073741824) : ∃ r, Cz p v = some r := by
 obtain ⟨o, e, _⟩ := Ci (b := Ay p v) (fun x => p.length - x.2.toNat) (fun x => ∃ (l : LB) (i : Nat), x = (l, (i : Int)) ∧ i ≤ p.length ∧ l.length ≤ 4 * i) (fun _ => True) (by
  rintro _ ⟨l, i, rfl, hi, hl⟩
  by_cases hlt : i < p.length
  ·obtain ⟨d1, d2, _⟩ := CT p i hlt
   have hnext := GK p i hlt hp
   have J : ∀ (c : Int) (m : Nat), i < m → m ≤ p.length → ∃ y : LB × Int, (∀ rec : LB × Int → Option (LB ⊕ (LB × Int × Int)), ((app 1 l (Utf8.encode c).data.toList).bind fun _ => rec ((l ++ (Utf8.encode c).data.toList), (m : Int))) = rec y) ∧ (∃ (l : LB) (i : Nat), y = (l, (i : Int)) ∧ i ≤ p.length ∧ l.length ≤ 4 * i) ∧ p.length - y.2.toNat < p.length - i := by
    intro c m h1 h2
    have := PP c
    refine ⟨(l ++ (Utf8.encode c).data.toList, (m : Int)), fun rec => ?_, ⟨_, m, rfl, h2, by rw [lA]; omega⟩, by dsimp only; omega⟩
    rw [Ct om om, bS]
   have hbody : ∀ rec, Ay p v rec (l, (i : Int)) = (Ff p (i : Int)).bind fun x63 => cond (x63.2.2 != (0 : Int)) (some (.inr (([] : LB), (i : Int), x63.2.2)))
     (cond (x63.1 == (60 : Int)) (some (.inr (([] : LB), (i : Int), (23 : Int)))) (cond ((!v) && ([93, 93, 62] : LB).isPrefixOf (p.drop i)) (some (.inr (([] : LB), (i : Int), (23 : Int))))
      (cond (x63.1 == (38 : Int)) ((Db p (i : Int)).bind fun x101 => cond (x101.2.2 != (0 : Int)) (some (.inr (([] : LB), (i : Int), x101.2.2))) ((app 1 l (Utf8.encode x101.1).data.toList).bind fun _ => rec ((l ++ (Utf8.encode x101.1).data.toList), x101.2.1)))
       (cond (v && (((x63.1 == (9 : Int)) || (x63.1 == (10 : Int))) || (x63.1 == (13 : Int)))) ((app 1 l (Utf8.encode 32).data.toList).bind fun _ => rec ((l ++ (Utf8.encode 32).data.toList), x63.2.1)) ((app 1 l (Utf8.encode x63.1).data.toList).bind fun _ => rec ((l ++ (Utf8.encode x63.1).data.toList), x63.2.1)))))) := by
    intro rec
    unfold Ay
    simp only [Av]
    rw [dT om, cT]
    congr 1
    funext x63
    cases x63.2.2 != (0 : Int) with
    | true => rfl
    | false =>
     cases x63.1 == (60 : Int) with
     | true => rfl
     | false =>
      cases v with
      | true => rfl
      | false =>
       simp only [cF, bF, cT, BU hi, bS, Cr, Bool.true_and]
   simp only [hbody, hnext, bS]
   cases Gc (decodeL (p.drop i)) with
   | true => exact .inr ⟨_, fun _ => rfl, trivial⟩
   | false =>
    simp only [Bool.false_eq_true, if_false]
    cases Ee ((decodeL (p.drop i)).1 : Int) with
    | false => exact .inr ⟨_, fun _ => rfl, trivial⟩
    | true =>
     simp only [if_true]
     rw [show (((0 : Int)) != 0) = false from rfl]
     simp only [cF]
     cases (((decodeL (p.drop i)).1 : Int) == (60 : Int)) with
     | true => exact .inr ⟨_, fun _ => rfl, trivial⟩
     | false =>
      cases ((!v) && ([93, 93, 62] : LB).isPrefixOf (p.drop i)) with
      | true => exact .inr ⟨_, fun _ => rfl, trivial⟩
      | false =>
       simp only [cF]
       cases (((decodeL (p.drop i)).1 : Int) == (38 : Int)) with
       | true =>
        obtain ⟨r, n, e, he, hm⟩ := OT p i hlt hp
        simp only [cT, he, bS]
        by_cases h0 : e = 0
        ·obtain ⟨m, hnm, h1, h2⟩ := hm h0
         rw [show (e != 0) = false by simpa using h0]
         simp only [cF, hnm]
         obtain ⟨y, y1, y2, y3⟩ := J r m h1 h2
         exact .inl ⟨y, y1, y2, by rw [Int.toNat_natCast]; exact y3⟩
        ·rw [show (e != 0) = true by simpa using h0]
         exact .inr ⟨_, fun _ => rfl, trivial⟩
       | false =>
        simp only [cF]
        cases (v && (((((decodeL (p.drop i)).1 : Int) == (9 : Int)) || (((decodeL (p.drop i)).1 : Int) == (10 : Int))) || (((decodeL (p.drop i)).1 : Int) == (13 : Int)))) with
        | true =>
         simp only [cT]
         obtain ⟨y, y1, y2, y3⟩ := J 32 (i + (decodeL (p.drop i)).2) om d2
         exact .inl ⟨y, y1, y2, by rw [Int.toNat_natCast]; exact y3⟩
        | false =>
         simp only [cF]
         obtain ⟨y, y1, y2, y3⟩ := J ((decodeL (p.drop i)).1 : Int) (i + (decodeL (p.drop i)).2) om d2
         exact .inl ⟨y, y1, y2, by rw [Int.toNat_natCast]; exact y3⟩
  ·right
   refine ⟨.inl l, fun rec => ?_, trivial⟩
   unfold Ay
   dsimp only
   rw [dF om, cF]) AA (([] : LB), (0 : Int)) ⟨[], 0, rfl, Nat.zero_le _, by simp⟩ (by unfold AA; dsimp only; omega)
 unfold Cz
 simp only [Av]
 rw [e, bS]
 cases o <;> exact ⟨_, rfl⟩
abbrev Tk := TK
def nmP (l : List TP) : List LB := l.map (·.Name)
def am (t : Tk) : Bool := ((((t.Kind == (2 : Int)) || (t.Kind == (3 : Int))) || (t.Kind == (4 : Int))) || (t.Kind == (8 : Int)))
structure I2 (b : LB) (i : Nat) (t : Tk) (j : Nat) : Prop where
 lt : i < j
 at_ : t.At = (i : Int)
 nm : am t = !(t.Name == [])
 nd : (nmP t.Pairs).Nodup
 txt : t.Kind = 5 → b[i]? ≠ some 60 ∧ (j = b.length ∨ b[j]? = some 60)
 oth : t.Kind ≠ 5 → b[i]? = some 60
 dec : t.Kind = 1 → i = 0
 len : t.Pairs.length ≤ b.length + 3
def Pq (b : LB) (i : Nat) (x : Int × TS × Tk) : Prop := ∃ (e : Int) (j : Nat) (t : Tk), x = (e, ⟨b, (j : Int)⟩, t) ∧ j ≤ b.length ∧ (e = 0 → I2 b i t j)
theorem Gu (b : LB) (i k : Nat) (t : Tk) (w : LB) (hw : w ≠ []) (hi : i + k ≤ b.length) (hb : b.length ≤ 1073741824) (hwl : w.length ≤ 100) : ∃ (e : Int) (j : Nat) (x : LB), Ax ⟨b, (i : Int)⟩ t (k : Int) w = some (e, ⟨b, (j : Int)⟩, ⟨t.Kind, t.At, t.Name, t.Pairs, x, t.Refs⟩) ∧ j ≤ b.length ∧ (e = 0 → i + k < j) := by
 unfold Ax
 dsimp only
 rw [w64 (x := (i : Int) + (k : Int)) om om, show (i : Int) + (k : Int) = ((i + k : Nat) : Int) by omega, BU hi, bS]
 unfold FZ
 rw [if_pos ⟨by rw [lD]; omega, by omega, hw⟩, bS]
 by_cases hn : Lib.index (b.drop (i + k)) w < 0
 ·rw [dT hn, cT]
  exact ⟨23, i, t.Text, rfl, by omega, fun h => by cases h⟩
 ·have hge := Lib.index_ge (b.drop (i + k)) w
  obtain ⟨n, e1⟩ : ∃ n : Nat, Lib.index (b.drop (i + k)) w = (n : Int) := ⟨(Lib.index (b.drop (i + k)) w).toNat, by omega⟩
  obtain ⟨_, e2⟩ := Io e1 hw
  have hwp : 0 < w.length := List.length_pos_iff.2 hw
  rw [lD] at e2
  rw [dF hn, cF, e1, Ew (by rw [lD]; omega), bS, w64 (x := (k : Int) + (n : Int)) om om, w64 (x := (k : Int) + (n : Int) + (w.length : Int)) om om, w64 om om]
  exact ⟨0, i + (k + n + w.length), _, rfl, by omega, fun _ => by omega⟩
theorem Kt {l : LB} (h : l ≠ []) : (l == ([] : LB)) = false := by simpa using h
theorem Zv (b : LB) (i : Nat) (t : Tk) (hi : i < b.length) (hb : b.length ≤ 1073741824) (h60 : AF b i [60] = false) (ht : t.At = (i : Int)) (hn : t.Name = []) (hp : t.Pairs = []) : ∃ x, BJ ⟨b, (i : Int)⟩ t = some x ∧ Pq b i x := by
 have hne : b[i]? ≠ some 60 := by
  rw [Ig] at h60
  intro h; rw [h] at h60; simp at h60
 have core : ∀ (a : LB) (n : Nat), a.length = n → 0 < n → i + n ≤ b.length → (i + n = b.length ∨ b[i + n]? = some 60) → ∃ x, ((BD a).bind fun x10 =>
  (Ex a ([38] : LB)).bind fun x13 =>
  some (x10.2.2, (⟨b, (IntKind.wrap .i64 ((i : Int) + (a.length : Int)))⟩ : TS), (⟨(5 : Int), t.At, t.Name, t.Pairs, x10.1, x13⟩ : TK))) = some x ∧ Pq b i x := by
  intro a n ha h0 hle hend
  obtain ⟨r, hr⟩ := GW a false om
  unfold BD
  rw [hr, bS, bS]
  unfold Ex
  rw [bS, ha, w64 om om]
  refine ⟨_, rfl, r.2.2, i + n, ⟨5, t.At, t.Name, t.Pairs, r.1, ((Lib.countByte a 38 : Nat) : Int)⟩, by simp, hle, fun _ => ⟨by omega, ht, ?_, ?_, fun _ => ⟨hne, hend⟩, fun h => absurd rfl h, fun h => (by cases h), by show t.Pairs.length ≤ _; rw [hp]; exact Nat.zero_le _⟩⟩
  ·show (false : Bool) = !(t.Name == []); rw [hn]; rfl
  ·show (nmP t.Pairs).Nodup; rw [hp]; exact List.nodup_nil
 unfold BJ
 dsimp only
 rw [BU (Nat.le_of_lt hi), bS]
 simp only [Av]
 unfold CI
 rw [bS]
 by_cases hx : Lib.indexByte (b.drop i) (60 : Int).toNat.toUInt8 < 0
 ·rw [dF om, cF]
  exact core (b.drop i) (b.length - i) (by simp) om om (.inl om)
 ·obtain ⟨n, e1, e2⟩ := Iv _ _ hx
  have hg := Qm e1
  rw [List.getElem?_drop] at hg
  have h60' : ((60 : Int).toNat.toUInt8) = 60 := by decide
  rw [h60'] at hg
  have hn0 : n ≠ 0 := fun h => by subst h; exact hne hg
  rw [lD] at e2
  rw [dT om, cT, e1, Ew (by rw [lD]; omega), bS]
  exact core ((b.drop i).take n) n (by rw [List.length_take, lD]; omega) om om (.inr hg)
theorem R3 (b : LB) (i : Nat) (t : Tk) (hi : i + 2 ≤ b.length) (hb : b.length ≤ 1073741824) (h60 : b[i]? = some 60) (ht : t.At = (i : Int)) (hp : t.Pairs = []) : ∃ x, AL ⟨b, (i : Int)⟩ t = some x ∧ Pq b i x := by
 unfold AL
 dsimp only
 rw [w64 (x := (i : Int) + 2) om om, show (i : Int) + 2 = ((i + 2 : Nat) : Int) by omega]
 obtain ⟨v, e, j, h1, h2, h3, h4, h5⟩ := En b (i + 2) hi hb
 rw [h1, bS]
 dsimp only
 by_cases he : e = 0
 ·obtain ⟨h6, h7⟩ := h5 he
  obtain ⟨s1, s2⟩ := DK wsP b j h3
  rw [show (e != 0) = false by simpa using he, cF, AZ b _ j h3 hb, bS, BW b _ _ s2 hb, bS]
  cases hh : AF b (sk wsP b j) [62] with
  | false => exact ⟨_, rfl, 23, _, _, rfl, s2, fun h => (by cases h)⟩
  | true =>
   have := AT hh s2
   refine ⟨_, rfl, 0, sk wsP b j + 1, ⟨3, t.At, v, t.Pairs, t.Text, t.Refs⟩, rfl, by simpa using this, fun _ => ⟨by omega, ht, ?_, ?_, fun h => (by cases h), fun _ => h60, fun h => (by cases h), by show t.Pairs.length ≤ _; rw [hp]; exact Nat.zero_le _⟩⟩
   ·show (true : Bool) = !(v == []); rw [Kt h6]; rfl
   ·show (nmP t.Pairs).Nodup; rw [hp]; exact List.nodup_nil
 ·rw [show (e != 0) = true by simpa using he, cT]
  exact ⟨_, rfl, e, j, _, rfl, h3, fun h => absurd h he⟩
theorem WC (b : LB) (i : Nat) (t : Tk) (hi : i + 2 ≤ b.length) (hb : b.length ≤ 1073741824) (h60 : b[i]? = some 60) (ht : t.At = (i : Int)) (hp : t.Pairs = []) : ∃ x, AI ⟨b, (i : Int)⟩ t = some x ∧ Pq b i x := by
 unfold AI
 dsimp only
 rw [w64 (x := (i : Int) + 2) om om, show (i : Int) + 2 = ((i + 2 : Nat) : Int) by omega]
 obtain ⟨v, e, j, h1, h2, h3, h4, h5⟩ := En b (i + 2) hi hb
 rw [h1, bS]
 dsimp only
 by_cases he : e = 0
 ·obtain ⟨h6, h7⟩ := h5 he
  rw [show (e != 0) = false by simpa using he, cF, Iy, bS]
  cases JC v with
  | false => exact ⟨_, rfl, 24, j, _, rfl, h3, fun h => (by cases h)⟩
  | true =>
   obtain ⟨r, hr⟩ := Mz v om
   rw [bT, cF, hr, bS]
   cases r with
   | true => exact ⟨_, rfl, 29, j, _, rfl, h3, fun h => (by cases h)⟩
   | false =>
    rw [cF, BP b j _ h3, bS]
    have okT : ∀ (k : Nat) (tx : LB), i < k → I2 b i ⟨8, t.At, v, t.Pairs, tx, t.Refs⟩ k := fun k tx hk => ⟨hk, ht, by show (true : Bool) = !(v == []); rw [Kt h6]; rfl, by show (nmP t.Pairs).Nodup; rw [hp]; exact List.nodup_nil, fun h => (by cases h), fun _ => h60, fun h => (by cases h), by show t.Pairs.length ≤ _; rw [hp]; exact Nat.zero_le _⟩
    cases hh : AF b j [63, 62] with
    | true =>
     have := AT hh h3
     rw [cT, BW b _ _ h3 hb, hh, if_pos rfl, bS]
     exact ⟨_, rfl, 0, j + 2, _, rfl, by simpa using this, fun _ => okT _ _ om⟩
    | false =>
     obtain ⟨s1, s2⟩ := DK wsP b j h3
     rw [cF, AZ b _ j h3 hb, bS]
     cases ((sk wsP b j : Nat) : Int) == (j : Int) with
     | true => exact ⟨_, rfl, 23, j, _, rfl, h3, fun h => (by cases h)⟩
     | false =>
      obtain ⟨e2, k, x, u1, u2, u3⟩ := Gu b (sk wsP b j) 0 ⟨8, t.At, v, t.Pairs, t.Text, t.Refs⟩ [63, 62] (by simp) om hb (by simp)
      rw [cF, show (0 : Int) = ((0 : Nat) : Int) from rfl, u1, bS]
      exact ⟨_, rfl, e2, k, _, rfl, u2, fun h => okT _ _ (by have := u3 h; omega)⟩
 ·rw [show (e != 0) = true by simpa using he, cT]
  exact ⟨_, rfl, e, j, _, rfl, h3, fun h => absurd h he⟩
theorem SM (k At : Int) (Nm : LB) (ps : List TP) (Tx : LB) (rf : Int) (x27 x31 : (LB × Int) × TS) (hl : ps.length ≤ 1073741824) :
  ∃ o, iter (AJ k At Nm ps Tx rf x27 x31) AA (0 : Int) = some o ∧ ((o = .inl () ∧ ∀ p ∈ ps, p.Name ≠ x27.1.1) ∨ o = .inr ((27 : Int), x31.2, ⟨k, At, Nm, ps, Tx, rf⟩)) := by
 refine CA (b := AJ k At Nm ps Tx rf x27 x31) (fun i x => x = (i : Int) ∧ ∀ p ∈ ps.take i, p.Name ≠ x27.1.1) _ ps.length (x0 := (0 : Int)) ⟨rfl, by simp⟩ ?_ ?_ (n := AA) (by unfold AA; omega)
 ·rintro i _ rec hi ⟨rfl, hI⟩
  unfold AJ
  rw [dT om, cT, Bw hi, bS]
  by_cases h : ps[i].Name = x27.1.1
  ·rw [show (ps[i].Name == x27.1.1) = true by simpa using h, cT]
   exact .inr ⟨_, rfl, .inr rfl⟩
  ·rw [show (ps[i].Name == x27.1.1) = false by simpa using h, cF, w64 om om]
   refine .inl ⟨((i + 1 : Nat) : Int), rfl, rfl, fun p hp => ?_⟩
   rw [List.take_add_one, List.getElem?_eq_getElem hi, Option.toList_some, List.mem_append, List.mem_singleton] at hp
   rcases hp with hp | rfl
   ·exact hI p hp
   ·exact h
 ·rintro _ rec ⟨rfl, hI⟩
  unfold AJ
  rw [dF om, cF]
  rw [List.take_length] at hI
  exact ⟨_, rfl, .inl ⟨rfl, hI⟩⟩
theorem aA (b : LB) (i : Nat) (t : Tk) (hi : i + 1 ≤ b.length) (hb : b.length ≤ 65536) (h60 : b[i]? = some 60) (ht : t.At = (i : Int)) (hp : t.Pairs = []) : ∃ x, A1 ⟨b, (i : Int)⟩ t = some x ∧ Pq b i x := by
 have hb' : b.length ≤ 1073741824 := by omega
 unfold A1
 dsimp only
 rw [w64 (x := (i : Int) + 1) om om, show (i : Int) + 1 = ((i + 1 : Nat) : Int) by omega]
 obtain ⟨v, e, j, h1, h2, h3, h4, h5⟩ := En b (i + 1) hi hb'
 rw [h1, bS]
 dsimp only
 by_cases he : e = 0
 case neg =>
  rw [show (e != 0) = true by simpa using he, cT]
  exact ⟨_, rfl, e, j, _, rfl, h3, fun h => absurd h he⟩
 obtain ⟨h6, h7⟩ := h5 he
 rw [show (e != 0) = false by simpa using he, cF]
 have hh := Ci (b := Al) (fun x => b.length - x.2.1.toNat) (fun x => ∃ (j : Nat) (ps : List TP) (y z : LB), x = (b, (j : Int), (2 : Int), t.At, v, ps, t.Text, t.Refs, y, z) ∧ i < j ∧ j ≤ b.length ∧ ps.length ≤ j ∧ (nmP ps).Nodup) (fun o => Pq b i o) ?_ AA
  (b, (j : Int), (2 : Int), t.At, v, t.Pairs, t.Text, t.Refs, ([] : LB), ([] : LB)) ⟨j, t.Pairs, [], [], rfl, by omega, h3, by rw [hp]; simp, by rw [hp]; exact List.nodup_nil⟩ (by unfold AA; dsimp only; omega)
 ·obtain ⟨o, e1, e2⟩ := hh
  rw [e1]
  exact ⟨o, rfl, e2⟩
 rintro _ ⟨j, ps, y, z, rfl, g1, g2, g3, g4⟩
 have okT : ∀ (kd : Int) (k : Nat), (kd = 2 ∨ kd = 4) → i < k → I2 b i ⟨kd, t.At, v, ps, t.Text, t.Refs⟩ k := fun kd k hk hik => ⟨hik, ht, by rcases hk with rfl | rfl <;> (show (true : Bool) = !(v == []); rw [Kt h6]; rfl), g4, fun h => (by rcases hk with rfl | rfl <;> cases h), fun _ => h60, fun h => (by rcases hk with rfl | rfl <;> cases h), by show ps.length ≤ _; omega⟩
 obtain ⟨s1, s2⟩ := DK wsP b j g2
 have hsp := AZ b (j : Int) j g2 hb'
 have hh1 := BP b (sk wsP b j) [47, 62] s2
 have hh2 := BP b (sk wsP b j) [62] s2
 cases c1 : AF b (sk wsP b j) [47, 62] with
 | true =>
  right
  have hl := AT c1 s2
  rw [c1] at hh1
  refine ⟨(0, ⟨b, ((sk wsP b j + 2 : Nat) : Int)⟩, ⟨4, t.At, v, ps, t.Text, t.Refs⟩), fun rec => ?_, 0, sk wsP b j + 2, _, rfl, by simpa using hl, fun _ => okT 4 _ (.inr rfl) om⟩
  unfold Al
  dsimp only
  rw [hsp, bS, hh1, bS, cT, BW b _ _ s2 hb', c1, if_pos rfl, bS]
  rfl
 | false =>
 rw [c1] at hh1
 cases c2 : AF b (sk wsP b j) [62] with
 | true =>
  right
  have hl := AT c2 s2
  rw [c2] at hh2
  refine ⟨(0, ⟨b, ((sk wsP b j + 1 : Nat) : Int)⟩, ⟨2, t.At, v, ps, t.Text, t.Refs⟩), fun rec => ?_, 0, sk wsP b j + 1, _, rfl, by simpa using hl, fun _ => okT 2 _ (.inl rfl) om⟩
  unfold Al
  dsimp only
  rw [hsp, bS, hh1, bS, cF, hh2, bS, cT, BW b _ _ s2 hb', c2, if_pos rfl, bS]
  rfl
 | false =>
 rw [c2] at hh2
 by_cases c3 : sk wsP b j = j
 ·right
  refine ⟨(23, ⟨b, ((sk wsP b j : Nat) : Int)⟩, ⟨2, t.At, v, ps, t.Text, t.Refs⟩), fun rec => ?_, 23, sk wsP b j, _, rfl, s2, fun h => (by cases h)⟩
  unfold Al
  dsimp only
  rw [hsp, bS, hh1, bS, cF, hh2, bS, cF, show (((sk wsP b j : Nat) : Int) == (j : Int)) = true by simp [c3], cT]
 have c3' : (((sk wsP b j : Nat) : Int) == (j : Int)) = false := by
  rw [bn]; omega
 obtain ⟨nm, e1, k1, n1, n2, n3, n4, n5⟩ := En b (sk wsP b j) s2 hb'
 by_cases ce1 : e1 = 0
 case neg =>
  right
  refine ⟨(e1, ⟨b, (k1 : Int)⟩, ⟨2, t.At, v, ps, t.Text, t.Refs⟩), fun rec => ?_, e1, k1, _, rfl, n3, fun h => absurd h ce1⟩
  unfold Al
  dsimp only
  rw [hsp, bS, hh1, bS, cF, hh2, bS, cF, c3', cF, n1, bS]
  dsimp only
  rw [show (e1 != 0) = true by simpa using ce1, cT]
 obtain ⟨n6, n7⟩ := n5 ce1
 obtain ⟨e2, k2, q1, q2, q3⟩ := GU b k1 n3 hb'
 by_cases ce2 : e2 = 0
 case neg =>
  right
  refine ⟨(e2, ⟨b, (k2 : Int)⟩, ⟨2, t.At, v, ps, t.Text, t.Refs⟩), fun rec => ?_, e2, k2, _, rfl, q3, fun h => absurd h ce2⟩
  unfold Al
  dsimp only
  rw [hsp, bS, hh1, bS, cF, hh2, bS, cF, c3', cF, n1, bS]
  dsimp only
  rw [show (e1 != 0) = false by simpa using ce1, cF, q1, bS]
  dsimp only
  rw [show (e2 != 0) = true by simpa using ce2, cT]
 obtain ⟨rv, e3, k3, w1, w2, w3, w4, w5⟩ := FM b k2 q3 hb'
 by_cases ce3 : e3 = 0
 case neg =>
  right
  refine ⟨(e3, ⟨b, (k3 : Int)⟩, ⟨2, t.At, v, ps, t.Text, t.Refs⟩), fun rec => ?_, e3, k3, _, rfl, w3, fun h => absurd h ce3⟩
  unfold Al
  dsimp only
  rw [hsp, bS, hh1, bS, cF, hh2, bS, cF, c3', cF, n1, bS]
  dsimp only
  rw [show (e1 != 0) = false by simpa using ce1, cF, q1, bS]
  dsimp only
  rw [show (e2 != 0) = false by simpa using ce2, cF, w1, bS]
  dsimp only
  rw [show (e3 != 0) = true by simpa using ce3, cT]
 obtain ⟨rd, hrd⟩ := GW rv true om
 have hrv : BO rv = some (rd.1, rd.2.1, rd.2.2) := by unfold BO; rw [hrd]; rfl
 by_cases ce4 : rd.2.2 = 0
 case neg =>
  right
  refine ⟨(rd.2.2, ⟨b, (k3 : Int)⟩, ⟨2, t.At, v, ps, t.Text, t.Refs⟩), fun rec => ?_, rd.2.2, k3, _, rfl, w3, fun h => absurd h ce4⟩
  unfold Al
  dsimp only
  rw [hsp, bS, hh1, bS, cF, hh2, bS, cF, c3', cF, n1, bS]
  dsimp only
  rw [show (e1 != 0) = false by simpa using ce1, cF, q1, bS]
  dsimp only
  rw [show (e2 != 0) = false by simpa using ce2, cF, w1, bS]
  dsimp only
  rw [show (e3 != 0) = false by simpa using ce3, cF, hrv, bS]
  dsimp only
  rw [show (rd.2.2 != 0) = true by simpa using ce4, cT]
 have hbody : ∀ rec, Al rec (b, (j : Int), (2 : Int), t.At, v, ps, t.Text, t.Refs, y, z) = (iter (AJ 2 t.At v ps t.Text t.Refs ((nm, e1), ⟨b, (k1 : Int)⟩) ((rv, e3), ⟨b, (k3 : Int)⟩)) AA 0).bind fun o => match o with
   | .inl _ => (app 32 ps [(⟨nm, rd.1⟩ : TP)]).bind fun _ => (some (ps ++ [(⟨nm, rd.1⟩ : TP)])).bind fun a51 => rec (b, (k3 : Int), (2 : Int), t.At, v, a51, t.Text, t.Refs, nm, rd.1)
   | .inr o1 => some o1 := by
  intro rec
  unfold Al
  dsimp only
  rw [hsp, bS, hh1, bS, cF, hh2, bS, cF, c3', cF, n1, bS]
  dsimp only
  rw [show (e1 != 0) = false by simpa using ce1, cF, q1, bS]
  dsimp only
  rw [show (e2 != 0) = false by simpa using ce2, cF, w1, bS]
  dsimp only
  rw [show (e3 != 0) = false by simpa using ce3, cF, hrv, bS]
  dsimp only
  rw [show (rd.2.2 != 0) = false by simpa using ce4, cF]
  simp only [Av]
  rfl
 obtain ⟨o, l1, l2⟩ := SM 2 t.At v ps t.Text t.Refs ((nm, e1), ⟨b, (k1 : Int)⟩) ((rv, e3), ⟨b, (k3 : Int)⟩) om
 rcases l2 with ⟨rfl, hno⟩ | rfl
 ·left
  have w6 := w5 ce3
  refine ⟨(b, (k3 : Int), (2 : Int), t.At, v, ps ++ [(⟨nm, rd.1⟩ : TP)], t.Text, t.Refs, nm, rd.1), fun rec => ?_, ⟨k3, _, nm, rd.1, rfl, by omega, w3, by simp; omega, ?_⟩, by dsimp only; omega⟩
  ·rw [hbody, l1, bS]
   dsimp only
   rw [Ct so so, bS, bS]
  ·unfold nmP at g4 ⊢
   rw [List.map_append, List.nodup_append]
   refine ⟨g4, by simp, fun a ha c hc hac => ?_⟩
   rw [List.mem_map] at ha
   obtain ⟨p, hpm, rfl⟩ := ha
   simp at hc
   subst hc
   exact hno p hpm hac
 ·right
  exact ⟨_, fun rec => by rw [hbody, l1, bS], 27, k3, _, rfl, w3, fun h => (by cases h)⟩
abbrev DeclW : List LB := [([118, 101, 114, 115, 105, 111, 110] : LB), ([101, 110, 99, 111, 100, 105, 110, 103] : LB), ([115, 116, 97, 110, 100, 97, 108, 111, 110, 101] : LB)]
theorem Xr (k : Nat) (hk : k < 3) : ∃ w, idx DeclW (k : Int) = some w ∧ w.length ≤ 10 ∧ 1 ≤ w.length ∧ DeclW.take (k + 1) = DeclW.take k ++ [w] := by
 have h : k = 0 ∨ k = 1 ∨ k = 2 := by omega
 rcases h with rfl | rfl | rfl
 ·exact ⟨_, rfl, by decide, by decide, rfl⟩
 ·exact ⟨_, rfl, by decide, by decide, rfl⟩
 ·exact ⟨_, rfl, by decide, by decide, rfl⟩
theorem Px (b : LB) (At : Int) (Nm Tx : LB) (rf : Int) (h5 : 5 ≤ b.length) (hb : b.length ≤ 1073741824) :
  ∃ o, iter (Ar) AA (b, (5 : Int), (1 : Int), At, Nm, ([] : List TP), Tx, rf, ([] : LB), (0 : Int)) = some o ∧
  ((∃ (j : Nat) (ps : List TP) (la : LB), o = .inl (b, (j : Int), la, (1 : Int), At, Nm, ps, Tx, rf) ∧ 5 ≤ j ∧ j ≤ b.length ∧ (nmP ps).Nodup ∧ ps.length ≤ 3 ∧ la.length ≤ 1073741824 ∧ ∀ c ∈ la, c.toNat < 128) ∨
   (∃ (j : Nat) (t' : Tk), o = .inr ((23 : Int), ⟨b, (j : Int)⟩, t') ∧ j ≤ b.length)) := by
 refine Ci (b := Ar) (fun x => 3 - x.2.2.2.2.2.2.2.2.2.toNat) (fun x => ∃ (j k : Nat) (ps : List TP) (la : LB), x = (b, (j : Int), (1 : Int), At, Nm, ps, Tx, rf, la, (k : Int)) ∧ 5 ≤ j ∧ j ≤ b.length ∧ k ≤ 3 ∧ (nmP ps).Sublist (DeclW.take k) ∧ ps.length ≤ k ∧ la.length ≤ 1073741824 ∧ ∀ c ∈ la, c.toNat < 128) _ ?_ AA _ ⟨5, 0, [], [], rfl, by omega, h5, by omega, List.nil_sublist _, by simp, by simp, by simp⟩ (by unfold AA; dsimp only; omega)
 rintro _ ⟨j, k, ps, la, rfl, g1, g2, g3, g4, g5, g6, g7⟩
 by_cases hk : k < 3
 case neg =>
  right
  refine ⟨.inl (b, (j : Int), la, (1 : Int), At, Nm, ps, Tx, rf), fun rec => ?_, .inl ⟨j, ps, la, rfl, g1, g2, ?_, by omega, g6, g7⟩⟩
  ·unfold Ar
   dsimp only
   rw [show decide ((k : Int) < (DeclW.length : Int)) = false from dF (show ¬ (k : Int) < ((3 : Nat) : Int) by omega), cF]
  ·exact (g4.trans (List.take_sublist _ _)).nodup dc
 obtain ⟨w, hidx, w1, w2, w3⟩ := Xr k hk
 have hkt : decide ((k : Int) < (DeclW.length : Int)) = true := dT (show (k : Int) < ((3 : Nat) : Int) by omega)
 obtain ⟨s1, s2⟩ := DK wsP b j g2
 have hsp := AZ b (j : Int) j g2 hb
 have hk1 : IntKind.wrap .i64 ((k : Int) + 1) = ((k + 1 : Nat) : Int) := by rw [w64 om om]; omega
 have skipI : ∃ (j' k' : Nat) (ps' : List TP) (la' : LB), (b, (j : Int), (1 : Int), At, Nm, ps, Tx, rf, la, ((k + 1 : Nat) : Int)) = (b, (j' : Int), (1 : Int), At, Nm, ps', Tx, rf, la', (k' : Int)) ∧ 5 ≤ j' ∧ j' ≤ b.length ∧ k' ≤ 3 ∧ (nmP ps').Sublist (DeclW.take k') ∧ ps'.length ≤ k' ∧ la'.length ≤ 1073741824 ∧ ∀ c ∈ la', c.toNat < 128 :=
  ⟨j, k + 1, ps, la, rfl, g1, g2, by omega, by rw [w3]; exact g4.trans (List.sublist_append_left _ _), by omega, g6, g7⟩
 by_cases c3 : sk wsP b j = j
 ·have c3' : (((sk wsP b j : Nat) : Int) == (j : Int)) = true := by simp [c3]
  cases hv : w == ([118, 101, 114, 115, 105, 111, 110] : LB) with
  | true =>
   right
   refine ⟨.inr ((23 : Int), ⟨b, (j : Int)⟩, ⟨1, At, Nm, ps, Tx, rf⟩), fun rec => ?_, .inr ⟨j, _, rfl, g2⟩⟩
   unfold Ar
   dsimp only
   rw [hkt, cT]
   simp only [Av]
   rw [hidx, bS, hsp, bS, c3', cT, cT, hv, cT]
  | false =>
   left
   refine ⟨_, fun rec => ?_, skipI, by dsimp only; omega⟩
   unfold Ar
   dsimp only
   rw [hkt, cT]
   simp only [Av]
   rw [hidx, bS, hsp, bS, c3', cT, cT, hv, cF, hk1]
 have c3' : (((sk wsP b j : Nat) : Int) == (j : Int)) = false := by rw [bn]; omega
 cases hh : AF b (sk wsP b j) w with
 | false =>
  have hh' : w.isPrefixOf (b.drop (sk wsP b j)) = false := hh
  cases hv : w == ([118, 101, 114, 115, 105, 111, 110] : LB) with
  | true =>
   right
   refine ⟨.inr ((23 : Int), ⟨b, (j : Int)⟩, ⟨1, At, Nm, ps, Tx, rf⟩), fun rec => ?_, .inr ⟨j, _, rfl, g2⟩⟩
   unfold Ar
   dsimp only
   rw [hkt, cT]
   simp only [Av]
   rw [hidx, bS, hsp, bS, c3', cF, BU s2, bS, Cr, bS, hh', bF, cT, hv, cT]
  | false =>
   left
   refine ⟨_, fun rec => ?_, skipI, by dsimp only; omega⟩
   unfold Ar
   dsimp only
   rw [hkt, cT]
   simp only [Av]
   rw [hidx, bS, hsp, bS, c3', cF, BU s2, bS, Cr, bS, hh', bF, cT, hv, cF, hk1]
 | true =>
  have hh' : w.isPrefixOf (b.drop (sk wsP b j)) = true := hh
  have hl := AT hh s2
  have hadd : IntKind.wrap .i64 (((sk wsP b j : Nat) : Int) + (w.length : Int)) = ((sk wsP b j + w.length : Nat) : Int) := by rw [w64 om om]; omega
  obtain ⟨e2, k2, q1, q2, q3⟩ := GU b (sk wsP b j + w.length) hl hb
  have pre : ∀ rec, Ar rec (b, (j : Int), (1 : Int), At, Nm, ps, Tx, rf, la, (k : Int)) = cond (e2 != 0) (some (.inr ((23 : Int), ⟨b, (k2 : Int)⟩, ⟨1, At, Nm, ps, Tx, rf⟩)))
    ((AY ⟨b, (k2 : Int)⟩).bind fun x122 =>
    (Av (fun v125 : Bool => cond v125
     (some (.inr ((23 : Int), x122.2, (⟨1, At, Nm, ps, Tx, rf⟩ : TK))))
     ((app 32 ps [(⟨w, x122.1.1⟩ : TP)]).bind fun _ =>
      (some (ps ++ [(⟨w, x122.1.1⟩ : TP)])).bind fun a129 =>
     cond (w == ([101, 110, 99, 111, 100, 105, 110, 103] : LB))
      (rec (x122.2.b, x122.2.at_, (1 : Int), At, Nm, a129, Tx, rf, x122.1.1, ((k + 1 : Nat) : Int)))
      (rec (x122.2.b, x122.2.at_, (1 : Int), At, Nm, a129, Tx, rf, la, ((k + 1 : Nat) : Int))))) fun J124 => cond (x122.1.2 != (0 : Int)) (J124 true) ((E3 w x122.1.1).bind fun x126 =>
     J124 (!x126)))) := by
   intro rec
   unfold Ar
   dsimp only
   rw [hkt, cT]
   simp only [Av]
   rw [hidx, bS, hsp, bS, c3', cF, BU s2, bS, Cr, bS, hh', bT, cF, hadd, q1, bS]
   simp only [hk1]
  by_cases ce2 : e2 = 0
  case neg =>
   right
   refine ⟨.inr ((23 : Int), ⟨b, (k2 : Int)⟩, ⟨1, At, Nm, ps, Tx, rf⟩), fun rec => ?_, .inr ⟨k2, _, rfl, q3⟩⟩
   rw [pre, show (e2 != 0) = true by simpa using ce2, cT]
  obtain ⟨rv, e3, k3, u1, u2, u3, u4, u5⟩ := FM b k2 q3 hb
  by_cases ce3 : e3 = 0
  case neg =>
   right
   refine ⟨.inr ((23 : Int), ⟨b, (k3 : Int)⟩, ⟨1, At, Nm, ps, Tx, rf⟩), fun rec => ?_, .inr ⟨k3, _, rfl, u3⟩⟩
   rw [pre, show (e2 != 0) = false by simpa using ce2, cF, u1, bS]
   simp only [Av]
   rw [show (e3 != 0) = true by simpa using ce3, cT, cT]
  obtain ⟨r, hr, hr2⟩ := P3 w rv om
  cases r with
  | false =>
   right
   refine ⟨.inr ((23 : Int), ⟨b, (k3 : Int)⟩, ⟨1, At, Nm, ps, Tx, rf⟩), fun rec => ?_, .inr ⟨k3, _, rfl, u3⟩⟩
   rw [pre, show (e2 != 0) = false by simpa using ce2, cF, u1, bS]
   simp only [Av]
   rw [show (e3 != 0) = false by simpa using ce3, cF, hr, bS, bF, cT]
  | true =>
   left
   have hsub : (nmP (ps ++ [(⟨w, rv⟩ : TP)])).Sublist (DeclW.take (k + 1)) := by
    rw [w3]; unfold nmP at g4 ⊢; rw [List.map_append]; exact g4.append (List.Sublist.refl _)
   cases he : w == ([101, 110, 99, 111, 100, 105, 110, 103] : LB) with
   | true =>
    refine ⟨(b, (k3 : Int), (1 : Int), At, Nm, ps ++ [(⟨w, rv⟩ : TP)], Tx, rf, rv, ((k + 1 : Nat) : Int)), fun rec => ?_, ⟨k3, k + 1, _, rv, rfl, by omega, u3, by omega, hsub, by simp; omega, by omega, hr2 (by simpa using he) rfl⟩, by dsimp only; omega⟩
    rw [pre, show (e2 != 0) = false by simpa using ce2, cF, u1, bS]
    simp only [Av]
    rw [show (e3 != 0) = false by simpa using ce3, cF, hr, bS, bT, cF, Ct so so, bS, bS, he, cT]
   | false =>
    refine ⟨(b, (k3 : Int), (1 : Int), At, Nm, ps ++ [(⟨w, rv⟩ : TP)], Tx, rf, la, ((k + 1 : Nat) : Int)), fun rec => ?_, ⟨k3, k + 1, _, la, rfl, by omega, u3, by omega, hsub, by simp; omega, g6, g7⟩, by dsimp only; omega⟩
    rw [pre, show (e2 != 0) = false by simpa using ce2, cF, u1, bS]
    simp only [Av]
    rw [show (e3 != 0) = false by simpa using ce3, cF, hr, bS, bT, cF, Ct so so, bS, bS, he, cF]
theorem Yt (b : LB) (t : Tk) (h5 : 5 ≤ b.length) (hb : b.length ≤ 1073741824) (h60 : b[0]? = some 60) (ht : t.At = 0) (hn : t.Name = []) (hp : t.Pairs = []) : ∃ x, BK ⟨b, (0 : Int)⟩ t = some x ∧ Pq b 0 x := by
 unfold BK
 simp only [Av]
 rw [hp]
 obtain ⟨o, e1, e2⟩ := Px b t.At t.Name t.Text t.Refs h5 hb
 rw [e1, bS]
 rcases e2 with ⟨j, ps, la, rfl, h1, h2, h3, h7, h4, h6⟩ | ⟨j, t', rfl, h1⟩
 ·dsimp only
  obtain ⟨s1, s2⟩ := DK wsP b j h2
  rw [AZ b _ j h2 hb, bS, BW b _ _ s2 hb]
  cases hh : AF b (sk wsP b j) [63, 62] with
  | false =>
   rw [if_neg (by simp), bS]
   exact ⟨_, rfl, 23, sk wsP b j, _, rfl, s2, fun h => (by cases h)⟩
  | true =>
   have hl := AT hh s2
   have okT : I2 b 0 ⟨1, t.At, t.Name, ps, t.Text, t.Refs⟩ (sk wsP b j + 2) := ⟨by omega, by rw [ht]; rfl, by show (false : Bool) = !(t.Name == []); rw [hn]; rfl, h3, fun h => (by cases h), fun _ => h60, fun _ => rfl, by show ps.length ≤ _; omega⟩
   rw [if_pos rfl, bS]
   dsimp only
   rw [show ((0 : Int) != 0) = false from rfl, cF]
   cases la == ([] : LB) with
   | true =>
    rw [bT, cF, cF]
    exact ⟨_, rfl, 0, sk wsP b j + 2, _, rfl, by simpa using hl, fun _ => okT⟩
   | false =>
    obtain ⟨r, hr⟩ := O7 la [117, 116, 102, 45, 56] h4 (by simp) h6 dc
    rw [bF, cT, hr, bS]
    cases r with
    | true =>
     rw [bT, cF]
     exact ⟨_, rfl, 0, sk wsP b j + 2, _, rfl, by simpa using hl, fun _ => okT⟩
    | false =>
     rw [bF, cT]
     exact ⟨_, rfl, 25, sk wsP b j + 2, _, rfl, by simpa using hl, fun h => (by cases h)⟩
 ·dsimp only
  exact ⟨_, rfl, 23, j, t', rfl, h1, fun h => (by cases h)⟩
theorem RY (b : LB) (i : Nat) (hi : i < b.length) (hb : b.length ≤ 65536) : ∃ x, An ⟨b, (i : Int)⟩ ⟨(0 : Int), (i : Int), ([] : LB), ([] : List TP), ([] : LB), (0 : Int)⟩ = some x ∧ Pq b i x := by
 have hb' : b.length ≤ 1073741824 := by omega
 have hle : i ≤ b.length := Nat.le_of_lt hi
 have rest : ∃ x, ((Aq (⟨b, (i : Int)⟩ : TS) ([60, 33, 45, 45] : LB)).bind fun x12 =>
    cond x12
    ((Ax ⟨b, (i : Int)⟩ (⟨(7 : Int), (i : Int), ([] : LB), ([] : List TP), ([] : LB), (0 : Int)⟩ : TK) (4 : Int) ([45, 45] : LB)).bind fun x14 =>
    cond (x14.1 != (0 : Int))
     (some (x14.1, x14.2.1, x14.2.2))
     ((A8 x14.2.1 ([62] : LB)).bind fun x17 =>
     some (x17.1, x17.2, x14.2.2)))
    ((Aq (⟨b, (i : Int)⟩ : TS) ([60, 33, 91, 67, 68, 65, 84, 65, 91] : LB)).bind fun x18 =>
    cond x18
     ((Ax ⟨b, (i : Int)⟩ (⟨(6 : Int), (i : Int), ([] : LB), ([] : List TP), ([] : LB), (0 : Int)⟩ : TK) (9 : Int) ([93, 93, 62] : LB)).bind fun x20 =>
     some (x20.1, x20.2.1, x20.2.2))
     ((Aq (⟨b, (i : Int)⟩ : TS) ([60, 33, 68, 79, 67, 84, 89, 80, 69] : LB)).bind fun x22 =>
     cond x22
     (some ((25 : Int), (⟨b, (i : Int)⟩ : TS), (⟨(0 : Int), (i : Int), ([] : LB), ([] : List TP), ([] : LB), (0 : Int)⟩ : TK)))
     ((Aq (⟨b, (i : Int)⟩ : TS) ([60, 33] : LB)).bind fun x24 =>
     cond x24
      (some ((23 : Int), (⟨b, (i : Int)⟩ : TS), (⟨(0 : Int), (i : Int), ([] : LB), ([] : List TP), ([] : LB), (0 : Int)⟩ : TK)))
      ((Aq (⟨b, (i : Int)⟩ : TS) ([60, 63] : LB)).bind fun x26 =>
      cond x26
      ((AI (⟨b, (i : Int)⟩ : TS) ⟨(0 : Int), (i : Int), ([] : LB), ([] : List TP), ([] : LB), (0 : Int)⟩).bind fun x28 =>
      some (x28.1, x28.2.1, x28.2.2))
      ((Aq (⟨b, (i : Int)⟩ : TS) ([60, 47] : LB)).bind fun x30 =>
      cond x30
       ((AL (⟨b, (i : Int)⟩ : TS) ⟨(0 : Int), (i : Int), ([] : LB), ([] : List TP), ([] : LB), (0 : Int)⟩).bind fun x32 =>
       some (x32.1, x32.2.1, x32.2.2))
       ((Aq (⟨b, (i : Int)⟩ : TS) ([60] : LB)).bind fun x34 =>
       cond x34
       ((A1 (⟨b, (i : Int)⟩ : TS) ⟨(0 : Int), (i : Int), ([] : LB), ([] : List TP), ([] : LB), (0 : Int)⟩).bind fun x36 =>
       some (x36.1, x36.2.1, x36.2.2))
       ((BJ (⟨b, (i : Int)⟩ : TS) ⟨(0 : Int), (i : Int), ([] : LB), ([] : List TP), ([] : LB), (0 : Int)⟩).bind fun x38 =>
       some (x38.1, x38.2.1, x38.2.2))))))))) = some x ∧ Pq b i x := by
  rw [BP b i _ hle, bS]
  cases c1 : AF b i [60, 33, 45, 45] with
  | true =>
   have hl := AT c1 hle
   obtain ⟨e, j, x, u1, u2, u3⟩ := Gu b i 4 ⟨(7 : Int), (i : Int), [], [], [], 0⟩ [45, 45] (by simp) (by simpa using hl) hb' (by simp)
   rw [cT, show (4 : Int) = ((4 : Nat) : Int) from rfl, u1, bS]
   dsimp only
   by_cases he : e = 0
   case neg =>
    rw [show (e != 0) = true by simpa using he, cT]
    exact ⟨_, rfl, e, j, _, rfl, u2, fun h => absurd h he⟩
   rw [show (e != 0) = false by simpa using he, cF, BW b j _ u2 hb']
   have := u3 he
   cases hh : AF b j [62] with
   | false =>
    rw [if_neg (by simp), bS]
    exact ⟨_, rfl, 23, j, _, rfl, u2, fun h => (by cases h)⟩
   | true =>
    have hl2 := AT hh u2
    rw [if_pos rfl, bS]
    exact ⟨_, rfl, 0, j + 1, _, rfl, by simpa using hl2, fun _ => ⟨by omega, rfl, rfl, List.nodup_nil, fun h => (by cases h), fun _ => CJ c1, fun h => (by cases h), Nat.zero_le _⟩⟩
  | false =>
  rw [cF, BP b i _ hle, bS]
  cases c2 : AF b i [60, 33, 91, 67, 68, 65, 84, 65, 91] with
  | true =>
   have hl := AT c2 hle
   obtain ⟨e, j, x, u1, u2, u3⟩ := Gu b i 9 ⟨(6 : Int), (i : Int), [], [], [], 0⟩ [93, 93, 62] (by simp) (by simpa using hl) hb' (by simp)
   rw [cT, show (9 : Int) = ((9 : Nat) : Int) from rfl, u1, bS]
   exact ⟨_, rfl, e, j, _, rfl, u2, fun h => ⟨by have := u3 h; omega, rfl, rfl, List.nodup_nil, fun h => (by cases h), fun _ => CJ c2, fun h => (by cases h), Nat.zero_le _⟩⟩
  | false =>
  rw [cF, BP b i _ hle, bS]
  cases c3 : AF b i [60, 33, 68, 79, 67, 84, 89, 80, 69] with
  | true => exact ⟨_, rfl, 25, i, _, rfl, hle, fun h => (by cases h)⟩
  | false =>
  rw [cF, BP b i _ hle, bS]
  cases c4 : AF b i [60, 33] with
  | true => exact ⟨_, rfl, 23, i, _, rfl, hle, fun h => (by cases h)⟩
  | false =>
  rw [cF, BP b i _ hle, bS]
  cases c5 : AF b i [60, 63] with
  | true =>
   have hl := AT c5 hle
   obtain ⟨x, h1, h2⟩ := WC b i ⟨(0 : Int), (i : Int), [], [], [], 0⟩ (by simpa using hl) hb' (CJ c5) rfl rfl
   rw [cT, h1, bS]
   exact ⟨_, rfl, h2⟩
  | false =>
  rw [cF, BP b i _ hle, bS]
  cases c6 : AF b i [60, 47] with
  | true =>
   have hl := AT c6 hle
   obtain ⟨x, h1, h2⟩ := R3 b i ⟨(0 : Int), (i : Int), [], [], [], 0⟩ (by simpa using hl) hb' (CJ c6) rfl rfl
   rw [cT, h1, bS]
   exact ⟨_, rfl, h2⟩
  | false =>
  rw [cF, BP b i _ hle, bS]
  cases c7 : AF b i [60] with
  | true =>
   obtain ⟨x, h1, h2⟩ := aA b i ⟨(0 : Int), (i : Int), [], [], [], 0⟩ hi hb (CJ c7) rfl rfl
   rw [cT, h1, bS]
   exact ⟨_, rfl, h2⟩
  | false =>
   obtain ⟨x, h1, h2⟩ := Zv b i ⟨(0 : Int), (i : Int), [], [], [], 0⟩ hi hb' c7 rfl rfl rfl
   rw [cF, h1, bS]
   exact ⟨_, rfl, h2⟩
 unfold An
 simp only [Av]
 by_cases h0 : i = 0
 ·subst h0
  rw [show (((0 : Nat) : Int) == (0 : Int)) = true from rfl, cT, BP b 0 _ hle, bS]
  cases c0 : AF b 0 [60, 63, 120, 109, 108] with
  | false => rw [cF, cF]; exact rest
  | true =>
   have hl := AT c0 hle
   have h5 : 5 ≤ b.length := by simpa using hl
   rw [cT, show (5 : Int) = ((5 : Nat) : Int) from rfl, AZ b _ 5 h5 hb', bS]
   cases decide (((5 : Nat) : Int) < ((sk wsP b 5 : Nat) : Int)) with
   | false => rw [cF]; exact rest
   | true =>
    obtain ⟨x, h1, h2⟩ := Yt b ⟨(0 : Int), ((0 : Nat) : Int), [], [], [], 0⟩ h5 hb' (CJ c0) rfl rfl rfl
    rw [cT, show (((0 : Nat) : Int)) = (0 : Int) from rfl] at *
    rw [h1, bS]
    exact ⟨_, rfl, h2⟩
 ·rw [show ((i : Int) == (0 : Int)) = false by rw [bn]; omega, cF, cF]
  exact rest
theorem Lq (c : UInt8) : u8 (c.toNat : Int) = some c := by
 unfold u8
 have := c.toNat_lt
 rw [if_pos om, Int.toNat_natCast]
 simp
def lnP (p : LB) (i : Nat) : LB := if p.getD i 0 = 13 then [10] else if p.getD i 0 = 10 ∧ 0 < i ∧ p.getD (i - 1) 0 = 13 then [] else [p.getD i 0]
theorem IS (c : UInt8) (n : Nat) (hn : n < 256) : ((c.toNat : Int) == (n : Int)) = decide (c = UInt8.ofNat n) := by
 rw [Bool.eq_iff_iff, beq_iff_eq, decide_eq_true_eq]
 have h2 : (UInt8.ofNat n).toNat = n := by show n % 256 = n; omega
 constructor
 ·intro h; apply UInt8.toNat_inj.1; rw [h2]; omega
 ·rintro rfl; rw [h2]
theorem Mb (p : LB) (i : Nat) (l : LB) (hi : i < p.length) (hl : l.length ≤ i) (hp : p.length ≤ 1073741824) (rec) : Dm p rec (l, (i : Int)) = rec (l ++ lnP p i, ((i + 1 : Nat) : Int)) := by
 have hk1 : IntKind.wrap .i64 ((i : Int) + 1) = ((i + 1 : Nat) : Int) := by rw [w64 om om]; omega
 have hg : p.getD i 0 = p[i] := by simp [List.getD, hi]
 unfold Dm
 dsimp only
 rw [dT om, cT]
 simp only [Av]
 rw [Bw hi, bS, hk1, show (10 : Int) = ((10 : Nat) : Int) from rfl, show (13 : Int) = ((13 : Nat) : Int) from rfl, IS _ 10 om, IS _ 13 om]
 have app1 : ∀ c : UInt8, app 1 l [c] = some (l ++ [c]) := fun c => Ct so so
 unfold lnP
 rw [hg]
 by_cases c10 : p[i] = 10
 ·by_cases h0 : 0 < i
  ·have hi1 : i - 1 < p.length := by omega
   have hg1 : p.getD (i - 1) 0 = p[i - 1] := by simp [List.getD, hi1]
   have hk2 : IntKind.wrap .i64 ((i : Int) - 1) = ((i - 1 : Nat) : Int) := by rw [w64 om om]; omega
   rw [dT (show p[i] = UInt8.ofNat 10 from c10), dT (show (0 : Int) < (i : Int) by omega), Bool.and_self, cT, hk2, Bw hi1, bS, IS _ 13 om, hg1, c10]
   by_cases c13 : p[i - 1] = 13
   ·rw [dT (show p[i - 1] = UInt8.ofNat 13 from c13), cT, if_neg dc, if_pos ⟨rfl, h0, c13⟩, List.append_nil]
   ·rw [dF (show ¬ p[i - 1] = UInt8.ofNat 13 from c13), cF, dF dc, cF, if_neg dc, if_neg (fun h => c13 h.2.2), Lq, bS, app1, bS, bS]
  ·rw [dF (show ¬ (0 : Int) < (i : Int) by omega), Bool.and_false, cF, cF, c10, dF dc, cF, if_neg dc, if_neg (fun h => h0 h.2.1), Lq, bS, app1, bS, bS]
 ·rw [dF (show ¬ p[i] = UInt8.ofNat 10 from c10), Bool.false_and, cF, cF]
  by_cases c13 : p[i] = 13
  ·rw [dT (show p[i] = UInt8.ofNat 13 from c13), cT, if_pos c13, show u8 ((10 : Nat) : Int) = some 10 from rfl, bS, app1, bS, bS]
  ·rw [dF (show ¬ p[i] = UInt8.ofNat 13 from c13), cF, if_neg c13, if_neg (fun h => c10 h.1), Lq, bS, app1, bS, bS]
theorem QM (p : LB) (i : Nat) (l : LB) (hi : i < p.length) (hl : l.length ≤ i) (hp : p.length ≤ 1073741824) (rec) : C5 p rec (l, (i : Int)) = rec (l ++ lnP p i, ((i + 1 : Nat) : Int)) := by
 have hk1 : IntKind.wrap .i64 ((i : Int) + 1) = ((i + 1 : Nat) : Int) := by rw [w64 om om]; omega
 have hg : p.getD i 0 = p[i] := by simp [List.getD, hi]
 unfold C5
 dsimp only
 rw [dT om, cT]
 simp only [Av, bne]
 rw [Bw hi, bS, bS, hk1, show u8 (10 : Int) = some 10 from rfl, show (10 : Int) = ((10 : Nat) : Int) from rfl, show (13 : Int) = ((13 : Nat) : Int) from rfl, IS _ 10 om, IS _ 13 om]
 have app1 : ∀ c : UInt8, app 1 l [c] = some (l ++ [c]) := fun c => Ct so so
 unfold lnP
 rw [hg]
 by_cases c13 : p[i] = 13
 ·rw [dT (show p[i] = UInt8.ofNat 13 from c13), cT, if_pos c13, bS, app1, bS]
 ·rw [dF (show ¬ p[i] = UInt8.ofNat 13 from c13), cF, if_neg c13]
  by_cases c10 : p[i] = 10
  ·rw [dT (show p[i] = UInt8.ofNat 10 from c10), bT, Bool.false_or]
   by_cases h0 : 0 < i
   ·have hi1 : i - 1 < p.length := by omega
    have hg1 : p.getD (i - 1) 0 = p[i - 1] := by simp [List.getD, hi1]
    have hk2 : IntKind.wrap .i64 ((i : Int) - 1) = ((i - 1 : Nat) : Int) := by rw [w64 om om]; omega
    rw [show ((i : Int) == (0 : Int)) = false by rw [bn]; omega, cF, hk2, Bw hi1, bS, IS _ 13 om, hg1, c10]
    by_cases c13' : p[i - 1] = 13
    ·rw [dT (show p[i - 1] = UInt8.ofNat 13 from c13'), bT, cF, if_pos ⟨rfl, h0, c13'⟩, List.append_nil]
    ·rw [dF (show ¬ p[i - 1] = UInt8.ofNat 13 from c13'), bF, cT, if_neg (fun h => c13' h.2.2), bS, Lq, bS, app1, bS]
   ·rw [show ((i : Int) == (0 : Int)) = true by rw [beq_iff_eq]; omega, cT, cT, if_neg (fun h => h0 h.2.1), bS, Lq, bS, app1, bS]
  ·rw [dF (show ¬ p[i] = UInt8.ofNat 10 from c10), bF, Bool.true_or, cT, cT, if_neg (fun h => c10 h.1), bS, Lq, bS, app1, bS]
theorem Ug (p : LB) (i : Nat) : (lnP p i).length ≤ 1 := by
 unfold lnP; split
 ·simp
 ·split <;> simp
theorem UF (p : LB) (hp : p.length ≤ 1073741824) : ∃ r, EH p = some r ∧ B7 p = some r ∧ r.length ≤ p.length := by
 obtain ⟨o, q, e1, e2, h1, h2⟩ := Q5 (b := Dm p) (c := C5 p) (fun x => p.length - x.2.toNat) (fun x y => x = y ∧ ∃ (l : LB) (i : Nat), x = (l, (i : Int)) ∧ i ≤ p.length ∧ l.length ≤ i) (fun o q => o = q ∧ o.length ≤ p.length) (by
  rintro _ _ ⟨rfl, l, i, rfl, hi, hl⟩
  by_cases hlt : i < p.length
  ·left
   have := Ug p i
   exact ⟨_, _, fun rec => Mb p i l hlt hl hp rec, fun rec => QM p i l hlt hl hp rec, ⟨rfl, _, i + 1, rfl, by omega, by rw [lA]; omega⟩, by dsimp only; omega⟩
  ·right
   refine ⟨l, l, fun rec => ?_, fun rec => ?_, rfl, by omega⟩
   ·unfold Dm; dsimp only; rw [dF om, cF]
   ·unfold C5; dsimp only; rw [dF om, cF]) AA AA (([] : LB), (0 : Int)) (([] : LB), (0 : Int)) ⟨rfl, [], 0, rfl, Nat.zero_le _, Nat.le_refl _⟩ (by unfold AA; dsimp only; omega) (by unfold AA; dsimp only; omega)
 subst h1
 refine ⟨o, ?_, ?_, h2⟩
 ·unfold EH
  simp only [Av]
  rw [show mkG 1 (0 : Int) (p.length : Int) = some () by unfold mkG; rw [if_pos om], bS, bS, show (List.replicate (Int.toNat (0 : Int)) (0 : UInt8)) = [] from rfl, e1, bS]
 ·unfold B7
  simp only [Av]
  rw [e2, bS]
theorem Ur (p : LB) (hp : p.length ≤ 1073741824) : ∃ r, Cl p = some r ∧ BI p = some r ∧ r.length ≤ p.length := by
 have key : ∀ a : LB, a.length ≤ p.length → (C2 p [239, 187, 191] = some a) → (∀ r, B7 a = some r → BI p = some r) → ∃ r, Cl p = some r ∧ BI p = some r ∧ r.length ≤ p.length := by
  intro a ha h1 h2
  obtain ⟨r, r1, r2, r3⟩ := UF a om
  refine ⟨r, ?_, h2 r r2, by omega⟩
  unfold Cl
  rw [show u8 (239 : Int) = some 239 from rfl, show u8 (187 : Int) = some 187 from rfl, show u8 (191 : Int) = some 191 from rfl, bS, bS, bS, h1, bS, r1, bS]
 have no : ([239, 187, 191] : LB).isPrefixOf p = false → (∀ r, B7 p = some r → BI p = some r) → ∃ r, Cl p = some r ∧ BI p = some r ∧ r.length ≤ p.length := by
  intro h h2
  refine key p (Nat.le_refl _) ?_ h2
  unfold C2
  rw [Cr, bS, h, cF]
 rcases p with _ | ⟨a, _ | ⟨b, _ | ⟨c, q⟩⟩⟩
 ·exact no rfl fun r hr => (by
   unfold BI; simp only [Av]
   rw [dF (by simp), cF, cF, cF, cF, hr, bS])
 ·exact no (by simp [List.isPrefixOf]) fun r hr => (by
   unfold BI; simp only [Av]
   rw [dF (by simp), cF, cF, cF, cF, hr, bS])
 ·exact no (by simp [List.isPrefixOf]) fun r hr => (by
   unfold BI; simp only [Av]
   rw [dF (by simp), cF, cF, cF, cF, hr, bS])
 ·have hd : decide ((3 : Int) ≤ ((a :: b :: c :: q).length : Int)) = true := dT (by simp only [lC]; omega)
  have i0 : idx (a :: b :: c :: q) (0 : Int) = some a := Bw (i := 0) (by simp)
  have i1 : idx (a :: b :: c :: q) (1 : Int) = some b := Bw (i := 1) (by simp)
  have i2 : idx (a :: b :: c :: q) (2 : Int) = some c := Bw (i := 2) (by simp)
  have ba := IS a 239 om
  have bb := IS b 187 om
  have bc := IS c 191 om
  have hT : BI (a :: b :: c :: q) = cond (decide (a = 239)) (cond (decide (b = 187)) (cond (decide (c = 191)) (B7 q) (B7 (a :: b :: c :: q))) (B7 (a :: b :: c :: q))) (B7 (a :: b :: c :: q)) := by
   unfold BI
   simp only [Av]
   rw [hd, cT, i0, bS, i1, bS, i2, bS]
   rw [show (239 : Int) = ((239 : Nat) : Int) from rfl, show (187 : Int) = ((187 : Nat) : Int) from rfl, show (191 : Int) = ((191 : Nat) : Int) from rfl, ba, bb, bc]
   have hs : slc (a :: b :: c :: q) (3 : Int) ((a :: b :: c :: q).length : Int) = some q := BU (n := 3) (l := a :: b :: c :: q) (by simp)
   have hbind : ∀ o : Option LB, (o.bind fun x => some x) = o := fun o => by cases o <;> rfl
   rw [hs, bS, hbind, hbind]
   show cond (decide (a = 239)) _ _ = _
   cases decide (a = 239) with
   | false => rfl
   | true =>
    show cond (decide (b = 187)) _ _ = cond (decide (b = 187)) _ _
    cases decide (b = 187) with
    | false => rfl
    | true =>
     show cond (decide (c = 191)) _ _ = cond (decide (c = 191)) _ _
     cases decide (c = 191) <;> rfl
  by_cases hall : a = 239 ∧ b = 187 ∧ c = 191
  ·obtain ⟨rfl, rfl, rfl⟩ := hall
   refine key q (by simp only [lC]; omega) ?_ fun r hr => by rw [hT]; exact hr
   unfold C2
   rw [Cr, bS, show ([239, 187, 191] : LB).isPrefixOf (239 :: 187 :: 191 :: q) = true by simp [List.isPrefixOf], cT]
   have hs : slc (239 :: 187 :: 191 :: q : LB) ((([239, 187, 191] : LB).length : Nat) : Int) ((239 :: 187 :: 191 :: q : LB).length : Int) = some q := BU (n := 3) (l := 239 :: 187 :: 191 :: q) (by simp)
   rw [hs, bS]
  ·refine no ?_ fun r hr => ?_
   ·rw [Bool.eq_false_iff]
    intro h
    simp only [List.isPrefixOf, Bool.and_true, Bool.and_eq_true, beq_iff_eq] at h
    exact hall ⟨h.1.symm, h.2.1.symm, h.2.2.symm⟩
   ·rw [hT]
    by_cases ha : a = 239
    ·rw [dT ha, cT]
     by_cases hb : b = 187
     ·rw [dT hb, cT, dF (fun h => hall ⟨ha, hb, h⟩), cF, hr]
     ·rw [dF hb, cF, hr]
    ·rw [dF ha, cF, hr]
theorem XA (b : LB) (hb : b.length ≤ 1073741824) : ∃ (a e : Int), Dw b = some (a, e) ∧ (e ≠ 0 → 0 ≤ a ∧ a ≤ b.length) := by
 obtain ⟨o, e, h⟩ := Ci (b := C1 b) (fun x => b.length - x.toNat) (fun x => ∃ i : Nat, x = (i : Int) ∧ i ≤ b.length) (fun o => o = .inl () ∨ ∃ (i : Nat) (f : Int), o = .inr ((i : Int), f) ∧ i ≤ b.length) (by
  rintro _ ⟨i, rfl, hi⟩
  by_cases hlt : i < b.length
  ·obtain ⟨d1, d2, _⟩ := CT b i hlt
   have hn := GK b i hlt hb
   unfold C1
   rw [hn]
   simp only [bS]
   rw [dT (show (i : Int) < (b.length : Int) by omega)]
   simp only [cT]
   cases Gc (decodeL (b.drop i)) with
   | true => exact .inr ⟨_, fun _ => rfl, .inr ⟨i, 20, rfl, hi⟩⟩
   | false =>
    simp only [Bool.false_eq_true, if_false]
    cases Ee ((decodeL (b.drop i)).1 : Int) with
    | false => exact .inr ⟨_, fun _ => rfl, .inr ⟨i, 21, rfl, hi⟩⟩
    | true => exact .inl ⟨_, fun _ => rfl, ⟨i + (decodeL (b.drop i)).2, rfl, d2⟩, by rw [Int.toNat_natCast]; simp only [if_true]; rw [Int.toNat_natCast]; omega⟩
  ·right
   refine ⟨.inl (), fun rec => ?_, .inl rfl⟩
   unfold C1
   rw [dF om, cF]) AA (0 : Int) ⟨0, rfl, Nat.zero_le _⟩ (by unfold AA; omega)
 unfold Dw
 simp only [Av]
 rw [e, bS]
 rcases h with rfl | ⟨i, f, rfl, hi⟩
 ·exact ⟨0, 0, rfl, fun h => absurd rfl h⟩
 ·exact ⟨_, _, rfl, fun _ => ⟨by omega, by omega⟩⟩
def Pos (b : LB) (L : List Tk) (j : Nat) : Prop := (∀ k t, L[k]? = some t → ∃ i j', I2 b i t j' ∧ i < b.length ∧ (k = 0 → i = 0) ∧ (∀ t', 0 < k → L[k - 1]? = some t' → ∃ i', I2 b i' t' i)) ∧ (L = [] → j = 0) ∧ (∀ t, 0 < L.length → L[L.length - 1]? = some t → ∃ i, I2 b i t j)
theorem W4 {b : LB} {L : List Tk} {i j : Nat} {t : Tk} (h : Pos b L i) (hi : i < b.length) (ht : I2 b i t j) : Pos b (L ++ [t]) j := by
 obtain ⟨h1, h2, h3⟩ := h
 refine ⟨fun k u hu => ?_, fun h => by simp at h, fun u _ hu => ?_⟩
 ·by_cases hk : k < L.length
  ·rw [List.getElem?_append_left hk] at hu
   obtain ⟨i1, j1, a1, a2, a3, a4⟩ := h1 k u hu
   refine ⟨i1, j1, a1, a2, a3, fun t' h0 ht' => a4 t' h0 ?_⟩
   rwa [List.getElem?_append_left om] at ht'
  ·have hk' : k = L.length := by
    have := (List.getElem?_eq_some_iff.1 hu).1
    rw [lA, List.length_singleton] at this
    omega
   subst hk'
   rw [List.getElem?_append_right (Nat.le_refl _), Nat.sub_self] at hu
   injection hu with hu
   subst hu
   refine ⟨i, j, ht, hi, fun h0 => h2 (List.length_eq_zero_iff.1 h0), fun t' h0 ht' => h3 t' h0 ?_⟩
   rwa [List.getElem?_append_left om] at ht'
 ·rw [lA, List.length_singleton, Nat.add_sub_cancel, List.getElem?_append_right (Nat.le_refl _), Nat.sub_self] at hu
  injection hu with hu
  subst hu
  exact ⟨i, ht⟩
theorem Xs (p : LB) (hp : p.length ≤ 1073741824) : ∃ (L : List Tk) (a e : Int), Dt p = some (L, a, e) ∧ (e ≠ 0 → L = [] ∧ 0 ≤ a ∧ a ≤ p.length) ∧ (e = 0 → ∃ b, Cl p = some b ∧ BI p = some b ∧ b.length ≤ p.length ∧ a = 0 ∧ Pos b L b.length ∧ L.length ≤ b.length) := by
 unfold Dt
 by_cases hl : 65536 < p.length
 ·rw [dT om, cT]
  exact ⟨_, _, _, rfl, fun _ => ⟨rfl, by omega, by omega⟩, fun h => by cases h⟩
 rw [dF om, cF]
 obtain ⟨b, r1, r2, r3⟩ := Ur p hp
 rw [r1, bS]
 obtain ⟨fa, fe, f1, f2⟩ := XA b om
 dsimp only
 rw [f1, bS]
 by_cases hf : fe = 0
 case neg =>
  rw [show (fe != 0) = true by simpa using hf, cT]
  have := f2 hf
  exact ⟨_, _, _, rfl, fun _ => ⟨rfl, this.1, by omega⟩, fun h => absurd h hf⟩
 rw [show (fe != 0) = false by simpa using hf, cF]
 obtain ⟨o, e1, e2⟩ := Ci (b := BG) (fun x => b.length - x.2.1.toNat) (fun x => ∃ (j : Nat) (L : List Tk), x = (b, (j : Int), L) ∧ j ≤ b.length ∧ L.length ≤ j ∧ Pos b L j) (fun o => (∃ L : List Tk, o = (L, 0, 0) ∧ Pos b L b.length ∧ L.length ≤ b.length) ∨ ∃ (j : Nat) (e : Int), o = ([], (j : Int), e) ∧ e ≠ 0 ∧ j ≤ b.length) (by
  rintro _ ⟨j, L, rfl, g1, g2, g3⟩
  by_cases hj : j = b.length
  ·right
   subst hj
   refine ⟨(L, 0, 0), fun rec => ?_, .inl ⟨L, rfl, g3, g2⟩⟩
   unfold BG
   dsimp only
   rw [show ((b.length : Int) == (b.length : Int)) = true by simp, cT]
  ·obtain ⟨_, t1, e, j2, t, rfl, t2, t3⟩ := RY b j om om
   have hne : ((j : Int) == (b.length : Int)) = false := by rw [bn]; omega
   by_cases he : e = 0
   ·left
    have t4 := t3 he
    refine ⟨(b, (j2 : Int), L ++ [t]), fun rec => ?_, ⟨j2, _, rfl, t2, by have := t4.lt; simp; omega, W4 g3 om t4⟩, by have := t4.lt; dsimp only; omega⟩
    unfold BG
    dsimp only
    rw [hne, cF, t1, bS]
    dsimp only
    rw [show (e != 0) = false by simpa using he, cF, Ct so so, bS, bS]
   ·right
    refine ⟨([], (j : Int), e), fun rec => ?_, .inr ⟨j, e, rfl, he, g1⟩⟩
    unfold BG
    dsimp only
    rw [hne, cF, t1, bS]
    dsimp only
    rw [show (e != 0) = true by simpa using he, cT]) AA (b, (0 : Int), ([] : List TK)) ⟨0, [], rfl, Nat.zero_le _, Nat.le_refl _, ⟨fun k t h => by simp at h, fun _ => rfl, fun t h => by simp at h⟩⟩ (by unfold AA; dsimp only; omega)
 rw [e1, bS]
 rcases e2 with ⟨L, rfl, h1, h2⟩ | ⟨j, e, rfl, h1, h2⟩
 ·exact ⟨_, _, _, rfl, fun h => absurd rfl h, fun _ => ⟨b, rfl, r2, r3, rfl, h1, h2⟩⟩
 ·exact ⟨_, _, _, rfl, fun _ => ⟨rfl, by omega, by omega⟩, fun h => absurd h h1⟩
structure Agr (U V : LB) (n : Nat) : Prop where
 tk : U.take n = V.take n
 u : n ≤ U.length
 v : n ≤ V.length
 dec : ∀ j, j < n → decodeL (U.drop j) = decodeL (V.drop j)
theorem Agr.symm {U V : LB} {n : Nat} (A : Agr U V n) : Agr V U n := ⟨A.tk.symm, A.v, A.u, fun j h => (A.dec j h).symm⟩
theorem Agr.get {U V : LB} {n : Nat} (A : Agr U V n) {j : Nat} (h : j < n) : U[j]? = V[j]? := by
 have := congrArg (fun l : LB => l[j]?) A.tk
 simpa [List.getElem?_take, h] using this
theorem Agr.seg {U V : LB} {n : Nat} (A : Agr U V n) {a k : Nat} (h : a + k ≤ n) : (U.drop a).take k = (V.drop a).take k := by
 apply List.ext_getElem?
 intro x
 rw [List.getElem?_take, List.getElem?_take]
 split
 ·rw [List.getElem?_drop, List.getElem?_drop, A.get om]
 ·rfl
theorem Agr.here {U V : LB} {n : Nat} (A : Agr U V n) {j : Nat} {w : LB} (h : j + w.length ≤ n) : AF U j w = AF V j w := by
 have h1 := A.u
 have h2 := A.v
 unfold AF
 rw [D3, D3, A.seg h, dT (by rw [lD]; omega), dT (by rw [lD]; omega)]
theorem Agr.sk {U V : LB} {n : Nat} (A : Agr U V n) (P : UInt8 → Bool) : ∀ (d j : Nat), j + d = n → Proofs.YtilhbalhkljanaaGreatDoor.sk P U j < n → Proofs.YtilhbalhkljanaaGreatDoor.sk P V j = Proofs.YtilhbalhkljanaaGreatDoor.sk P U j
 | d, j, hd, h => by
  have h1 := A.u
  have h2 := A.v
  have hj : j < n := by
   have := (DK P U j om).1
   omega
  have hg : U[j]'om = V[j]'om := by
   have := A.get hj
   rw [List.getElem?_eq_getElem om, List.getElem?_eq_getElem om] at this
   exact sj this
  rw [Fx (by omega : j < U.length)] at h ⊢
  rw [Fx (by omega : j < V.length), hg]
  rw [hg] at h
  cases hp : P (V[j]'om) with
  | false => rfl
  | true =>
   rw [hp, if_pos rfl] at h
   rw [if_pos rfl, if_pos rfl]
   cases d with
   | zero => omega
   | succ d => exact Agr.sk A P d (j + 1) om h
theorem Agr.skw {U V : LB} {n : Nat} (A : Agr U V n) {j : Nat} (h : Proofs.YtilhbalhkljanaaGreatDoor.sk wsP U j < n) : Proofs.YtilhbalhkljanaaGreatDoor.sk wsP V j = Proofs.YtilhbalhkljanaaGreatDoor.sk wsP U j := by
 have h1 := A.u
 by_cases hj : j ≤ n
 ·exact A.sk wsP (n - j) j om h
 ·unfold Proofs.YtilhbalhkljanaaGreatDoor.sk at h; omega
def HZ (i k r : Int) : Bool := (r != 58) && (!KR r || ((k == i) && !F3 r))
theorem FE (b : LB) (i k : Nat) (hk : k < b.length) (hb : b.length ≤ 1073741824) (rec : Int → Option Int) : AC ⟨b, (i : Int)⟩ rec (k : Int) = cond (HZ i k ((decodeL (b.drop k)).1 : Int)) (some (k : Int)) (rec ((k + (decodeL (b.drop k)).2 : Nat) : Int)) := by
 obtain ⟨d1, d2, _⟩ := CT b k hk
 unfold AC
 dsimp only
 rw [dT om, cT, BU (Nat.le_of_lt hk), bS, J1 b k hk, bS]
 simp only [Av, N5, JJ, bS]
 have hgo : IntKind.wrap .i64 ((k : Int) + ((decodeL (b.drop k)).2 : Int)) = ((k + (decodeL (b.drop k)).2 : Nat) : Int) := by rw [w64 om om]; omega
 rw [hgo]
 unfold HZ
 cases ((decodeL (b.drop k)).1 : Int) != 58 with
 | false => rfl
 | true =>
  cases KR ((decodeL (b.drop k)).1 : Int) with
  | false => rfl
  | true =>
   cases ((k : Int) == (i : Int)) with
   | false => rfl
   | true => cases F3 ((decodeL (b.drop k)).1 : Int) <;> rfl
theorem KT (b : LB) (i : Nat) (rec : Int → Option Int) : AC ⟨b, (i : Int)⟩ rec (b.length : Int) = some (b.length : Int) := by
 unfold AC
 dsimp only
 rw [dF om, cF]
theorem OS (b : LB) (i : Nat) (hi : i ≤ b.length) (hb : b.length ≤ 1073741824) : ∃ j : Nat, iter (AC ⟨b, (i : Int)⟩) AA (i : Int) = some (j : Int) ∧ i ≤ j ∧ j ≤ b.length := by
 obtain ⟨o, h, j, rfl, h1, h2⟩ := Ci (b := AC ⟨b, (i : Int)⟩) (fun x => b.length - x.toNat) (fun x => ∃ k : Nat, x = (k : Int) ∧ i ≤ k ∧ k ≤ b.length) (fun o => ∃ j : Nat, o = (j : Int) ∧ i ≤ j ∧ j ≤ b.length) (by
  rintro _ ⟨k, rfl, g1, g2⟩
  by_cases hk : k < b.length
  ·obtain ⟨d1, d2, _⟩ := CT b k hk
   cases hs : HZ i k ((decodeL (b.drop k)).1 : Int) with
   | true => exact .inr ⟨(k : Int), fun rec => by rw [FE b i k hk hb, hs, cT], k, rfl, g1, g2⟩
   | false => exact .inl ⟨_, fun rec => by rw [FE b i k hk hb, hs, cF], ⟨_, rfl, by omega, d2⟩, by rw [Int.toNat_natCast, Int.toNat_natCast]; omega⟩
  ·have : k = b.length := by omega
   subst this
   exact .inr ⟨_, fun rec => KT b i rec, _, rfl, g1, g2⟩) AA (i : Int) ⟨i, rfl, Nat.le_refl _, hi⟩ (by unfold AA; omega)
 exact ⟨j, h, h1, h2⟩
theorem Lk (b : LB) (i j : Nat) (h : iter (AC ⟨b, (i : Int)⟩) AA (i : Int) = some (j : Int)) (h1 : i ≤ j) (h2 : j ≤ b.length) :
  AM ⟨b, (i : Int)⟩ = cond ((b.drop i).take (j - i) == ([] : LB)) (some (([], 23), ⟨b, (i : Int)⟩)) ((CH ((b.drop i).take (j - i))).bind fun x => cond (!x.2.2) (some (([], 24), ⟨b, (i : Int)⟩)) (some (((b.drop i).take (j - i), 0), ⟨b, (j : Int)⟩))) := by
 unfold AM
 simp only [Av]
 rw [h, bS]
 have hsl : slc b (i : Int) (j : Int) = some ((b.drop i).take (j - i)) := by
  unfold slc; rw [if_pos om]; simp only [Int.toNat_natCast]
 rw [hsl, bS]
theorem K4 {U V : LB} {n : Nat} (A : Agr U V n) (hU : U.length ≤ 1073741824) (hV : V.length ≤ 1073741824) (i j : Nat) (hj : j < n) :
  ∀ (m k : Nat), k ≤ U.length → iter (AC ⟨U, (i : Int)⟩) m (k : Int) = some (j : Int) → k ≤ j ∧ iter (AC ⟨V, (i : Int)⟩) m (k : Int) = some (j : Int)
 | 0, k, _, h => by cases h
 | m + 1, k, hk, h => by
  have h1 := A.u
  have h2 := A.v
  rw [DN] at h ⊢
  by_cases hlt : k < U.length
  ·obtain ⟨d1, d2, _⟩ := CT U k hlt
   rw [FE U i k hlt hU] at h
   cases hs : HZ i k ((decodeL (U.drop k)).1 : Int) with
   | true =>
    rw [hs, cT] at h
    have hkj : k = j := by have := sj h; omega
    subst hkj
    rw [FE V i k om hV, ← A.dec k hj, hs, cT]
    exact ⟨Nat.le_refl _, rfl⟩
   | false =>
    rw [hs, cF] at h
    obtain ⟨g1, g2⟩ := K4 A hU hV i j hj m _ d2 h
    rw [FE V i k om hV, ← A.dec k om, hs, cF]
    exact ⟨by omega, g2⟩
  ·have : k = U.length := by omega
   subst this
   rw [KT] at h
   have := sj h
   omega
theorem PG {b : LB} {i : Nat} (hi : i ≤ b.length) (hb : b.length ≤ 1073741824) {v : LB} {s : TS} (h : AM ⟨b, (i : Int)⟩ = some ((v, 0), s)) :
  ∃ j : Nat, s = ⟨b, (j : Int)⟩ ∧ i < j ∧ j ≤ b.length ∧ v = (b.drop i).take (j - i) ∧ iter (AC ⟨b, (i : Int)⟩) AA (i : Int) = some (j : Int) := by
 obtain ⟨j, h1, h2, h3⟩ := OS b i hi hb
 rw [Lk b i j h1 h2 h3] at h
 cases hw : ((b.drop i).take (j - i) == ([] : LB)) with
 | true => rw [hw, cT] at h; cases h
 | false =>
  rw [hw, cF] at h
  cases hs : CH ((b.drop i).take (j - i)) with
  | none => rw [hs] at h; cases h
  | some x =>
   rw [hs, bS] at h
   cases hx : x.2.2 with
   | false => rw [hx, bF, cT] at h; cases h
   | true =>
    rw [hx, bT, cF] at h
    cases h
    refine ⟨j, rfl, ?_, h3, rfl, h1⟩
    by_cases hij : i = j
    ·subst hij
     rw [Nat.sub_self, List.take_zero] at hw
     cases hw
    ·omega
theorem Im {U V : LB} {n : Nat} (A : Agr U V n) (hU : U.length ≤ 1073741824) (hV : V.length ≤ 1073741824) {i j : Nat} (hi : i ≤ U.length) {v : LB} (h : AM ⟨U, (i : Int)⟩ = some ((v, 0), ⟨U, (j : Int)⟩)) (hj : j < n) : AM ⟨V, (i : Int)⟩ = some ((v, 0), ⟨V, (j : Int)⟩) := by
 have h1 := A.u
 have h2 := A.v
 obtain ⟨j', e1, e2, e3, e4, e5⟩ := PG hi hU h
 have : j = j' := by injection e1 with _ e1; omega
 subst this
 obtain ⟨_, g⟩ := K4 A hU hV i j hj AA i hi e5
 rw [Lk U i j e5 om om] at h
 rw [Lk V i j g om om, ← A.seg om]
 cases hw : ((U.drop i).take (j - i) == ([] : LB)) with
 | true => rw [hw, cT] at h; cases h
 | false =>
  rw [hw, cF] at h
  rw [cF]
  cases hs : CH ((U.drop i).take (j - i)) with
  | none => rw [hs] at h; cases h
  | some x =>
   rw [hs, bS] at h
   rw [bS]
   cases hx : x.2.2 with
   | false => rw [hx, bF, cT] at h; cases h
   | true => rw [bT, cF, e4]
theorem OP {b : LB} {i : Nat} (hi : i ≤ b.length) (hb : b.length ≤ 1073741824) {v : LB} {s : TS} (h : AM ⟨b, (i : Int)⟩ = some ((v, 0), s)) {c : UInt8} (hc : b[i]? = some c) (h128 : c.toNat < 128) : HZ i i (c.toNat : Int) = false := by
 obtain ⟨j, e1, e2, e3, e4, e5⟩ := PG hi hb h
 have hlt : i < b.length := by omega
 have hg : b.getD i 0 = c := by simp [List.getD, hc]
 obtain ⟨d1, d2, d3, _⟩ := CT b i hlt
 rw [hg] at d3
 have d4 := d3 h128
 obtain ⟨m, hm⟩ : ∃ m, AA = m + 1 := ⟨AA - 1, by unfold AA; omega⟩
 rw [hm, DN, FE b i i hlt hb, d4] at e5
 cases hs : HZ i i (c.toNat : Int) with
 | false => rfl
 | true =>
  rw [hs, cT] at e5
  have := sj e5
  omega
theorem Wo {l : LB} {c : UInt8} {m : Nat} (h1 : l[m]? = some c) (h2 : ∀ k, k < m → l[k]? ≠ some c) : Lib.indexByte l c = (m : Int) := by
 by_cases hn : Lib.indexByte l c < 0
 ·have hge := Lib.indexByte_ge l c
  exact absurd h1 (Lib.indexByte_none om m)
 ·obtain ⟨o, e1, e2⟩ := Iv l c hn
  obtain ⟨g1, g2⟩ := Lib.indexByte_some e1
  rw [e1]
  rcases Nat.lt_trichotomy o m with h | h | h
  ·exact absurd g1 (h2 o h)
  ·rw [h]
  ·exact absurd h1 (g2 m h)
theorem Agr.ixB {U V : LB} {n : Nat} (A : Agr U V n) {a m : Nat} {c : UInt8} (h : Lib.indexByte (U.drop a) c = (m : Int)) (hm : a + m < n) : Lib.indexByte (V.drop a) c = (m : Int) := by
 obtain ⟨g1, g2⟩ := Lib.indexByte_some h
 refine Wo ?_ fun k hk => ?_
 ·rw [List.getElem?_drop, ← A.get hm, ← List.getElem?_drop]; exact g1
 ·rw [List.getElem?_drop, ← A.get om, ← List.getElem?_drop]; exact g2 k hk
theorem Agr.index {U V : LB} {n : Nat} (A : Agr U V n) {a m : Nat} {w : LB} (h : Lib.index (U.drop a) w = (m : Int)) (hm : a + m + w.length ≤ n) : Lib.index (V.drop a) w = (m : Int) := by
 have h1 := A.v
 have oc : ∀ k, k ≤ m → Lib.occAt (V.drop a) w k = Lib.occAt (U.drop a) w k := by
  intro k hk
  unfold Lib.occAt
  rw [List.drop_drop, List.drop_drop]
  exact (A.here (j := a + k) (w := w) om).symm
 rcases Lib.index_spec (U.drop a) w with ⟨g, _⟩ | ⟨i, g1, g2, g3, g4⟩
 ·omega
 ·have : i = m := by omega
  subst this
  refine Lib.index_first (by rw [lD]; omega) (by rw [oc i (Nat.le_refl _)]; exact g3) fun k hk => ?_
  rw [oc k om]
  exact g4 k hk
def quo (b : LB) (i : Nat) : (LB × Int) × TS :=
 if (AF b i [39] = true ∨ AF b i [34] = true) ∧ 0 ≤ Lib.indexByte (b.drop (i + 1)) (b.getD i 0) then (((b.drop (i + 1)).take (Lib.indexByte (b.drop (i + 1)) (b.getD i 0)).toNat, 0), ⟨b, ((i + ((Lib.indexByte (b.drop (i + 1)) (b.getD i 0)).toNat + 2) : Nat) : Int)⟩) else (([], 23), ⟨b, (i : Int)⟩)
theorem JK (b : LB) (i : Nat) (hi : i ≤ b.length) (hb : b.length ≤ 1073741824) : AY ⟨b, (i : Int)⟩ = some (quo b i) := by
 have main : i < b.length → (AF b i [39] = true ∨ AF b i [34] = true) → ((slc b (IntKind.wrap .i64 ((i : Int) + (1 : Int))) (b.length : Int)).bind fun x7 =>
   (idx b (i : Int)).bind fun x8 =>
   (CI x7 (x8.toNat : Int)).bind fun x9 =>
   cond (decide (x9 < (0 : Int)))
   (some ((([] : LB), (23 : Int)), (⟨b, (i : Int)⟩ : TS)))
   ((slc x7 (0 : Int) x9).bind fun x11 =>
   some ((x11, (0 : Int)), (⟨b, (IntKind.wrap .i64 ((i : Int) + (IntKind.wrap .i64 (x9 + (2 : Int)))))⟩ : TS)))) = some (quo b i) := by
  intro hlt hq
  have hg : b.getD i 0 = b[i] := by simp [List.getD, hlt]
  unfold quo
  rw [w64 (x := (i : Int) + 1) om om, show (i : Int) + 1 = ((i + 1 : Nat) : Int) by omega, BU hlt, bS, Bw hlt, bS, hg]
  unfold CI
  rw [PK, bS]
  by_cases hn : Lib.indexByte (b.drop (i + 1)) b[i] < 0
  ·rw [dT hn, cT, if_neg (fun h => by omega)]
  ·obtain ⟨n, e1, e2⟩ := Iv _ _ hn
   rw [dF hn, cF, if_pos ⟨hq, by omega⟩, e1, Ew (Nat.le_of_lt e2), bS, Int.toNat_natCast]
   rw [lD] at e2
   rw [w64 (x := (n : Int) + 2) om om, w64 om om]
   rfl
 unfold AY
 dsimp only
 rw [BP b i _ hi, BP b i _ hi, bS]
 simp only [Av]
 cases h1 : AF b i [39] with
 | true =>
  have := AT h1 hi
  rw [bT, cF, cF]
  exact main (by simp at this; omega) (.inl h1)
 | false =>
  rw [bF, cT, bS]
  cases h2 : AF b i [34] with
  | true =>
   have := AT h2 hi
   rw [bT, cF]
   exact main (by simp at this; omega) (.inr h2)
  | false =>
   rw [bF, cT]
   unfold quo
   rw [if_neg (fun h => by rw [h1, h2] at h; simp at h)]
theorem L4 {U V : LB} {n : Nat} (A : Agr U V n) (hU : U.length ≤ 1073741824) (hV : V.length ≤ 1073741824) {i j : Nat} (hi : i < n) {v : LB} (h : AY ⟨U, (i : Int)⟩ = some ((v, 0), ⟨U, (j : Int)⟩)) (hj : j ≤ n) : AY ⟨V, (i : Int)⟩ = some ((v, 0), ⟨V, (j : Int)⟩) := by
 have h1 := A.u
 have h2 := A.v
 rw [JK U i om hU] at h
 rw [JK V i om hV]
 have h := sj h
 unfold quo at h
 split at h
 ·rename_i hc
  obtain ⟨hq, h0⟩ := hc
  obtain ⟨m, em⟩ : ∃ m : Nat, Lib.indexByte (U.drop (i + 1)) (U.getD i 0) = (m : Int) := ⟨_, (Int.toNat_of_nonneg h0).symm⟩
  rw [em, Int.toNat_natCast] at h
  have hjm : i + (m + 2) = j := by
   have := congrArg (fun x => x.2.at_) h
   simp only at this
   omega
  have hv : (U.drop (i + 1)).take m = v := congrArg (fun x => x.1.1) h
  have hg : U.getD i 0 = V.getD i 0 := by
   have := A.get hi
   simp [List.getD, this]
  have eV := A.ixB em om
  rw [hg] at eV
  unfold quo
  rw [← A.here so, ← A.here so, if_pos ⟨hq, by omega⟩, eV, Int.toNat_natCast, ← A.seg om, hv, hjm]
 ·injection h with h _
  injection h with _ h
  cases h
theorem JD (b : LB) (i : Nat) (hi : i ≤ b.length) (hb : b.length ≤ 1073741824) : AX ⟨b, (i : Int)⟩ = some (if AF b (sk wsP b i) [61] = true then (0, ⟨b, ((sk wsP b (sk wsP b i + 1) : Nat) : Int)⟩) else (23, ⟨b, ((sk wsP b (sk wsP b i) : Nat) : Int)⟩)) := by
 obtain ⟨s1, s2⟩ := DK wsP b i hi
 unfold AX
 rw [AZ b _ i hi hb, bS]
 dsimp only
 rw [BW b _ _ s2 hb, bS]
 cases h : AF b (sk wsP b i) [61] with
 | false =>
  rw [if_neg (by simp), if_neg (by simp)]
  dsimp only
  rw [AZ b _ _ s2 hb, bS]
 | true =>
  have hl := AT h s2
  rw [if_pos rfl, if_pos rfl]
  dsimp only
  rw [AZ b _ _ hl hb, bS]
  rfl
theorem OG {b : LB} {i : Nat} (hi : i ≤ b.length) (hb : b.length ≤ 1073741824) {s : TS} (h : AX ⟨b, (i : Int)⟩ = some (0, s)) : ∃ j : Nat, s = ⟨b, (j : Int)⟩ ∧ j = sk wsP b (sk wsP b i + 1) ∧ AF b (sk wsP b i) [61] = true ∧ sk wsP b i < j ∧ j ≤ b.length := by
 rw [JD b i hi hb] at h
 split at h
 ·rename_i hc
  obtain ⟨s1, s2⟩ := DK wsP b i hi
  have hl := AT hc s2
  obtain ⟨t1, t2⟩ := DK wsP b _ hl
  have h := sj h
  injection h with _ h
  exact ⟨_, h.symm, rfl, hc, by simp at t1; omega, t2⟩
 ·have h := sj h
  injection h with h _
  cases h
theorem L1 {U V : LB} {n : Nat} (A : Agr U V n) (hU : U.length ≤ 1073741824) (hV : V.length ≤ 1073741824) {i j : Nat} (hi : i ≤ n) (h : AX ⟨U, (i : Int)⟩ = some (0, ⟨U, (j : Int)⟩)) (hj : j < n) : AX ⟨V, (i : Int)⟩ = some (0, ⟨V, (j : Int)⟩) := by
 have h1 := A.u
 have h2 := A.v
 obtain ⟨j', e1, e2, e3, e4, e5⟩ := OG om hU h
 have : j = j' := by injection e1 with _ e1; omega
 subst this
 have k1 : sk wsP V i = sk wsP U i := A.skw om
 have k2 : sk wsP V (sk wsP U i + 1) = sk wsP U (sk wsP U i + 1) := A.skw om
 rw [JD V i om hV, k1, ← A.here so, e3, if_pos rfl, k2, e2]
theorem Lz {U V : LB} {n : Nat} (A : Agr U V n) (hU : U.length ≤ 1073741824) (hV : V.length ≤ 1073741824) {i k j : Nat} {t t' : Tk} {w : LB} (hw : w ≠ []) (hwl : w.length ≤ 100) (hi : i + k ≤ n) (h : Ax ⟨U, (i : Int)⟩ t (k : Int) w = some (0, ⟨U, (j : Int)⟩, t')) (hj : j ≤ n) : Ax ⟨V, (i : Int)⟩ t (k : Int) w = some (0, ⟨V, (j : Int)⟩, t') := by
 have h1 := A.u
 have h2 := A.v
 unfold Ax at h ⊢
 dsimp only at h ⊢
 rw [w64 (x := (i : Int) + (k : Int)) om om, show (i : Int) + (k : Int) = ((i + k : Nat) : Int) by omega, BU om, bS] at h ⊢
 unfold FZ at h ⊢
 rw [if_pos ⟨by rw [lD]; omega, by omega, hw⟩, bS] at h ⊢
 by_cases hn : Lib.index (U.drop (i + k)) w < 0
 ·rw [dT hn, cT] at h
  have h := sj h
  injection h with h _
  cases h
 ·obtain ⟨m, e1⟩ : ∃ m : Nat, Lib.index (U.drop (i + k)) w = (m : Int) := ⟨(Lib.index (U.drop (i + k)) w).toNat, by omega⟩
  obtain ⟨_, e2⟩ := Io e1 hw
  have hwp : 0 < w.length := List.length_pos_iff.2 hw
  rw [lD] at e2
  rw [dF hn, cF, e1, Ew (by rw [lD]; omega), bS, w64 (x := (k : Int) + (m : Int)) om om, w64 (x := (k : Int) + (m : Int) + (w.length : Int)) om om, w64 om om] at h
  have h := sj h
  injection h with _ h
  injection h with h3 h4
  injection h3 with _ h3
  have eV := A.index e1 om
  rw [eV, dF om, cF, Ew (by rw [lD]; omega), bS, w64 (x := (k : Int) + (m : Int)) om om, w64 (x := (k : Int) + (m : Int) + (w.length : Int)) om om, w64 om om, ← A.seg om, h4, h3]
theorem Dn {b b' : LB} {e e' : Int} {j f : Nat} {t t' : Tk} (h : some (e, (⟨b, (j : Int)⟩ : TS), t) = some (e', ⟨b', (f : Int)⟩, t')) : e = e' ∧ j = f ∧ t = t' := by
 have h := sj h
 injection h with h1 h
 injection h with h2 h3
 injection h2 with _ h2
 exact ⟨h1, by omega, h3⟩
theorem Ud (i r : Int) : HZ i i r = ((r != 58) && (!KR r || !F3 r)) := by unfold HZ; rw [beq_self_eq_true, Bool.true_and]
theorem P6 {U V : LB} {n : Nat} (A : Agr U V n) (hU : U.length ≤ 1073741824) (hV : V.length ≤ 1073741824) {i f : Nat} {t t' : Tk} (hi : i + 2 ≤ U.length) (h : AL ⟨U, (i : Int)⟩ t = some (0, ⟨U, (f : Int)⟩, t')) (hf : f ≤ n) :
  i + 4 ≤ f ∧ AL ⟨V, (i : Int)⟩ t = some (0, ⟨V, (f : Int)⟩, t') := by
 have a1 := A.u
 have a2 := A.v
 unfold AL at h ⊢
 dsimp only at h ⊢
 rw [w64 (x := (i : Int) + 2) om om, show (i : Int) + 2 = ((i + 2 : Nat) : Int) by omega] at h ⊢
 obtain ⟨v, e, j, h1, h2, h3, h4, h5⟩ := En U (i + 2) hi hU
 rw [h1, bS] at h
 dsimp only at h
 by_cases he : e = 0
 case neg =>
  rw [show (e != 0) = true by simpa using he, cT] at h
  exact absurd (Dn h).1 he
 subst he
 have h6 := (h5 rfl).2
 obtain ⟨s1, s2⟩ := DK wsP U j h3
 rw [show ((0 : Int) != 0) = false from rfl, cF, AZ U _ j h3 hU, bS, BW U _ _ s2 hU, bS] at h
 cases hh : AF U (sk wsP U j) [62] with
 | false =>
  rw [hh, if_neg (by simp)] at h
  exact absurd (Dn h).1 (by show ¬ (23 : Int) = 0; decide)
 | true =>
  rw [hh, if_pos rfl] at h
  obtain ⟨_, g2, g3⟩ := Dn h
  have g2' : sk wsP U j + 1 = f := g2
  have k1 : sk wsP V j = sk wsP U j := A.skw om
  refine ⟨by omega, ?_⟩
  rw [Im A hU hV om h1 om, bS]
  dsimp only
  rw [show ((0 : Int) != 0) = false from rfl, cF, AZ V _ j om hV, bS, k1, BW V _ _ om hV, bS, ← A.here so, hh, if_pos rfl]
  dsimp only
  rw [← g2', g3]; rfl
theorem SW {U V : LB} {n : Nat} (A : Agr U V n) (hU : U.length ≤ 1073741824) (hV : V.length ≤ 1073741824) {i f : Nat} {t t' : Tk} (hi : i + 2 ≤ U.length) (h : AI ⟨U, (i : Int)⟩ t = some (0, ⟨U, (f : Int)⟩, t')) (hf : f ≤ n) :
  (i + 5 ≤ f ∧ (f = i + 5 → ∃ c, U[i + 3]? = some c ∧ (c = 63 ∨ wsP c = true))) ∧ AI ⟨V, (i : Int)⟩ t = some (0, ⟨V, (f : Int)⟩, t') := by
 have a1 := A.u
 have a2 := A.v
 unfold AI at h ⊢
 dsimp only at h ⊢
 rw [w64 (x := (i : Int) + 2) om om, show (i : Int) + 2 = ((i + 2 : Nat) : Int) by omega] at h ⊢
 obtain ⟨v, e, j, h1, h2, h3, h4, h5⟩ := En U (i + 2) hi hU
 rw [h1, bS] at h
 dsimp only at h
 by_cases he : e = 0
 case neg =>
  rw [show (e != 0) = true by simpa using he, cT] at h
  exact absurd (Dn h).1 he
 subst he
 have h6 := (h5 rfl).2
 rw [show ((0 : Int) != 0) = false from rfl, cF, Iy, bS] at h
 cases hnm : JC v with
 | false => rw [hnm, bF, cT] at h; exact absurd (Dn h).1 dc
 | true =>
 obtain ⟨r, hr⟩ := Mz v om
 rw [hnm, bT, cF, hr, bS] at h
 cases r with
 | true => rw [cT] at h; exact absurd (Dn h).1 dc
 | false =>
 rw [cF, BP U j _ h3, bS] at h
 cases hh : AF U j [63, 62] with
 | true =>
  rw [hh, cT, BW U _ _ h3 hU, hh, if_pos rfl, bS] at h
  obtain ⟨_, g2, g3⟩ := Dn h
  have g2' : j + 2 = f := g2
  refine ⟨⟨by omega, fun hf5 => ⟨63, ?_, .inl rfl⟩⟩, ?_⟩
  ·have := CJ hh
   rw [show j = i + 3 by omega] at this
   exact this
  rw [Im A hU hV om h1 om, bS]
  dsimp only
  rw [show ((0 : Int) != 0) = false from rfl, cF, Iy, bS, hnm, bT, cF, hr, bS, cF, BP V j _ om, bS, ← A.here so, hh, cT, BW V _ _ om hV, ← A.here so, hh, if_pos rfl, bS]
  dsimp only
  rw [← g2', g3]; rfl
 | false =>
  obtain ⟨s1, s2⟩ := DK wsP U j h3
  rw [hh, cF, AZ U _ j h3 hU, bS] at h
  by_cases hs : sk wsP U j = j
  ·rw [show (((sk wsP U j : Nat) : Int) == (j : Int)) = true by simp [hs], cT] at h
   exact absurd (Dn h).1 dc
  rw [show (((sk wsP U j : Nat) : Int) == (j : Int)) = false by rw [bn]; omega, cF] at h
  obtain ⟨e2, k, x, u1, u2, u3⟩ := Gu U (sk wsP U j) 0 ⟨8, t.At, v, t.Pairs, t.Text, t.Refs⟩ [63, 62] (by simp) om hU (by simp)
  rw [show (0 : Int) = ((0 : Nat) : Int) from rfl, u1, bS] at h
  obtain ⟨g1, g2, g3⟩ := Dn h
  subst g1
  have g2' : k = f := g2
  subst g2'
  have hsk := u3 rfl
  have hjl : j < U.length := by omega
  have hws : wsP U[j] = true := by
   rw [Fx hjl] at hs
   split at hs
   ·rename_i hp; exact hp
   ·exact absurd rfl hs
  have k1 : sk wsP V j = sk wsP U j := A.skw om
  have hVh : AF V j [63, 62] = false := by
   rw [Bool.eq_false_iff]
   intro hc
   have hg := CJ hc
   rw [← A.get om, List.getElem?_eq_getElem hjl] at hg
   injection hg with hg
   rw [hg] at hws
   exact absurd hws dc
  refine ⟨⟨by omega, fun hf5 => ?_⟩, ?_⟩
  ·have hj3 : j = i + 3 := by omega
   subst hj3
   exact ⟨U[i + 3], List.getElem?_eq_getElem hjl, .inr hws⟩
  rw [Im A hU hV om h1 om, bS]
  dsimp only
  rw [show ((0 : Int) != 0) = false from rfl, cF, Iy, bS, hnm, bT, cF, hr, bS, cF, BP V j _ om, bS, hVh, cF, AZ V _ j om hV, bS, k1, show (((sk wsP U j : Nat) : Int) == (j : Int)) = false by rw [bn]; omega, cF]
  have := Lz A hU hV (i := sk wsP U j) (k := 0) (j := k) (w := [63, 62]) (by simp) (by simp) om u1 hf
  rw [show (0 : Int) = ((0 : Nat) : Int) from rfl, this, bS]
  rw [← g3]; rfl
theorem Vv (k At : Int) (Nm : LB) (ps : List TP) (Tx : LB) (rf : Int) (x27 x31 : (LB × Int) × TS) (hl : ps.length ≤ 1073741824) (hn : ∀ p ∈ ps, p.Name ≠ x27.1.1) :
  iter (AJ k At Nm ps Tx rf x27 x31) AA (0 : Int) = some (.inl ()) := by
 obtain ⟨o, e, h2⟩ := CA (b := AJ k At Nm ps Tx rf x27 x31) (fun i x => x = (i : Int)) (fun o => o = .inl ()) ps.length (x0 := (0 : Int)) rfl (by
  rintro i _ rec hi rfl
  left
  refine ⟨((i + 1 : Nat) : Int), ?_, rfl⟩
  unfold AJ
  rw [dT om, cT, Bw hi, bS, show (ps[i].Name == x27.1.1) = false by simpa using hn _ (List.getElem_mem hi), cF, w64 om om]; rfl) (by
  rintro _ rec rfl
  refine ⟨_, ?_, rfl⟩
  unfold AJ
  rw [dF om, cF]) (n := AA) (by unfold AA; omega)
 rw [e, h2]
theorem Mf {U V : LB} {n : Nat} (A : Agr U V n) (hU : U.length ≤ 1073741824) (hV : V.length ≤ 1073741824) (At : Int) (Nm Tx : LB) (rf : Int) (f : Nat) (t' : Tk) (hf : f ≤ n) :
  ∀ (m j : Nat) (ps : List TP) (y z : LB), j ≤ U.length → ps.length ≤ j → iter Al m (U, (j : Int), (2 : Int), At, Nm, ps, Tx, rf, y, z) = some (0, ⟨U, (f : Int)⟩, t') →
   j < f ∧ iter Al m (V, (j : Int), (2 : Int), At, Nm, ps, Tx, rf, y, z) = some (0, ⟨V, (f : Int)⟩, t')
 | 0, j, ps, y, z, _, _, h => by cases h
 | m + 1, j, ps, y, z, g2, g3, h => by
  have a1 := A.u
  have a2 := A.v
  have hl1 : ∀ (b : LB) (rec), Al rec (b, (j : Int), (2 : Int), At, Nm, ps, Tx, rf, y, z) = Al rec (b, (j : Int), (2 : Int), At, Nm, ps, Tx, rf, y, z) := fun _ _ => rfl
  have e1 : ∀ (b : LB), iter Al (m + 1) (b, (j : Int), (2 : Int), At, Nm, ps, Tx, rf, y, z) = Al (iter Al m) (b, (j : Int), (2 : Int), At, Nm, ps, Tx, rf, y, z) := fun _ => rfl
  rw [e1] at h ⊢
  generalize hI : iter Al m = I at h ⊢
  unfold Al at h ⊢
  dsimp only at h ⊢
  obtain ⟨s1, s2⟩ := DK wsP U j g2
  rw [AZ U (j : Int) j g2 hU, bS, BP U _ _ s2, bS] at h
  cases c1 : AF U (sk wsP U j) [47, 62] with
  | true =>
   rw [c1, cT, BW U _ _ s2 hU, c1, if_pos rfl, bS] at h
   obtain ⟨_, q2, q3⟩ := Dn h
   have q2' : sk wsP U j + 2 = f := q2
   have k1 : sk wsP V j = sk wsP U j := A.skw om
   refine ⟨by omega, ?_⟩
   rw [AZ V (j : Int) j om hV, bS, k1, BP V _ _ om, bS, ← A.here so, c1, cT, BW V _ _ om hV, ← A.here so, c1, if_pos rfl, bS]
   dsimp only
   rw [← q2', q3]; rfl
  | false =>
  rw [c1, cF, BP U _ _ s2, bS] at h
  cases c2 : AF U (sk wsP U j) [62] with
  | true =>
   rw [c2, cT, BW U _ _ s2 hU, c2, if_pos rfl, bS] at h
   obtain ⟨_, q2, q3⟩ := Dn h
   have q2' : sk wsP U j + 1 = f := q2
   have k1 : sk wsP V j = sk wsP U j := A.skw om
   have c2V : AF V (sk wsP U j) [62] = true := by rw [← A.here so]; exact c2
   have c1V : AF V (sk wsP U j) [47, 62] = false := by
    rw [Bool.eq_false_iff]; intro hc
    have := (CJ hc).symm.trans (CJ c2V)
    exact absurd this dc
   refine ⟨by omega, ?_⟩
   rw [AZ V (j : Int) j om hV, bS, k1, BP V _ _ om, bS, c1V, cF, BP V _ _ om, bS, c2V, cT, BW V _ _ om hV, c2V, if_pos rfl, bS]
   dsimp only
   rw [← q2', q3]; rfl
  | false =>
  rw [c2, cF] at h
  by_cases c3 : sk wsP U j = j
  ·rw [show (((sk wsP U j : Nat) : Int) == (j : Int)) = true by simp [c3], cT] at h
   exact absurd (Dn h).1 dc
  have c3' : (((sk wsP U j : Nat) : Int) == (j : Int)) = false := by rw [bn]; omega
  obtain ⟨nm, e1, k1, n1, n2, n3, n4, n5⟩ := En U (sk wsP U j) s2 hU
  rw [c3', cF, n1, bS] at h
  dsimp only at h
  by_cases ce1 : e1 = 0
  case neg =>
   rw [show (e1 != 0) = true by simpa using ce1, cT] at h
   exact absurd (Dn h).1 ce1
  subst ce1
  have n6 := (n5 rfl).2
  rw [show ((0 : Int) != 0) = false from rfl, cF] at h
  obtain ⟨e2, k2, r1, r2, r3⟩ := GU U k1 n3 hU
  rw [r1, bS] at h
  dsimp only at h
  by_cases ce2 : e2 = 0
  case neg =>
   rw [show (e2 != 0) = true by simpa using ce2, cT] at h
   exact absurd (Dn h).1 ce2
  subst ce2
  obtain ⟨rv, e3, k3, w1, w2, w3, w4, w5⟩ := FM U k2 r3 hU
  rw [show ((0 : Int) != 0) = false from rfl, cF, w1, bS] at h
  dsimp only at h
  by_cases ce3 : e3 = 0
  case neg =>
   rw [show (e3 != 0) = true by simpa using ce3, cT] at h
   exact absurd (Dn h).1 ce3
  subst ce3
  have w6 := w5 rfl
  obtain ⟨rd, hrd⟩ := GW rv true om
  have hrv : BO rv = some (rd.1, rd.2.1, rd.2.2) := by unfold BO; rw [hrd]; rfl
  rw [show ((0 : Int) != 0) = false from rfl, cF, hrv, bS] at h
  dsimp only at h
  by_cases ce4 : rd.2.2 = 0
  case neg =>
   rw [show (rd.2.2 != 0) = true by simpa using ce4, cT] at h
   exact absurd (Dn h).1 ce4
  rw [show (rd.2.2 != 0) = false by simpa using ce4, cF] at h
  simp only [Av] at h
  obtain ⟨o, l1, l2⟩ := SM 2 At Nm ps Tx rf ((nm, 0), ⟨U, (k1 : Int)⟩) ((rv, 0), ⟨U, (k3 : Int)⟩) om
  rw [l1, bS] at h
  rcases l2 with ⟨rfl, hno⟩ | rfl
  case inr => exact absurd (Dn h).1 dc
  dsimp only at h
  rw [Ct so so, bS, bS, ← hI] at h
  obtain ⟨p1, p2⟩ := Mf A hU hV At Nm Tx rf f t' hf m k3 _ nm rd.1 w3 so h
  have kk : sk wsP V j = sk wsP U j := A.skw om
  have hsl : sk wsP U j < U.length := by omega
  have hd1 : AF V (sk wsP U j) [47, 62] = false := by
   rw [Bool.eq_false_iff]; intro hc
   have hg := CJ hc
   rw [← A.get om] at hg
   exact absurd (OP s2 hU n1 hg dc) (by rw [Ud]; decide)
  have hd2 : AF V (sk wsP U j) [62] = false := by
   rw [Bool.eq_false_iff]; intro hc
   have hg := CJ hc
   rw [← A.get om] at hg
   exact absurd (OP s2 hU n1 hg dc) (by rw [Ud]; decide)
  refine ⟨by omega, ?_⟩
  rw [AZ V (j : Int) j om hV, bS, kk, BP V _ _ om, bS, hd1, cF, BP V _ _ om, bS, hd2, cF, c3', cF, Im A hU hV s2 n1 om, bS]
  dsimp only
  rw [show ((0 : Int) != 0) = false from rfl, cF, L1 A hU hV om r1 om, bS]
  dsimp only
  rw [show ((0 : Int) != 0) = false from rfl, cF, L4 A hU hV om w1 om, bS]
  dsimp only
  rw [show ((0 : Int) != 0) = false from rfl, cF, hrv, bS]
  dsimp only
  rw [show (rd.2.2 != 0) = false by simpa using ce4, cF]
  simp only [Av]
  rw [Vv 2 At Nm ps Tx rf ((nm, 0), ⟨V, (k1 : Int)⟩) ((rv, 0), ⟨V, (k3 : Int)⟩) om hno, bS]
  dsimp only
  rw [Ct so so, bS, bS, ← hI, p2]
theorem XP {U V : LB} {n : Nat} (A : Agr U V n) (hU : U.length ≤ 1073741824) (hV : V.length ≤ 1073741824) {i f : Nat} {t t' : Tk} (hi : i + 1 ≤ U.length) (hp : t.Pairs = []) (h : A1 ⟨U, (i : Int)⟩ t = some (0, ⟨U, (f : Int)⟩, t')) (hf : f ≤ n) :
  i + 3 ≤ f ∧ A1 ⟨V, (i : Int)⟩ t = some (0, ⟨V, (f : Int)⟩, t') := by
 have a1 := A.u
 have a2 := A.v
 unfold A1 at h ⊢
 dsimp only at h ⊢
 rw [w64 (x := (i : Int) + 1) om om, show (i : Int) + 1 = ((i + 1 : Nat) : Int) by omega] at h ⊢
 obtain ⟨v, e, j, h1, h2, h3, h4, h5⟩ := En U (i + 1) hi hU
 rw [h1, bS] at h
 dsimp only at h
 by_cases he : e = 0
 case neg =>
  rw [show (e != 0) = true by simpa using he, cT] at h
  exact absurd (Dn h).1 he
 subst he
 have h6 := (h5 rfl).2
 have hbind : ∀ o : Option (Int × TS × TK), (o.bind fun x => some x) = o := fun o => by cases o <;> rfl
 rw [show ((0 : Int) != 0) = false from rfl, cF, hbind] at h
 obtain ⟨p1, p2⟩ := Mf A hU hV t.At v t.Text t.Refs f t' hf AA j t.Pairs [] [] h3 (by rw [hp]; exact Nat.zero_le _) h
 refine ⟨by omega, ?_⟩
 rw [Im A hU hV om h1 om, bS]
 dsimp only
 rw [show ((0 : Int) != 0) = false from rfl, cF, hbind, p2]
theorem PF {P : UInt8 → Bool} {s : LB} : ∀ (d j : Nat), j + d ≤ s.length → sk P s j ≤ sk P s (j + d)
 | 0, j, _ => Nat.le_refl _
 | d + 1, j, h => by
  have h1 := PF (P := P) (s := s) d (j + 1) om
  have h2 := (DK P s (j + 1) om).1
  rw [Fx (by omega : j < s.length)]
  rw [show j + (d + 1) = j + 1 + d by omega]
  split <;> omega
theorem DL : ∀ {w : LB} {b : LB} {i : Nat} (k : Nat), AF b i w = true → k < w.length → b[i + k]? = w[k]?
 | w, b, i, k, h, hk => by
  unfold AF at h
  rw [List.isPrefixOf_iff_prefix] at h
  obtain ⟨r, hr⟩ := h
  rw [← List.getElem?_drop, ← hr, List.getElem?_append_left hk]
def HdP (k : Nat) (c : UInt8) : Prop := c = 63 ∨ (k ≤ 0 ∧ c = 118) ∨ (k ≤ 1 ∧ c = 101) ∨ (k ≤ 2 ∧ c = 115)
theorem Yn {k : Nat} {c : UInt8} (h : HdP (k + 1) c) : HdP k c := by
 rcases h with h | ⟨a, h⟩ | ⟨a, h⟩ | ⟨a, h⟩
 ·exact .inl h
 ·omega
 ·exact .inr (.inr (.inl ⟨by omega, h⟩))
 ·exact .inr (.inr (.inr ⟨by omega, h⟩))
theorem Q7 (k : Nat) (hk : k < 3) : ∃ w c, idx DeclW (k : Int) = some w ∧ w.length ≤ 10 ∧ 1 ≤ w.length ∧ w[0]? = some c ∧ HdP k c ∧ ¬ HdP (k + 1) c := by
 have h : k = 0 ∨ k = 1 ∨ k = 2 := by omega
 rcases h with rfl | rfl | rfl
 ·exact ⟨_, _, rfl, by decide, by decide, rfl, .inr (.inl ⟨by omega, rfl⟩), by unfold HdP; simp⟩
 ·exact ⟨_, _, rfl, by decide, by decide, rfl, .inr (.inr (.inl ⟨by omega, rfl⟩)), by unfold HdP; simp⟩
 ·exact ⟨_, _, rfl, by decide, by decide, rfl, .inr (.inr (.inr ⟨by omega, rfl⟩)), by unfold HdP; simp⟩
theorem Ip {U V : LB} {n : Nat} (A : Agr U V n) (hU : U.length ≤ 1073741824) (hV : V.length ≤ 1073741824) (At : Int) (Nm Tx : LB) (rf : Int) (jl : Nat) (la' : LB) (ps' : List TP) (hjl : jl ≤ U.length) (hend : AF U (sk wsP U jl) [63, 62] = true) (hf : sk wsP U jl + 2 ≤ n) :
  ∀ (m j k : Nat) (ps : List TP) (la : LB), j ≤ U.length → k ≤ 3 → ps.length ≤ k → iter Ar m (U, (j : Int), (1 : Int), At, Nm, ps, Tx, rf, la, (k : Int)) = some (.inl (U, (jl : Int), la', (1 : Int), At, Nm, ps', Tx, rf)) →
   j ≤ jl ∧ (∃ c, U[sk wsP U j]? = some c ∧ HdP k c) ∧ iter Ar m (V, (j : Int), (1 : Int), At, Nm, ps, Tx, rf, la, (k : Int)) = some (.inl (V, (jl : Int), la', (1 : Int), At, Nm, ps', Tx, rf))
 | 0, j, k, ps, la, _, _, _, h => by cases h
 | m + 1, j, k, ps, la, g2, g3, g5, h => by
  have a1 := A.u
  have a2 := A.v
  have e1 : ∀ (b : LB), iter Ar (m + 1) (b, (j : Int), (1 : Int), At, Nm, ps, Tx, rf, la, (k : Int)) = Ar (iter Ar m) (b, (j : Int), (1 : Int), At, Nm, ps, Tx, rf, la, (k : Int)) := fun _ => rfl
  rw [e1] at h ⊢
  generalize hI : iter Ar m = I at h ⊢
  by_cases hk : k < 3
  case neg =>
   have hkf : decide ((k : Int) < (DeclW.length : Int)) = false := dF (show ¬ (k : Int) < ((3 : Nat) : Int) by omega)
   unfold Ar at h ⊢
   dsimp only at h ⊢
   rw [hkf, cF] at h ⊢
   have h' := Sum.inl.inj (sj h)
   have q1 : (j : Int) = (jl : Int) := congrArg (fun x => x.2.1) h'
   have q1' : j = jl := by omega
   subst q1'
   refine ⟨Nat.le_refl _, ⟨63, CJ hend, .inl rfl⟩, ?_⟩
   have q2 : la = la' := congrArg (fun x => x.2.2.1) h'
   have q3 : ps = ps' := congrArg (fun x => x.2.2.2.2.2.2.1) h'
   rw [q2, q3]
  have hkt : decide ((k : Int) < (DeclW.length : Int)) = true := dT (show (k : Int) < ((3 : Nat) : Int) by omega)
  have hk1 : IntKind.wrap .i64 ((k : Int) + 1) = ((k + 1 : Nat) : Int) := by rw [w64 om om]; omega
  obtain ⟨w, c, hidx, w1, w2, wc, wh, wn⟩ := Q7 k hk
  obtain ⟨s1, s2⟩ := DK wsP U j g2
  unfold Ar at h ⊢
  dsimp only at h ⊢
  rw [hkt, cT] at h ⊢
  simp only [Av] at h ⊢
  rw [hidx, bS] at h ⊢
  rw [AZ U _ j g2 hU, bS] at h
  have skip : cond (w == ([118, 101, 114, 115, 105, 111, 110] : LB))
     (some (.inr ((23 : Int), (⟨U, (j : Int)⟩ : TS), (⟨1, At, Nm, ps, Tx, rf⟩ : TK))))
     (I (U, (j : Int), (1 : Int), At, Nm, ps, Tx, rf, la, IntKind.wrap .i64 ((k : Int) + 1))) = some (.inl (U, (jl : Int), la', (1 : Int), At, Nm, ps', Tx, rf)) →
    (w == ([118, 101, 114, 115, 105, 111, 110] : LB)) = false ∧ j ≤ jl ∧ (∃ c, U[sk wsP U j]? = some c ∧ HdP (k + 1) c) ∧ I (V, (j : Int), (1 : Int), At, Nm, ps, Tx, rf, la, IntKind.wrap .i64 ((k : Int) + 1)) = some (.inl (V, (jl : Int), la', (1 : Int), At, Nm, ps', Tx, rf)) := by
   intro hh
   cases hv : w == ([118, 101, 114, 115, 105, 111, 110] : LB) with
   | true => rw [hv, cT] at hh; cases hh
   | false =>
    rw [hv, cF, hk1, ← hI] at hh
    obtain ⟨p1, p2, p3⟩ := Ip A hU hV At Nm Tx rf jl la' ps' hjl hend hf m j (k + 1) ps la g2 om om hh
    rw [hk1, ← hI]
    exact ⟨rfl, p1, p2, p3⟩
  by_cases c3 : sk wsP U j = j
  ·have c3' : (((sk wsP U j : Nat) : Int) == (j : Int)) = true := by simp [c3]
   rw [c3', cT, cT] at h
   obtain ⟨p0, p1, ⟨c', p2, p2'⟩, p3⟩ := skip h
   have hm := PF (P := wsP) (s := U) (jl - j) j om
   rw [show j + (jl - j) = jl by omega] at hm
   have kk : sk wsP V j = sk wsP U j := A.skw om
   refine ⟨p1, ⟨c', p2, Yn p2'⟩, ?_⟩
   rw [AZ V _ j om hV, bS, kk, c3', cT, cT, p0, cF, p3]
  have c3' : (((sk wsP U j : Nat) : Int) == (j : Int)) = false := by rw [bn]; omega
  rw [c3', cF, BU s2, bS, Cr, bS] at h
  cases hh : AF U (sk wsP U j) w with
  | false =>
   have hh' : w.isPrefixOf (U.drop (sk wsP U j)) = false := hh
   rw [hh', bF, cT] at h
   obtain ⟨p0, p1, ⟨c', p2, p2'⟩, p3⟩ := skip h
   have hm := PF (P := wsP) (s := U) (jl - j) j om
   rw [show j + (jl - j) = jl by omega] at hm
   have kk : sk wsP V j = sk wsP U j := A.skw om
   have hVh : AF V (sk wsP U j) w = false := by
    rw [Bool.eq_false_iff]; intro hc
    have hg := DL 0 hc om
    rw [Nat.add_zero, wc, ← A.get om, p2] at hg
    injection hg with hg
    subst hg
    exact wn p2'
   have hVh' : w.isPrefixOf (V.drop (sk wsP U j)) = false := hVh
   refine ⟨p1, ⟨c', p2, Yn p2'⟩, ?_⟩
   rw [AZ V _ j om hV, bS, kk, c3', cF, BU om, bS, Cr, bS, hVh', bF, cT, p0, cF, p3]
  | true =>
   have hh' : w.isPrefixOf (U.drop (sk wsP U j)) = true := hh
   have hl := AT hh s2
   have hadd : IntKind.wrap .i64 (((sk wsP U j : Nat) : Int) + (w.length : Int)) = ((sk wsP U j + w.length : Nat) : Int) := by rw [w64 om om]; omega
   obtain ⟨e2, k2, q1, q2, q3⟩ := GU U (sk wsP U j + w.length) hl hU
   rw [hh', bT, cF, hadd, q1, bS] at h
   dsimp only at h
   by_cases ce2 : e2 = 0
   case neg => rw [show (e2 != 0) = true by simpa using ce2, cT] at h; cases h
   subst ce2
   obtain ⟨rv, e3, k3, u1, u2, u3, u4, u5⟩ := FM U k2 q3 hU
   rw [show ((0 : Int) != 0) = false from rfl, cF, u1, bS] at h
   dsimp only at h
   by_cases ce3 : e3 = 0
   case neg => rw [show (e3 != 0) = true by simpa using ce3, cT, cT] at h; cases h
   subst ce3
   have u6 := u5 rfl
   obtain ⟨r, hr, _⟩ := P3 w rv om
   rw [show ((0 : Int) != 0) = false from rfl, cF, hr, bS] at h
   cases r with
   | false => rw [bF, cT] at h; cases h
   | true =>
   rw [bT, cF, Ct so so, bS, bS, hk1] at h
   have go : ∀ la2, I (U, (k3 : Int), (1 : Int), At, Nm, ps ++ [(⟨w, rv⟩ : TP)], Tx, rf, la2, ((k + 1 : Nat) : Int)) = some (.inl (U, (jl : Int), la', (1 : Int), At, Nm, ps', Tx, rf)) →
     k3 ≤ jl ∧ I (V, (k3 : Int), (1 : Int), At, Nm, ps ++ [(⟨w, rv⟩ : TP)], Tx, rf, la2, ((k + 1 : Nat) : Int)) = some (.inl (V, (jl : Int), la', (1 : Int), At, Nm, ps', Tx, rf)) := by
    intro la2 hg
    rw [← hI] at hg ⊢
    obtain ⟨p1, _, p3⟩ := Ip A hU hV At Nm Tx rf jl la' ps' hjl hend hf m k3 (k + 1) _ la2 u3 om so hg
    exact ⟨p1, p3⟩
   suffices hfin : k3 ≤ jl ∧ cond (w == ([101, 110, 99, 111, 100, 105, 110, 103] : LB)) (I (V, (k3 : Int), (1 : Int), At, Nm, ps ++ [(⟨w, rv⟩ : TP)], Tx, rf, rv, ((k + 1 : Nat) : Int))) (I (V, (k3 : Int), (1 : Int), At, Nm, ps ++ [(⟨w, rv⟩ : TP)], Tx, rf, la, ((k + 1 : Nat) : Int))) = some (.inl (V, (jl : Int), la', (1 : Int), At, Nm, ps', Tx, rf)) by
    obtain ⟨hk3, hV3⟩ := hfin
    have hsj := (DK wsP U jl hjl).1
    have kk : sk wsP V j = sk wsP U j := A.skw om
    have hVh' : w.isPrefixOf (V.drop (sk wsP U j)) = true := by
     have : AF V (sk wsP U j) w = true := by rw [← A.here om]; exact hh
     exact this
    refine ⟨by omega, ⟨c, ?_, wh⟩, ?_⟩
    ·have := DL 0 hh om
     rw [Nat.add_zero, wc] at this
     exact this
    rw [AZ V _ j om hV, bS, kk, c3', cF, BU om, bS, Cr, bS, hVh', bT, cF, hadd, L1 A hU hV om q1 om, bS]
    dsimp only
    rw [show ((0 : Int) != 0) = false from rfl, cF, L4 A hU hV om u1 om, bS]
    dsimp only
    rw [show ((0 : Int) != 0) = false from rfl, cF, hr, bS, bT, cF, Ct so so, bS, bS, hk1]
    exact hV3
   cases he : w == ([101, 110, 99, 111, 100, 105, 110, 103] : LB) with
   | true =>
    rw [he, cT] at h
    rw [cT]
    exact go rv h
   | false =>
    rw [he, cF] at h
    rw [cF]
    exact go la h
theorem UT {U V : LB} {n : Nat} (A : Agr U V n) (hU : U.length ≤ 1073741824) (hV : V.length ≤ 1073741824) {f : Nat} {t t' : Tk} (h5 : 5 ≤ U.length) (hp : t.Pairs = []) (h : BK ⟨U, (0 : Int)⟩ t = some (0, ⟨U, (f : Int)⟩, t')) (hf : f ≤ n) :
  7 ≤ f ∧ BK ⟨V, (0 : Int)⟩ t = some (0, ⟨V, (f : Int)⟩, t') := by
 have a1 := A.u
 have a2 := A.v
 unfold BK at h ⊢
 simp only [Av] at h ⊢
 rw [hp] at h ⊢
 obtain ⟨o, e1, e2⟩ := Px U t.At t.Name t.Text t.Refs h5 hU
 rw [e1, bS] at h
 rcases e2 with ⟨j, ps, la, rfl, h1, h2, h3, h7, h4, h6⟩ | ⟨j, t'', rfl, h1⟩
 case inr => exact absurd (Dn h).1 dc
 dsimp only at h
 obtain ⟨s1, s2⟩ := DK wsP U j h2
 rw [AZ U _ j h2 hU, bS, BW U _ _ s2 hU] at h
 cases hh : AF U (sk wsP U j) [63, 62] with
 | false =>
  rw [hh, if_neg (by simp), bS] at h
  exact absurd (Dn h).1 (by show ¬ (23 : Int) = 0; decide)
 | true =>
  have hl := AT hh s2
  rw [hh, if_pos rfl, bS] at h
  dsimp only at h
  rw [show ((0 : Int) != 0) = false from rfl, cF] at h
  have core : sk wsP U j + 2 = f → 7 ≤ f ∧ (iter Ar AA (V, (5 : Int), (1 : Int), t.At, t.Name, ([] : List TP), t.Text, t.Refs, ([] : LB), (0 : Int)) = some (.inl (V, (j : Int), la, (1 : Int), t.At, t.Name, ps, t.Text, t.Refs))) ∧ sk wsP V j = sk wsP U j ∧ j ≤ V.length ∧ AF V (sk wsP U j) [63, 62] = true := by
   intro hf2
   obtain ⟨p1, p2, p3⟩ := Ip A hU hV t.At t.Name t.Text t.Refs j la ps h2 hh om AA 5 0 [] [] h5 om (Nat.le_refl _) e1
   exact ⟨by omega, p3, A.skw om, by omega, by rw [← A.here so]; exact hh⟩
  cases hla : la == ([] : LB) with
  | true =>
   rw [hla, bT, cF, cF] at h
   obtain ⟨_, g2, g3⟩ := Dn h
   obtain ⟨c0, c1, c2, c3, c4⟩ := core g2
   refine ⟨c0, ?_⟩
   rw [c1, bS]
   dsimp only
   rw [AZ V _ j c3 hV, bS, c2, BW V _ _ om hV, c4, if_pos rfl, bS]
   dsimp only
   rw [show ((0 : Int) != 0) = false from rfl, cF, hla, bT, cF, cF, ← g2, g3]
  | false =>
   obtain ⟨r, hr⟩ := O7 la [117, 116, 102, 45, 56] h4 (by simp) h6 dc
   rw [hla, bF, cT, hr, bS] at h
   cases r with
   | false => rw [bF, cT] at h; exact absurd (Dn h).1 dc
   | true =>
    rw [bT, cF] at h
    obtain ⟨_, g2, g3⟩ := Dn h
    obtain ⟨c0, c1, c2, c3, c4⟩ := core g2
    refine ⟨c0, ?_⟩
    rw [c1, bS]
    dsimp only
    rw [AZ V _ j c3 hV, bS, c2, BW V _ _ om hV, c4, if_pos rfl, bS]
    dsimp only
    rw [show ((0 : Int) != 0) = false from rfl, cF, hla, bF, cT, hr, bS, bT, cF, ← g2, g3]
abbrev DC (i : Int) : Tk := ⟨(0 : Int), i, ([] : LB), ([] : List TP), ([] : LB), (0 : Int)⟩
abbrev Ni (k i : Int) : Tk := ⟨k, i, ([] : LB), ([] : List TP), ([] : LB), (0 : Int)⟩
def Ft (b : LB) (i : Nat) : Option (Int × TS × Tk) :=
 cond (AF b i [60, 33, 45, 45])
  ((Ax ⟨b, (i : Int)⟩ (Ni 7 i) (4 : Int) ([45, 45] : LB)).bind fun x14 => cond (x14.1 != (0 : Int)) (some x14) ((A8 x14.2.1 ([62] : LB)).bind fun x17 => some (x17.1, x17.2, x14.2.2)))
 (cond (AF b i [60, 33, 91, 67, 68, 65, 84, 65, 91]) (Ax ⟨b, (i : Int)⟩ (Ni 6 i) (9 : Int) ([93, 93, 62] : LB))
 (cond (AF b i [60, 33, 68, 79, 67, 84, 89, 80, 69]) (some (25, ⟨b, (i : Int)⟩, DC i))
 (cond (AF b i [60, 33]) (some (23, ⟨b, (i : Int)⟩, DC i))
 (cond (AF b i [60, 63]) (AI ⟨b, (i : Int)⟩ (DC i))
 (cond (AF b i [60, 47]) (AL ⟨b, (i : Int)⟩ (DC i))
 (cond (AF b i [60]) (A1 ⟨b, (i : Int)⟩ (DC i)) (BJ ⟨b, (i : Int)⟩ (DC i))))))))
def Fh (b : LB) (i : Nat) : Bool := decide (i = 0) && (AF b 0 [60, 63, 120, 109, 108] && decide (5 < sk wsP b 5))
theorem KV (o : Option (Int × TS × TK)) : (o.bind fun x => some (x.1, x.2.1, x.2.2)) = o := by cases o <;> rfl
theorem F6 (b : LB) (i : Nat) (hi : i ≤ b.length) (hb : b.length ≤ 1073741824) : An ⟨b, (i : Int)⟩ (DC i) = cond (Fh b i) (BK ⟨b, (0 : Int)⟩ (DC 0)) (Ft b i) := by
 have rest : ((Aq (⟨b, (i : Int)⟩ : TS) ([60, 33, 45, 45] : LB)).bind fun x12 =>
    cond x12
    ((Ax ⟨b, (i : Int)⟩ (⟨(7 : Int), (i : Int), ([] : LB), ([] : List TP), ([] : LB), (0 : Int)⟩ : TK) (4 : Int) ([45, 45] : LB)).bind fun x14 =>
    cond (x14.1 != (0 : Int))
     (some (x14.1, x14.2.1, x14.2.2))
     ((A8 x14.2.1 ([62] : LB)).bind fun x17 =>
     some (x17.1, x17.2, x14.2.2)))
    ((Aq (⟨b, (i : Int)⟩ : TS) ([60, 33, 91, 67, 68, 65, 84, 65, 91] : LB)).bind fun x18 =>
    cond x18
     ((Ax ⟨b, (i : Int)⟩ (⟨(6 : Int), (i : Int), ([] : LB), ([] : List TP), ([] : LB), (0 : Int)⟩ : TK) (9 : Int) ([93, 93, 62] : LB)).bind fun x20 =>
     some (x20.1, x20.2.1, x20.2.2))
     ((Aq (⟨b, (i : Int)⟩ : TS) ([60, 33, 68, 79, 67, 84, 89, 80, 69] : LB)).bind fun x22 =>
     cond x22
     (some ((25 : Int), (⟨b, (i : Int)⟩ : TS), (⟨(0 : Int), (i : Int), ([] : LB), ([] : List TP), ([] : LB), (0 : Int)⟩ : TK)))
     ((Aq (⟨b, (i : Int)⟩ : TS) ([60, 33] : LB)).bind fun x24 =>
     cond x24
      (some ((23 : Int), (⟨b, (i : Int)⟩ : TS), (⟨(0 : Int), (i : Int), ([] : LB), ([] : List TP), ([] : LB), (0 : Int)⟩ : TK)))
      ((Aq (⟨b, (i : Int)⟩ : TS) ([60, 63] : LB)).bind fun x26 =>
      cond x26
      ((AI (⟨b, (i : Int)⟩ : TS) ⟨(0 : Int), (i : Int), ([] : LB), ([] : List TP), ([] : LB), (0 : Int)⟩).bind fun x28 =>
      some (x28.1, x28.2.1, x28.2.2))
      ((Aq (⟨b, (i : Int)⟩ : TS) ([60, 47] : LB)).bind fun x30 =>
      cond x30
       ((AL (⟨b, (i : Int)⟩ : TS) ⟨(0 : Int), (i : Int), ([] : LB), ([] : List TP), ([] : LB), (0 : Int)⟩).bind fun x32 =>
       some (x32.1, x32.2.1, x32.2.2))
       ((Aq (⟨b, (i : Int)⟩ : TS) ([60] : LB)).bind fun x34 =>
       cond x34
       ((A1 (⟨b, (i : Int)⟩ : TS) ⟨(0 : Int), (i : Int), ([] : LB), ([] : List TP), ([] : LB), (0 : Int)⟩).bind fun x36 =>
       some (x36.1, x36.2.1, x36.2.2))
       ((BJ (⟨b, (i : Int)⟩ : TS) ⟨(0 : Int), (i : Int), ([] : LB), ([] : List TP), ([] : LB), (0 : Int)⟩).bind fun x38 =>
       some (x38.1, x38.2.1, x38.2.2))))))))) = Ft b i := by
  simp only [BP b i _ hi, bS, KV]
  rfl
 unfold An
 simp only [Av]
 unfold Fh
 by_cases h0 : i = 0
 ·subst h0
  rw [show (((0 : Nat) : Int) == (0 : Int)) = true from rfl, cT, BP b 0 _ hi, bS, dT (rfl : (0 : Nat) = 0), Bool.true_and]
  cases c0 : AF b 0 [60, 63, 120, 109, 108] with
  | false => rw [cF, cF, Bool.false_and, cF]; exact rest
  | true =>
   have hl := AT c0 hi
   have h5 : 5 ≤ b.length := by simpa using hl
   rw [cT, show (5 : Int) = ((5 : Nat) : Int) from rfl, AZ b _ 5 h5 hb, bS, Bool.true_and]
   by_cases h5' : 5 < sk wsP b 5
   ·rw [dT (show (((5 : Nat) : Int) < ((sk wsP b 5 : Nat) : Int)) by omega), dT h5', cT, cT, KV]; rfl
   ·rw [dF (show ¬ (((5 : Nat) : Int) < ((sk wsP b 5 : Nat) : Int)) by omega), dF h5', cF, cF]; exact rest
 ·rw [show ((i : Int) == (0 : Int)) = false by rw [bn]; omega, cF, cF, dF h0, Bool.false_and, cF]
  exact rest
theorem D1 {b : LB} {i : Nat} {c d e : UInt8} {w : LB} (h : b[i + 1]? = some d) (hne : e ≠ d) : AF b i (c :: e :: w) = false := by
 rw [Bool.eq_false_iff]; intro hc
 have := DL 1 hc (by simp)
 rw [h] at this
 simp at this
 exact hne this.symm
theorem LK {b : LB} {i : Nat} {c d : UInt8} (h0 : b[i]? = some c) (h1 : b[i + 1]? = some d) : AF b i [c, d] = true := by
 unfold AF
 obtain ⟨l1, e1⟩ := List.getElem?_eq_some_iff.1 h0
 obtain ⟨l2, e2⟩ := List.getElem?_eq_some_iff.1 h1
 rw [List.drop_eq_getElem_cons l1, List.drop_eq_getElem_cons l2, e1, e2]
 simp [List.isPrefixOf]
theorem UI {U V : LB} {n : Nat} (A : Agr U V n) (hU : U.length ≤ 1073741824) (hV : V.length ≤ 1073741824) {i f : Nat} {t' : Tk} (hi : i < U.length) (h60 : U[i]? = some 60) (h : Ft U i = some (0, ⟨U, (f : Int)⟩, t')) (hf : f ≤ n) :
  (i + 3 ≤ f ∧ (U[i + 1]? = some 63 → i + 5 ≤ f ∧ (f = i + 5 → ∃ c, U[i + 3]? = some c ∧ (c = 63 ∨ wsP c = true)))) ∧ Ft V i = some (0, ⟨V, (f : Int)⟩, t') := by
 have a1 := A.u
 have a2 := A.v
 have hle : i ≤ U.length := Nat.le_of_lt hi
 unfold Ft at h ⊢
 cases c1 : AF U i [60, 33, 45, 45] with
 | true =>
  have hl := AT c1 hle
  obtain ⟨e, j, x, u1, u2, u3⟩ := Gu U i 4 (Ni 7 i) [45, 45] (by simp) (by simpa using hl) hU (by simp)
  rw [c1, cT, show (4 : Int) = ((4 : Nat) : Int) from rfl, u1, bS] at h
  dsimp only at h
  by_cases he : e = 0
  case neg =>
   rw [show (e != 0) = true by simpa using he, cT] at h
   exact absurd (Dn h).1 he
  subst he
  have u4 := u3 rfl
  rw [show ((0 : Int) != 0) = false from rfl, cF, BW U j _ u2 hU] at h
  cases hh : AF U j [62] with
  | false =>
   rw [hh, if_neg (by simp), bS] at h
   exact absurd (Dn h).1 (by show ¬ (23 : Int) = 0; decide)
  | true =>
   rw [hh, if_pos rfl, bS] at h
   obtain ⟨_, g2, g3⟩ := Dn h
   have g2' : j + 1 = f := g2
   refine ⟨⟨by omega, fun hc => ?_⟩, ?_⟩
   ·have := DL 1 c1 (by simp)
    rw [hc] at this; simp at this
   have := Lz A hU hV (i := i) (k := 4) (j := j) (w := [45, 45]) (by simp) (by simp) om u1 om
   rw [← A.here so, c1, cT, show (4 : Int) = ((4 : Nat) : Int) from rfl, this, bS]
   dsimp only
   rw [show ((0 : Int) != 0) = false from rfl, cF, BW V j _ om hV, ← A.here so, hh, if_pos rfl, bS]
   dsimp only
   rw [← g2', ← g3]; rfl
 | false =>
 rw [c1, cF] at h
 cases c2 : AF U i [60, 33, 91, 67, 68, 65, 84, 65, 91] with
 | true =>
  have hl := AT c2 hle
  obtain ⟨e, j, x, u1, u2, u3⟩ := Gu U i 9 (Ni 6 i) [93, 93, 62] (by simp) (by simpa using hl) hU (by simp)
  rw [c2, cT, show (9 : Int) = ((9 : Nat) : Int) from rfl, u1] at h
  obtain ⟨g1, g2, g3⟩ := Dn h
  subst g1
  have u4 := u3 rfl
  subst g2
  have := Lz A hU hV (i := i) (k := 9) (j := j) (w := [93, 93, 62]) (by simp) (by simp) om u1 hf
  have c2V : AF V i [60, 33, 91, 67, 68, 65, 84, 65, 91] = true := by rw [← A.here so]; exact c2
  have c1V : AF V i [60, 33, 45, 45] = false := by rw [← A.here so]; exact c1
  refine ⟨⟨by omega, fun hc => ?_⟩, ?_⟩
  ·have := DL 1 c2 (by simp)
   rw [hc] at this; simp at this
  rw [c1V, cF, c2V, cT, show (9 : Int) = ((9 : Nat) : Int) from rfl, this, ← g3]
 | false =>
 rw [c2, cF] at h
 cases c3 : AF U i [60, 33, 68, 79, 67, 84, 89, 80, 69] with
 | true => rw [c3, cT] at h; exact absurd (Dn h).1 dc
 | false =>
 rw [c3, cF] at h
 cases c4 : AF U i [60, 33] with
 | true => rw [c4, cT] at h; exact absurd (Dn h).1 dc
 | false =>
 rw [c4, cF] at h
 cases c5 : AF U i [60, 63] with
 | true =>
  have hl := AT c5 hle
  rw [c5, cT] at h
  obtain ⟨q1, q2⟩ := SW A hU hV (by simpa using hl) h hf
  have hc : U[i + 1]? = some 63 := DL 1 c5 (by simp)
  have hcV : V[i + 1]? = some 63 := by rw [← A.get om]; exact hc
  have h5 : AF V i [60, 63] = true := by rw [← A.here so]; exact c5
  refine ⟨⟨by omega, fun _ => q1⟩, ?_⟩
  rw [D1 hcV dc, cF, D1 hcV dc, cF, D1 hcV dc, cF, D1 hcV dc, cF, h5, cT, q2]
 | false =>
 rw [c5, cF] at h
 have h63 : U[i + 1]? ≠ some 63 := fun hc => by rw [LK h60 hc] at c5; cases c5
 cases c6 : AF U i [60, 47] with
 | true =>
  have hl := AT c6 hle
  rw [c6, cT] at h
  obtain ⟨q1, q2⟩ := P6 A hU hV (by simpa using hl) h hf
  have hc : U[i + 1]? = some 47 := DL 1 c6 (by simp)
  have hcV : V[i + 1]? = some 47 := by rw [← A.get om]; exact hc
  have h5 : AF V i [60, 47] = true := by rw [← A.here so]; exact c6
  refine ⟨⟨by omega, fun hx => absurd hx h63⟩, ?_⟩
  rw [D1 hcV dc, cF, D1 hcV dc, cF, D1 hcV dc, cF, D1 hcV dc, cF, D1 hcV dc, cF, h5, cT, q2]
 | false =>
 rw [c6, cF] at h
 have h7 : AF U i [60] = true := by rw [Ig, h60]; rfl
 rw [h7, cT] at h
 obtain ⟨q1, q2⟩ := XP A hU hV hi rfl h hf
 obtain ⟨d, hd⟩ : ∃ d, U[i + 1]? = some d := ⟨_, List.getElem?_eq_getElem (show i + 1 < U.length by omega)⟩
 have hdV : V[i + 1]? = some d := by rw [← A.get om]; exact hd
 have n33 : (33 : UInt8) ≠ d := fun hx => by rw [LK h60 (hx ▸ hd)] at c4; cases c4
 have n63 : (63 : UInt8) ≠ d := fun hx => h63 (hx ▸ hd)
 have n47 : (47 : UInt8) ≠ d := fun hx => by rw [LK h60 (hx ▸ hd)] at c6; cases c6
 have h7V : AF V i [60] = true := by rw [← A.here so]; exact h7
 refine ⟨⟨by omega, fun hx => absurd hx h63⟩, ?_⟩
 rw [D1 hdV n33, cF, D1 hdV n33, cF, D1 hdV n33, cF, D1 hdV n33, cF, D1 hdV n63, cF, D1 hdV n47, cF, h7V, cT, q2]
theorem MY {U V : LB} {n : Nat} (A : Agr U V n) (hU : U.length ≤ 1073741824) (hV : V.length ≤ 1073741824) {i f : Nat} {t' : Tk} (hi : i < U.length) (h60 : U[i]? = some 60) (h : An ⟨U, (i : Int)⟩ (DC i) = some (0, ⟨U, (f : Int)⟩, t')) (hf : f ≤ n) :
  An ⟨V, (i : Int)⟩ (DC i) = some (0, ⟨V, (f : Int)⟩, t') := by
 have a1 := A.u
 have a2 := A.v
 rw [F6 U i (Nat.le_of_lt hi) hU] at h
 cases hd : Fh U i with
 | true =>
  rw [hd, cT] at h
  unfold Fh at hd
  rw [Bool.and_eq_true, Bool.and_eq_true, decide_eq_true_eq, decide_eq_true_eq] at hd
  obtain ⟨rfl, d1, d2⟩ := hd
  have hl := AT d1 (Nat.zero_le _)
  have h5 : 5 ≤ U.length := by simpa using hl
  obtain ⟨q1, q2⟩ := UT A hU hV h5 rfl h hf
  have dV : Fh V 0 = true := by
   unfold Fh
   rw [← A.here so, d1, dT rfl, Bool.true_and, Bool.true_and, decide_eq_true_eq]
   have l5 : 5 < U.length := by omega
   have hw : wsP U[5] = true := by
    rw [Fx l5] at d2
    split at d2
    ·rename_i hp; exact hp
    ·omega
   have hg := A.get (show 5 < n by omega)
   rw [List.getElem?_eq_getElem l5, List.getElem?_eq_getElem (show 5 < V.length by omega)] at hg
   injection hg with hg
   rw [Fx (show 5 < V.length by omega), ← hg, if_pos hw]
   have := (DK wsP V (5 + 1) om).1
   omega
  rw [F6 V 0 (Nat.zero_le _) hV, dV, cT, q2]
 | false =>
  rw [hd, cF] at h
  obtain ⟨⟨q1, q2⟩, q3⟩ := UI A hU hV hi h60 h hf
  have dV : Fh V i = false := by
   rw [Bool.eq_false_iff]
   intro hc
   unfold Fh at hc hd
   rw [Bool.and_eq_true, Bool.and_eq_true, decide_eq_true_eq, decide_eq_true_eq] at hc
   obtain ⟨rfl, d1, d2⟩ := hc
   have hlV := AT d1 (Nat.zero_le _)
   have h63 : U[0 + 1]? = some 63 := by rw [A.get om]; exact DL 1 d1 (by simp)
   obtain ⟨r1, r2⟩ := q2 h63
   have d1U : AF U 0 [60, 63, 120, 109, 108] = true := by rw [A.here so]; exact d1
   rw [d1U, dT rfl, Bool.true_and, Bool.true_and, decide_eq_false_iff_not] at hd
   by_cases hn : 5 < n
   ·have l5 : 5 < V.length := by omega
    have hw : wsP V[5] = true := by
     rw [Fx l5] at d2
     split at d2
     ·rename_i hp; exact hp
     ·omega
    have hg := A.get (show 5 < n by omega)
    rw [List.getElem?_eq_getElem (show 5 < U.length by omega), List.getElem?_eq_getElem l5] at hg
    injection hg with hg
    apply hd
    rw [Fx (show 5 < U.length by omega), hg, if_pos hw]
    have := (DK wsP U (5 + 1) om).1
    omega
   ·obtain ⟨c, g1, g2⟩ := r2 om
    have g3 := DL 3 d1U (by simp)
    rw [Nat.zero_add] at g1 g3
    rw [g1] at g3
    simp at g3
    subst g3
    rcases g2 with g2 | g2
    ·exact absurd g2 dc
    ·exact absurd g2 dc
  rw [F6 V i om hV, dV, cF, q3]
theorem VM {n m b0 b1 b2 b3 c1 c2 c3 : Nat} (h : Gc (decodeN n b0 b1 b2 b3) = false) (hnm : n ≤ m) (h1 : 1 < n → c1 = b1) (h2 : 2 < n → c2 = b2) (h3 : 3 < n → c3 = b3) : decodeN m b0 c1 c2 c3 = decodeN n b0 b1 b2 b3 := by
 have hb : ¬ ((decodeN n b0 b1 b2 b3).1 = 65533 ∧ (decodeN n b0 b1 b2 b3).2 = 1) := by
  unfold Gc at h; simpa using h
 unfold decodeN at hb ⊢
 by_cases a0 : b0 < 128
 ·rw [if_pos a0, if_pos a0]
 rw [if_neg a0] at hb
 rw [if_neg a0, if_neg a0]
 by_cases a1 : b0 / 32 = 6 ∧ (1 < n ∧ b1 / 64 = 2)
 ·have e1 := h1 a1.2.1
  rw [if_pos a1, if_pos ⟨a1.1, by omega, by rw [e1]; exact a1.2.2⟩, e1]
 rw [if_neg a1] at hb
 rw [if_neg a1]
 by_cases a2 : b0 / 16 = 14 ∧ (1 < n ∧ b1 / 64 = 2) ∧ (2 < n ∧ b2 / 64 = 2)
 ·have e1 := h1 a2.2.1.1
  have e2 := h2 a2.2.2.1
  rw [if_pos a2, if_neg om, if_pos ⟨a2.1, ⟨by omega, by rw [e1]; exact a2.2.1.2⟩, by omega, by rw [e2]; exact a2.2.2.2⟩, e1, e2]
 rw [if_neg a2] at hb
 rw [if_neg a2]
 by_cases a3 : b0 / 8 = 30 ∧ (1 < n ∧ b1 / 64 = 2) ∧ (2 < n ∧ b2 / 64 = 2) ∧ (3 < n ∧ b3 / 64 = 2)
 ·have e1 := h1 a3.2.1.1
  have e2 := h2 a3.2.2.1.1
  have e3 := h3 a3.2.2.2.1
  rw [if_pos a3, if_neg om, if_neg om, if_pos ⟨a3.1, ⟨by omega, by rw [e1]; exact a3.2.1.2⟩, ⟨by omega, by rw [e2]; exact a3.2.2.1.2⟩, by omega, by rw [e3]; exact a3.2.2.2.2⟩, e1, e2, e3]
 rw [if_neg a3] at hb
 exact absurd ⟨rfl, rfl⟩ hb
theorem FG {x y : LB} {k : Nat} (h : k < x.length) : (x ++ y).getD k 0 = x.getD k 0 := by
 simp [List.getD, List.getElem?_append_left h]
theorem YX {x y : LB} (hx : x ≠ []) (h : Gc (decodeL x) = false) : decodeL (x ++ y) = decodeL x := by
 have hp : 0 < x.length := List.length_pos_iff.2 hx
 rw [Lib.decodeL_N x] at h ⊢
 rw [Lib.decodeL_N (x ++ y), FG hp]
 exact VM h (by rw [lA]; omega) (fun g => by rw [FG g]) (fun g => by rw [FG g]) (fun g => by rw [FG g])
theorem Ve {n m b0 b1 b2 b3 c1 c2 c3 : Nat} (hn : 1 ≤ n) (hnm : n ≤ m) (h1 : 1 < n → c1 = b1) (h2 : 2 < n → c2 = b2) (h3 : 3 < n → c3 = b3) (s1 : n = 1 → c1 < 128) (s2 : n = 2 → c2 < 128) (s3 : n = 3 → c3 < 128) : decodeN m b0 c1 c2 c3 = decodeN n b0 b1 b2 b3 := by
 have q1 : (1 < m ∧ c1 / 64 = 2) ↔ (1 < n ∧ b1 / 64 = 2) := by
  by_cases g : 1 < n
  ·have := h1 g; subst this; constructor <;> rintro ⟨_, q⟩ <;> exact ⟨by omega, q⟩
  ·have := s1 om; constructor <;> rintro ⟨_, q⟩ <;> omega
 have q2 : (1 < n ∧ b1 / 64 = 2) → ((2 < m ∧ c2 / 64 = 2) ↔ (2 < n ∧ b2 / 64 = 2)) := by
  rintro ⟨g1, _⟩
  by_cases g : 2 < n
  ·have := h2 g; subst this; constructor <;> rintro ⟨_, q⟩ <;> exact ⟨by omega, q⟩
  ·have := s2 om; constructor <;> rintro ⟨_, q⟩ <;> omega
 have q3 : (2 < n ∧ b2 / 64 = 2) → ((3 < m ∧ c3 / 64 = 2) ↔ (3 < n ∧ b3 / 64 = 2)) := by
  rintro ⟨g1, _⟩
  by_cases g : 3 < n
  ·have := h3 g; subst this; constructor <;> rintro ⟨_, q⟩ <;> exact ⟨by omega, q⟩
  ·have := s3 om; constructor <;> rintro ⟨_, q⟩ <;> omega
 unfold decodeN
 by_cases a0 : b0 < 128
 ·rw [if_pos a0, if_pos a0]
 rw [if_neg a0, if_neg a0]
 by_cases a1 : b0 / 32 = 6 ∧ (1 < n ∧ b1 / 64 = 2)
 ·rw [if_pos a1, if_pos ⟨a1.1, q1.2 a1.2⟩, h1 a1.2.1]
 rw [if_neg a1, if_neg (fun h => a1 ⟨h.1, q1.1 h.2⟩)]
 by_cases a2 : b0 / 16 = 14 ∧ (1 < n ∧ b1 / 64 = 2) ∧ (2 < n ∧ b2 / 64 = 2)
 ·rw [if_pos a2, if_pos ⟨a2.1, q1.2 a2.2.1, (q2 a2.2.1).2 a2.2.2⟩, h1 a2.2.1.1, h2 a2.2.2.1]
 rw [if_neg a2, if_neg (fun h => a2 ⟨h.1, q1.1 h.2.1, (q2 (q1.1 h.2.1)).1 h.2.2⟩)]
 by_cases a3 : b0 / 8 = 30 ∧ (1 < n ∧ b1 / 64 = 2) ∧ (2 < n ∧ b2 / 64 = 2) ∧ (3 < n ∧ b3 / 64 = 2)
 ·rw [if_pos a3, if_pos ⟨a3.1, q1.2 a3.2.1, (q2 a3.2.1).2 a3.2.2.1, (q3 a3.2.2.1).2 a3.2.2.2⟩, h1 a3.2.1.1, h2 a3.2.2.1.1, h3 a3.2.2.2.1]
 rw [if_neg a3, if_neg (fun h => a3 ⟨h.1, q1.1 h.2.1, (q2 (q1.1 h.2.1)).1 h.2.2.1, (q3 ((q2 (q1.1 h.2.1)).1 h.2.2.1)).1 h.2.2.2⟩)]
theorem LD {x y : LB} {c : UInt8} {k : Nat} (h : x.length = k) : (x ++ c :: y).getD k 0 = c := by
 subst h; simp [List.getD]
theorem Q4 {x y : LB} {c : UInt8} (hx : x ≠ []) (hc : c.toNat < 128) : decodeL (x ++ c :: y) = decodeL x := by
 have hp : 0 < x.length := List.length_pos_iff.2 hx
 rw [Lib.decodeL_N x, Lib.decodeL_N (x ++ c :: y), FG hp]
 exact Ve hp (by rw [lA]; omega) (fun g => by rw [FG g]) (fun g => by rw [FG g]) (fun g => by rw [FG g]) (fun g => by rw [LD g]; exact hc) (fun g => by rw [LD g]; exact hc) (fun g => by rw [LD g]; exact hc)
theorem JO (c : UInt8) (y : LB) (hc : c.toNat < 128) : decodeL (c :: y) = (c.toNat, 1) := by
 have := (CT (c :: y) 0 (by simp)).2.2.1
 simpa using this hc
theorem RO (x y : LB) (c : UInt8) (hc : c.toNat < 128) : Agr x (x ++ c :: y) x.length :=
 ⟨by simp, Nat.le_refl _, by simp, fun j hj => by
  rw [List.drop_append_of_le_length om]
  exact (Q4 (fun h => by have := congrArg List.length h; simp at this; omega) hc).symm⟩
inductive OkT : LB → Prop
 | nil : OkT []
 | cons {l : LB} : l ≠ [] → Gc (decodeL l) = false → Ee ((decodeL l).1 : Int) = true → OkT (l.drop (decodeL l).2) → OkT l
theorem ML {l : LB} (h : OkT l) (hl : l ≠ []) : Gc (decodeL l) = false ∧ Ee ((decodeL l).1 : Int) = true ∧ OkT (l.drop (decodeL l).2) := by
 cases h with
 | nil => exact absurd rfl hl
 | cons _ a b c => exact ⟨a, b, c⟩
theorem MB {l : LB} (h : l ≠ []) : 1 ≤ (decodeL l).2 ∧ (decodeL l).2 ≤ l.length := by
 have := CT l 0 (List.length_pos_iff.2 h)
 simp only [List.drop_zero, Nat.zero_add] at this
 exact ⟨this.1, this.2.1⟩
theorem F1 {x y : LB} (hx : OkT x) (hy : OkT y) : OkT (x ++ y) := by
 induction hx with
 | nil => exact hy
 | @cons l h1 h2 h3 h4 ih =>
  have e := YX (y := y) h1 h2
  refine .cons (by simp [h1]) (by rw [e]; exact h2) (by rw [e]; exact h3) ?_
  rw [e, List.drop_append_of_le_length (MB h1).2]
  exact ih
theorem O3 (c : UInt8) (y : LB) (hc : c.toNat < 128) (hp : Ee (c.toNat : Int) = true) (hy : OkT y) : OkT (c :: y) := by
 have e := JO c y hc
 refine .cons (by simp) (by rw [e]; unfold Gc; simp; omega) (by rw [e]; exact hp) (by rw [e]; exact hy)
theorem Sz (b : LB) (i : Nat) (hi : i < b.length) (hb : b.length ≤ 1073741824) (rec) : C1 b rec (i : Int) = if Gc (decodeL (b.drop i)) then some (.inr ((i : Int), (20 : Int))) else if Ee ((decodeL (b.drop i)).1 : Int) then rec ((i + (decodeL (b.drop i)).2 : Nat) : Int) else some (.inr ((i : Int), (21 : Int))) := by
 unfold C1
 rw [dT (show (i : Int) < (b.length : Int) by omega), cT, GK b i hi hb, bS]
 cases Gc (decodeL (b.drop i)) with
 | true => rfl
 | false => cases Ee ((decodeL (b.drop i)).1 : Int) <;> rfl
theorem Qh {α : Type} {l : List α} {i : Nat} (h : i < l.length) : l.drop i ≠ [] := fun g => by
 have := congrArg List.length g; simp at this; omega
theorem OE (b : LB) (hb : b.length ≤ 1073741824) : (Dw b = some (0, 0) ∧ OkT b) ∨ (∃ (i : Nat) (e : Int), Dw b = some ((i : Int), e) ∧ e ≠ 0 ∧ ¬ OkT b ∧ i ≤ b.length) := by
 obtain ⟨o, e, h⟩ := Ci (b := C1 b) (fun x => b.length - x.toNat) (fun x => ∃ i : Nat, x = (i : Int) ∧ i ≤ b.length ∧ (OkT b ↔ OkT (b.drop i))) (fun o => (o = .inl () ∧ OkT b) ∨ ∃ (i : Nat) (f : Int), o = .inr ((i : Int), f) ∧ f ≠ 0 ∧ ¬ OkT b ∧ i ≤ b.length) (by
  rintro _ ⟨i, rfl, hi, hiff⟩
  by_cases hlt : i < b.length
  ·obtain ⟨d1, d2, _⟩ := CT b i hlt
   have hne := Qh hlt
   simp only [Sz b i hlt hb]
   cases hbad : Gc (decodeL (b.drop i)) with
   | true =>
    right
    exact ⟨_, fun _ => rfl, .inr ⟨i, 20, rfl, by decide, fun h => (by have := (ML (hiff.1 h) hne).1; rw [hbad] at this; cases this), hi⟩⟩
   | false =>
    cases hc : Ee ((decodeL (b.drop i)).1 : Int) with
    | false =>
     right
     exact ⟨_, fun _ => rfl, .inr ⟨i, 21, rfl, by decide, fun h => (by have := (ML (hiff.1 h) hne).2.1; rw [hc] at this; cases this), hi⟩⟩
    | true =>
     left
     refine ⟨_, fun _ => rfl, ⟨i + (decodeL (b.drop i)).2, rfl, d2, hiff.trans ?_⟩, by rw [Int.toNat_natCast, Int.toNat_natCast]; omega⟩
     rw [← List.drop_drop]
     exact ⟨fun h => (ML h hne).2.2, fun h => .cons hne hbad hc h⟩
  ·right
   refine ⟨.inl (), fun rec => ?_, .inl ⟨rfl, ?_⟩⟩
   ·unfold C1
    rw [dF om, cF]
   ·rw [hiff, List.drop_eq_nil_of_le om]; exact .nil) AA (0 : Int) ⟨0, rfl, Nat.zero_le _, by rw [List.drop_zero]⟩ (by unfold AA; omega)
 unfold Dw
 simp only [Av]
 rw [e, bS]
 rcases h with ⟨rfl, h⟩ | ⟨i, f, rfl, hf, hn, hi⟩
 ·exact .inl ⟨rfl, h⟩
 ·exact .inr ⟨i, f, rfl, hf, hn, hi⟩
def lnR : Bool → LB → LB
 | _, [] => []
 | pc, c :: l => if c = 13 then 10 :: lnR true l else if c = 10 ∧ pc = true then lnR false l else c :: lnR false l
theorem KJ : ∀ (pc : Bool) (l : LB), (lnR pc l).length ≤ l.length
 | _, [] => Nat.le_refl _
 | pc, c :: l => by
  have h1 := KJ true l
  have h2 := KJ false l
  simp only [lnR]
  split
  ·simp; omega
  ·split
   ·simp; omega
   ·simp; omega
theorem MG (c : UInt8) (y : LB) (hc : c ≠ 10) : ∀ (x : LB) (pc : Bool), lnR pc (x ++ c :: y) = lnR pc x ++ lnR false (c :: y)
 | [], pc => by simp [lnR, hc]
 | d :: x, pc => by
  have e1 : ∀ t, lnR pc (d :: t) = if d = 13 then 10 :: lnR true t else if d = 10 ∧ pc = true then lnR false t else d :: lnR false t := fun t => by simp only [lnR]
  rw [List.cons_append, e1, e1, MG c y hc x true, MG c y hc x false]
  split
  ·rfl
  ·split
   ·rfl
   ·rfl
theorem WU (p : LB) (i : Nat) (hi : i < p.length) : lnR (decide (0 < i ∧ p.getD (i - 1) 0 = 13)) (p.drop i) = lnP p i ++ lnR (decide (0 < i + 1 ∧ p.getD (i + 1 - 1) 0 = 13)) (p.drop (i + 1)) := by
 have hg : p.getD i 0 = p[i] := by simp [List.getD, hi]
 rw [List.drop_eq_getElem_cons hi, Nat.add_sub_cancel]
 simp only [lnR]
 unfold lnP
 rw [hg]
 by_cases h13 : p[i] = 13
 ·rw [if_pos h13, if_pos h13, dT (by exact ⟨by omega, h13⟩)]; rfl
 ·rw [if_neg h13, if_neg h13, dF (show ¬ (0 < i + 1 ∧ p[i] = 13) from fun h => h13 h.2)]
  by_cases h10 : p[i] = 10 ∧ 0 < i ∧ p.getD (i - 1) 0 = 13
  ·rw [if_pos ⟨h10.1, dT h10.2⟩, if_pos h10]; rfl
  ·rw [if_neg (fun h => h10 ⟨h.1, of_decide_eq_true h.2⟩), if_neg h10]; rfl
theorem QQ (p : LB) (hp : p.length ≤ 1073741824) : EH p = some (lnR false p) := by
 obtain ⟨o, e, h⟩ := Ci (b := Dm p) (fun x => p.length - x.2.toNat) (fun x => ∃ (l : LB) (i : Nat), x = (l, (i : Int)) ∧ i ≤ p.length ∧ l.length ≤ i ∧ l ++ lnR (decide (0 < i ∧ p.getD (i - 1) 0 = 13)) (p.drop i) = lnR false p) (fun o => o = lnR false p) (by
  rintro _ ⟨l, i, rfl, hi, hl, hE⟩
  by_cases hlt : i < p.length
  ·left
   have := Ug p i
   rw [WU p i hlt, ← List.append_assoc] at hE
   exact ⟨_, fun rec => Mb p i l hlt hl hp rec, ⟨_, i + 1, rfl, by omega, by rw [lA]; omega, hE⟩, by dsimp only; omega⟩
  ·right
   rw [List.drop_eq_nil_of_le om] at hE
   refine ⟨l, fun rec => ?_, by rw [← hE]; simp [lnR]⟩
   unfold Dm; dsimp only; rw [dF om, cF]) AA (([] : LB), (0 : Int)) ⟨[], 0, rfl, Nat.zero_le _, Nat.le_refl _, by simp⟩ (by unfold AA; dsimp only; omega)
 unfold EH
 simp only [Av]
 rw [show mkG 1 (0 : Int) (p.length : Int) = some () by unfold mkG; rw [if_pos om], bS, bS, show (List.replicate (Int.toNat (0 : Int)) (0 : UInt8)) = [] from rfl, e, bS, h]
def IW (p : LB) : LB := if ([239, 187, 191] : LB).isPrefixOf p = true then p.drop 3 else p
theorem Uw (p : LB) : (IW p).length ≤ p.length := by
 unfold IW; split
 ·rw [lD]; omega
 ·exact Nat.le_refl _
theorem Pi {c : UInt8} {y : LB} : ∀ (w x : LB), c ∉ w → w.isPrefixOf (x ++ c :: y) = w.isPrefixOf x
 | [], _, _ => by simp [List.isPrefixOf]
 | d :: w, [], h => by
  have : ¬ d = c := fun e => h (by rw [e]; exact List.mem_cons_self)
  simp [List.isPrefixOf, this]
 | d :: w, e :: x, h => by
  simp only [List.cons_append, List.isPrefixOf]
  rw [Pi w x (fun g => h (List.mem_cons_of_mem _ g))]
theorem Vn (x y : LB) (c : UInt8) (hc : c.toNat < 128) : IW (x ++ c :: y) = IW x ++ c :: y := by
 have hn : c ∉ ([239, 187, 191] : LB) := by
  intro h
  simp at h
  rcases h with rfl | rfl | rfl <;> exact absurd hc dc
 unfold IW
 rw [Pi _ _ hn]
 split
 ·rename_i h
  rw [D3, Bool.and_eq_true, decide_eq_true_eq] at h
  rw [List.drop_append_of_le_length (by simpa using h.1)]
 ·rfl
def pln (p : LB) : LB := lnR false (IW p)
theorem JM (p : LB) : (pln p).length ≤ p.length := Nat.le_trans (KJ _ _) (Uw p)
theorem NP (p : LB) (hp : p.length ≤ 1073741824) : Cl p = some (pln p) := by
 unfold Cl C2
 rw [show u8 (239 : Int) = some 239 from rfl, show u8 (187 : Int) = some 187 from rfl, show u8 (191 : Int) = some 191 from rfl, bS, bS, bS, Cr, bS]
 unfold pln IW
 cases h : ([239, 187, 191] : LB).isPrefixOf p with
 | true =>
  have h' := h
  rw [D3, Bool.and_eq_true, decide_eq_true_eq] at h'
  rw [cT, if_pos rfl, show slc p ((([239, 187, 191] : LB).length : Nat) : Int) (p.length : Int) = some (p.drop 3) from BU (n := 3) (by simpa using h'.1), bS, bS, QQ _ (by rw [lD]; omega), bS]
 | false => rw [cF, if_neg (by simp), bS, QQ p hp, bS]
def LV (b : LB) (i f : Nat) : Option (Int × TS × Tk) :=
 (BD ((b.drop i).take (f - i))).bind fun x => (Ex ((b.drop i).take (f - i)) ([38] : LB)).bind fun y => some (x.2.2, (⟨b, (f : Int)⟩ : TS), (⟨(5 : Int), (i : Int), [], [], x.1, y⟩ : Tk))
structure QE (b : LB) (i f : Nat) : Prop where
 lt : i < f
 le : f ≤ b.length
 no : ∀ x, i ≤ x → x < f → b[x]? ≠ some 60
 ed : f = b.length ∨ b[f]? = some 60
theorem MK {b : LB} {i f : Nat} (hb : b.length ≤ 1073741824) (h : QE b i f) : BJ ⟨b, (i : Int)⟩ (DC i) = LV b i f := by
 obtain ⟨h1, h2, h3, h4⟩ := h
 have core : ∀ a : LB, a = (b.drop i).take (f - i) → ((BD a).bind fun x10 =>
  (Ex a ([38] : LB)).bind fun x13 =>
  some (x10.2.2, (⟨b, (IntKind.wrap .i64 ((i : Int) + (a.length : Int)))⟩ : TS), (⟨(5 : Int), (i : Int), ([] : LB), ([] : List TP), x10.1, x13⟩ : TK))) = LV b i f := by
  intro a ha
  have hal : a.length = f - i := by rw [ha, List.length_take, lD]; omega
  rw [hal, w64 om om, show (i : Int) + ((f - i : Nat) : Int) = (f : Int) by omega, ha]
  rfl
 unfold BJ
 dsimp only
 rw [BU om, bS]
 simp only [Av]
 unfold CI
 rw [bS]
 have h60' : ((60 : Int).toNat.toUInt8) = 60 := by decide
 rw [h60']
 by_cases hf : f = b.length
 ·have hno : Lib.indexByte (b.drop i) 60 < 0 := by
   apply Classical.byContradiction; intro hn
   obtain ⟨m, e1, e2⟩ := Iv (b.drop i) 60 hn
   have := (Lib.indexByte_some e1).1
   rw [List.getElem?_drop] at this
   rw [lD] at e2
   exact h3 (i + m) om om this
  rw [dF om, cF]
  exact core _ (by rw [List.take_of_length_le (by rw [lD]; omega)])
 ·have hx : Lib.indexByte (b.drop i) 60 = ((f - i : Nat) : Int) := by
   refine Wo ?_ fun k hk => ?_
   ·rw [List.getElem?_drop, show i + (f - i) = f by omega]
    rcases h4 with h4 | h4
    ·exact absurd h4 hf
    ·exact h4
   ·rw [List.getElem?_drop]; exact h3 (i + k) om om
  rw [hx, dT om, cT, Ew (by rw [lD]; omega), bS]
  exact core _ rfl
theorem TB {b : LB} {i : Nat} (hi : i < b.length) (h60 : b[i]? ≠ some 60) : ∃ f, QE b i f := by
 by_cases hn : Lib.indexByte (b.drop i) 60 < 0
 ·refine ⟨b.length, hi, Nat.le_refl _, fun x h1 h2 => ?_, .inl rfl⟩
  have hge := Lib.indexByte_ge (b.drop i) 60
  have := Lib.indexByte_none (show Lib.indexByte (b.drop i) 60 = -1 by omega) (x - i)
  rwa [List.getElem?_drop, show i + (x - i) = x by omega] at this
 ·obtain ⟨m, e1, e2⟩ := Iv (b.drop i) 60 hn
  obtain ⟨g1, g2⟩ := Lib.indexByte_some e1
  rw [List.getElem?_drop] at g1
  rw [lD] at e2
  refine ⟨i + m, ?_, by omega, fun x h1 h2 => ?_, .inr g1⟩
  ·rcases Nat.eq_zero_or_pos m with rfl | h
   ·exact absurd g1 h60
   ·omega
  ·have := g2 (x - i) om
   rwa [List.getElem?_drop, show i + (x - i) = x by omega] at this
theorem Gw {b : LB} {i : Nat} {w : LB} (h : b[i]? ≠ some 60) : AF b i (60 :: w) = false := by
 rw [Bool.eq_false_iff]; intro hc; exact h (CJ hc)
theorem IB {b : LB} {i : Nat} (hi : i ≤ b.length) (hb : b.length ≤ 1073741824) (h60 : b[i]? ≠ some 60) : An ⟨b, (i : Int)⟩ (DC i) = BJ ⟨b, (i : Int)⟩ (DC i) := by
 have hd : Fh b i = false := by
  unfold Fh
  by_cases h0 : i = 0
  ·subst h0; rw [Gw h60, Bool.false_and, Bool.and_false]
  ·rw [dF h0, Bool.false_and]
 rw [F6 b i hi hb, hd, cF]
 unfold Ft
 rw [Gw h60, Gw h60, Gw h60, Gw h60, Gw h60, Gw h60, Gw h60]
 rfl
inductive Tr (b : LB) : List Tk → Nat → Prop
 | nil : Tr b [] 0
 | snoc {L : List Tk} {j k : Nat} {t : Tk} : Tr b L j → j < b.length → An ⟨b, (j : Int)⟩ (DC j) = some (0, ⟨b, (k : Int)⟩, t) → I2 b j t k → k ≤ b.length → Tr b (L ++ [t]) k
theorem TQ {b : LB} {L : List Tk} {j : Nat} (h : Tr b L j) : j ≤ b.length ∧ L.length ≤ j := by
 induction h with
 | nil => exact ⟨Nat.zero_le _, Nat.le_refl _⟩
 | snoc h1 h2 h3 h4 h5 ih => have := h4.lt; exact ⟨h5, by simp; omega⟩
theorem Rw {b : LB} {L : List Tk} {j k : Nat} {t : Tk} (hL : L.length ≤ 65536) (hj : j < b.length) (h : An ⟨b, (j : Int)⟩ (DC j) = some (0, ⟨b, (k : Int)⟩, t)) (rec) : BG rec (b, (j : Int), L) = rec (b, (k : Int), L ++ [t]) := by
 have hne : ((j : Int) == (b.length : Int)) = false := by rw [bn]; omega
 have h' : An ⟨b, (j : Int)⟩ ⟨(0 : Int), (j : Int), ([] : LB), ([] : List TP), ([] : LB), (0 : Int)⟩ = some (0, ⟨b, (k : Int)⟩, t) := h
 unfold BG
 dsimp only
 rw [hne, cF, h', bS]
 dsimp only
 rw [show ((0 : Int) != 0) = false from rfl, cF, Ct so so, bS, bS]
theorem Y3 {b : LB} {L : List Tk} {j : Nat} {e : Int} {s : TS} {t : Tk} (hj : j < b.length) (he : e ≠ 0) (h : An ⟨b, (j : Int)⟩ (DC j) = some (e, s, t)) (rec) : BG rec (b, (j : Int), L) = some ([], (j : Int), e) := by
 have hne : ((j : Int) == (b.length : Int)) = false := by rw [bn]; omega
 have h' : An ⟨b, (j : Int)⟩ ⟨(0 : Int), (j : Int), ([] : LB), ([] : List TP), ([] : LB), (0 : Int)⟩ = some (e, s, t) := h
 unfold BG
 dsimp only
 rw [hne, cF, h', bS]
 dsimp only
 rw [show (e != 0) = true by simpa using he, cT]
theorem Uk (b : LB) (L : List Tk) (rec) : BG rec (b, (b.length : Int), L) = some (L, (0 : Int), (0 : Int)) := by
 unfold BG
 dsimp only
 rw [show ((b.length : Int) == (b.length : Int)) = true by simp, cT]
theorem Wr (b : LB) (hb : b.length ≤ 65536) : (∃ L, iter BG AA (b, (0 : Int), ([] : List TK)) = some (L, 0, 0) ∧ Tr b L b.length) ∨
  (∃ L j e s t, iter BG AA (b, (0 : Int), ([] : List TK)) = some ([], ((j : Nat) : Int), e) ∧ e ≠ 0 ∧ Tr b L j ∧ j < b.length ∧ An ⟨b, (j : Int)⟩ (DC j) = some (e, s, t)) := by
 obtain ⟨o, e1, e2⟩ := Ci (b := BG) (fun x => b.length - x.2.1.toNat) (fun x => ∃ (j : Nat) (L : List Tk), x = (b, (j : Int), L) ∧ j ≤ b.length ∧ Tr b L j) (fun o => (∃ L, o = (L, 0, 0) ∧ Tr b L b.length) ∨ (∃ L j e s t, o = ([], ((j : Nat) : Int), e) ∧ e ≠ 0 ∧ Tr b L j ∧ j < b.length ∧ An ⟨b, (j : Int)⟩ (DC j) = some (e, s, t))) (by
  rintro _ ⟨j, L, rfl, g1, g2⟩
  have g3 := TQ g2
  by_cases hj : j = b.length
  ·right
   subst hj
   exact ⟨(L, 0, 0), fun rec => Uk b L rec, .inl ⟨L, rfl, g2⟩⟩
  ·obtain ⟨_, t1, e, j2, t, rfl, t2, t3⟩ := RY b j om om
   by_cases he : e = 0
   ·left
    subst he
    have t4 := t3 rfl
    exact ⟨(b, (j2 : Int), L ++ [t]), fun rec => Rw om om t1 rec, ⟨j2, _, rfl, t2, .snoc g2 om t1 t4 t2⟩, by have := t4.lt; dsimp only; omega⟩
   ·right
    exact ⟨_, fun rec => Y3 om he t1 rec, .inr ⟨L, j, e, _, t, rfl, he, g2, by omega, t1⟩⟩) AA (b, (0 : Int), ([] : List TK)) ⟨0, [], rfl, Nat.zero_le _, .nil⟩ (by unfold AA; dsimp only; omega)
 rcases e2 with ⟨L, rfl, h⟩ | ⟨L, j, e, s, t, rfl, h⟩
 ·exact .inl ⟨L, e1, h⟩
 ·exact .inr ⟨L, j, e, s, t, e1, h⟩
theorem XM (p : LB) (hp : p.length ≤ 65536) : Dt p = (Dw (pln p)).bind fun x4 => cond (x4.2 != (0 : Int)) (some ([], x4.1, x4.2)) (iter BG AA (pln p, (0 : Int), ([] : List TK))) := by
 have hbind : ∀ o : Option (List TK × Int × Int), (o.bind fun x => some x) = o := fun o => by cases o <;> rfl
 unfold Dt
 rw [dF om, cF, NP p om, bS]
 dsimp only
 rw [hbind]
theorem aN {p : LB} {L : List Tk} {a : Int} (hp : p.length ≤ 65536) (h : Dt p = some (L, a, 0)) : OkT (pln p) ∧ Tr (pln p) L (pln p).length ∧ a = 0 := by
 have hl := JM p
 rw [XM p hp] at h
 rcases OE (pln p) om with ⟨f1, f2⟩ | ⟨i, e, f1, f2, _⟩
 ·rw [f1, bS] at h
  dsimp only at h
  rw [show ((0 : Int) != 0) = false from rfl, cF] at h
  rcases Wr (pln p) om with ⟨L', g1, g2⟩ | ⟨L', j, e, s, t, g1, g2, _⟩
  ·rw [g1] at h
   have h := sj h
   injection h with h1 h2
   injection h2 with h2 _
   subst h1
   exact ⟨f2, g2, h2.symm⟩
  ·rw [g1] at h
   have h := sj h
   injection h with _ h2
   injection h2 with _ h2
   exact absurd h2 g2
 ·rw [f1, bS] at h
  dsimp only at h
  rw [show (e != 0) = true by simpa using f2, cT] at h
  have h := sj h
  injection h with _ h2
  injection h2 with _ h2
  exact absurd h2 f2

theorem aZ {b : LB} {L : List Tk} {j : Nat} (h : Tr b L j) : ∀ m, m < L.length → ∃ (i k : Nat) (t : Tk), L[m]? = some t ∧ Tr b (L.take m) i ∧ i < b.length ∧ An ⟨b, (i : Int)⟩ (DC i) = some (0, ⟨b, (k : Int)⟩, t) ∧ I2 b i t k ∧ k ≤ j ∧ Tr b (L.take (m + 1)) k := by
 induction h with
 | nil => intro m hm; simp at hm
 | @snoc L j k t h1 h2 h3 h4 h5 ih =>
  intro m hm
  rw [lA, List.length_singleton] at hm
  by_cases hlt : m < L.length
  ·obtain ⟨i, k', t', g1, g2, g3, g4, g5, g6, g7⟩ := ih m hlt
   have := h4.lt
   refine ⟨i, k', t', ?_, ?_, g3, g4, g5, by omega, ?_⟩
   ·rw [List.getElem?_append_left hlt]; exact g1
   ·rw [List.take_append_of_le_length om]; exact g2
   ·rw [List.take_append_of_le_length om]; exact g7
  ·have : m = L.length := by omega
   subst this
   refine ⟨j, k, t, ?_, ?_, h2, h3, h4, Nat.le_refl _, ?_⟩
   ·rw [List.getElem?_append_right (Nat.le_refl _), Nat.sub_self]; rfl
   ·rw [List.take_append_of_le_length (Nat.le_refl _), List.take_length]; exact h1
   ·rw [List.take_of_length_le (by simp)]; exact .snoc h1 h2 h3 h4 h5
theorem V4 {b : LB} {L : List Tk} {i : Nat} (h : Tr b L i) : ∀ (L' : List Tk) (i' : Nat), Tr b L' i' → L' = L → i' = i := by
 induction h with
 | nil =>
  intro L' i' h' e
  cases h' with
  | nil => rfl
  | snoc => simp at e
 | @snoc L j k t h1 h2 h3 h4 h5 ih =>
  intro L' i' h' e
  cases h' with
  | nil => simp at e
  | @snoc M j' _ t' g1 g2 g3 g4 g5 =>
   have e1 : M = L ∧ t' = t := by
    have := List.append_inj' e rfl
    exact ⟨this.1, by simpa using this.2⟩
   have hj := ih M j' g1 e1.1
   subst hj
   rw [g3] at h3
   exact (Dn h3).2.1
theorem K3 : ∀ (l : LB) (pc : Bool), (13 : UInt8) ∉ lnR pc l
 | [], _ => by simp [lnR]
 | c :: l, pc => by
  have h1 := K3 l true
  have h2 := K3 l false
  simp only [lnR]
  split
  ·simp [h1]
  ·split
   ·exact h2
   ·rename_i h _
    simp only [List.mem_cons, not_or]
    exact ⟨fun e => h e.symm, h2⟩
theorem Sg : ∀ (l : LB), (13 : UInt8) ∉ l → lnR false l = l
 | [], _ => rfl
 | c :: l, h => by
  simp only [List.mem_cons, not_or] at h
  simp only [lnR]
  rw [if_neg (fun e => h.1 e.symm), if_neg (by simp), Sg l h.2]
abbrev bom : LB := [239, 187, 191]
def mrk (x : LB) : LB := if bom.isPrefixOf x = true then bom ++ x else x
theorem Pc {c : UInt8} {y : LB} (hc : c.toNat < 128) {l : LB} (h : OkT l) : ∀ x, l = x ++ c :: y → OkT x ∧ OkT (c :: y) := by
 induction h with
 | nil => intro x h; simp at h
 | @cons l h1 h2 h3 h4 ih =>
  intro x h
  subst h
  by_cases hx : x = []
  ·subst hx; exact ⟨.nil, .cons h1 h2 h3 h4⟩
  ·have hd := Q4 (x := x) (y := y) hx hc
   have hp := MB hx
   rw [hd] at h2 h3 ih
   obtain ⟨g1, g2⟩ := ih _ (List.drop_append_of_le_length hp.2)
   exact ⟨.cons hx h2 h3 g1, g2⟩
theorem Wu {c : UInt8} {y : LB} (hc : c.toNat < 128) (h : OkT (c :: y)) : OkT y := by
 have h4 := (ML h (by simp)).2.2
 rw [JO c y hc] at h4
 exact h4
theorem M8 : ∀ (x : LB) (y : LB), (13 : UInt8) ∉ x → lnR false (x ++ y) = x ++ lnR false y
 | [], _, _ => rfl
 | c :: x, y, h => by
  simp only [List.mem_cons, not_or] at h
  rw [List.cons_append, lnR, if_neg (fun e => h.1 e.symm), if_neg (by simp), M8 x y h.2, List.cons_append]
theorem Rq (c : UInt8) (h : wsP c = true) : c.toNat < 128 := by
 have : ∀ c : UInt8, (!wsP c || decide (c.toNat < 128)) = true := XS (by decide +kernel)
 have h1 := this c
 rw [h, bT, Bool.false_or] at h1
 exact of_decide_eq_true h1
theorem Ey {α : Type} {b : Bool} {x y : Option α} {z : α} (h : cond b x y = some z) : x = some z ∨ y = some z := by
 cases b
 ·exact .inr h
 ·exact .inl h
theorem Bt {α β : Type} {o : Option α} {f : α → Option β} {z : β} (h : o.bind f = some z) : ∃ a, o = some a ∧ f a = some z := by
 cases o with
 | none => cases h
 | some a => exact ⟨a, rfl, h⟩
theorem US {s : TS} {t : Tk} {n : Int} {w : LB} {x : Int × TS × Tk} (h : Ax s t n w = some x) : x.2.2.Kind = t.Kind := by
 unfold Ax at h
 obtain ⟨_, _, h⟩ := Bt h
 obtain ⟨_, _, h⟩ := Bt h
 rcases Ey h with h | h
 ·cases h; rfl
 ·obtain ⟨_, _, h⟩ := Bt h
  cases h; rfl
theorem P5 {U : LB} (hU : U.length ≤ 1073741824) (At : Int) (Nm Tx : LB) (rf : Int) (f : Nat) (t' : Tk) (m j : Nat) (ps : List TP) (y z : LB) (g2 : j ≤ U.length) (g3 : ps.length ≤ j)
  (h : iter Al (m + 1) (U, (j : Int), (2 : Int), At, Nm, ps, Tx, rf, y, z) = some (0, ⟨U, (f : Int)⟩, t')) :
  (AF U (sk wsP U j) [47, 62] = true ∧ f = sk wsP U j + 2 ∧ t' = ⟨4, At, Nm, ps, Tx, rf⟩) ∨
  (AF U (sk wsP U j) [62] = true ∧ t' = ⟨2, At, Nm, ps, Tx, rf⟩) ∨
  (∃ (nm rv val : LB) (n : Int) (k1 k2 k3 : Nat), j < sk wsP U j ∧ AM ⟨U, ((sk wsP U j : Nat) : Int)⟩ = some ((nm, 0), ⟨U, (k1 : Int)⟩) ∧ nm ≠ [] ∧ k1 ≤ U.length ∧
   AX ⟨U, (k1 : Int)⟩ = some (0, ⟨U, (k2 : Int)⟩) ∧ k2 ≤ U.length ∧ AY ⟨U, (k2 : Int)⟩ = some ((rv, 0), ⟨U, (k3 : Int)⟩) ∧ k3 ≤ U.length ∧ ps.length + 1 ≤ k3 ∧
   BO rv = some (val, n, 0) ∧ iter Al m (U, (k3 : Int), (2 : Int), At, Nm, ps ++ [⟨nm, val⟩], Tx, rf, nm, val) = some (0, ⟨U, (f : Int)⟩, t')) := by
  rw [show iter Al (m + 1) (U, (j : Int), (2 : Int), At, Nm, ps, Tx, rf, y, z) = Al (iter Al m) (U, (j : Int), (2 : Int), At, Nm, ps, Tx, rf, y, z) from rfl] at h
  generalize hI : iter Al m = I at h
  unfold Al at h
  dsimp only at h
  obtain ⟨s1, s2⟩ := DK wsP U j g2
  rw [AZ U (j : Int) j g2 hU, bS, BP U _ _ s2, bS] at h
  cases c1 : AF U (sk wsP U j) [47, 62] with
  | true =>
   rw [c1, cT, BW U _ _ s2 hU, c1, if_pos rfl, bS] at h
   obtain ⟨_, q2, q3⟩ := Dn h
   exact .inl ⟨rfl, q2.symm, q3.symm⟩
  | false =>
  rw [c1, cF, BP U _ _ s2, bS] at h
  cases c2 : AF U (sk wsP U j) [62] with
  | true =>
   rw [c2, cT, BW U _ _ s2 hU, c2, if_pos rfl, bS] at h
   obtain ⟨_, q2, q3⟩ := Dn h
   exact .inr (.inl ⟨rfl, q3.symm⟩)
  | false =>
  rw [c2, cF] at h
  by_cases c3 : sk wsP U j = j
  ·rw [show (((sk wsP U j : Nat) : Int) == (j : Int)) = true by simp [c3], cT] at h
   exact absurd (Dn h).1 dc
  have c3' : (((sk wsP U j : Nat) : Int) == (j : Int)) = false := by rw [bn]; omega
  obtain ⟨nm, e1, k1, n1, n2, n3, n4, n5⟩ := En U (sk wsP U j) s2 hU
  rw [c3', cF, n1, bS] at h
  dsimp only at h
  by_cases ce1 : e1 = 0
  case neg =>
   rw [show (e1 != 0) = true by simpa using ce1, cT] at h
   exact absurd (Dn h).1 ce1
  subst ce1
  have n6 := (n5 rfl).2
  rw [show ((0 : Int) != 0) = false from rfl, cF] at h
  obtain ⟨e2, k2, r1, r2, r3⟩ := GU U k1 n3 hU
  rw [r1, bS] at h
  dsimp only at h
  by_cases ce2 : e2 = 0
  case neg =>
   rw [show (e2 != 0) = true by simpa using ce2, cT] at h
   exact absurd (Dn h).1 ce2
  subst ce2
  obtain ⟨rv, e3, k3, w1, w2, w3, w4, w5⟩ := FM U k2 r3 hU
  rw [show ((0 : Int) != 0) = false from rfl, cF, w1, bS] at h
  dsimp only at h
  by_cases ce3 : e3 = 0
  case neg =>
   rw [show (e3 != 0) = true by simpa using ce3, cT] at h
   exact absurd (Dn h).1 ce3
  subst ce3
  have w6 := w5 rfl
  obtain ⟨rd, hrd⟩ := GW rv true om
  have hrv : BO rv = some (rd.1, rd.2.1, rd.2.2) := by unfold BO; rw [hrd]; rfl
  rw [show ((0 : Int) != 0) = false from rfl, cF, hrv, bS] at h
  dsimp only at h
  by_cases ce4 : rd.2.2 = 0
  case neg =>
   rw [show (rd.2.2 != 0) = true by simpa using ce4, cT] at h
   exact absurd (Dn h).1 ce4
  rw [show (rd.2.2 != 0) = false by simpa using ce4, cF] at h
  simp only [Av] at h
  obtain ⟨o, l1, l2⟩ := SM 2 At Nm ps Tx rf ((nm, 0), ⟨U, (k1 : Int)⟩) ((rv, 0), ⟨U, (k3 : Int)⟩) om
  rw [l1, bS] at h
  rcases l2 with ⟨rfl, hno⟩ | rfl
  case inr => exact absurd (Dn h).1 dc
  dsimp only at h
  rw [Ct so so, bS, bS, ← hI] at h
  exact .inr (.inr ⟨nm, rv, rd.1, rd.2.1, k1, k2, k3, by omega, n1, (n5 rfl).1, n3, r1, r3, w1, w3, by omega, by rw [hrv, ce4], by rw [← hI]; exact h⟩)
theorem HI {b x r : LB} {i : Nat} (h : b.drop i = x ++ r) : b.drop (i + x.length) = r := by
 rw [← List.drop_drop, h, List.drop_left]
theorem Nh {b r : LB} {c : UInt8} {i : Nat} (h : b.drop i = c :: r) : b[i]? = some c := by
 have : (b.drop i)[0]? = some c := by rw [h]; rfl
 rw [List.getElem?_drop, Nat.add_zero] at this
 exact this
theorem Ps {b r : LB} {c : UInt8} {i : Nat} (h : b.drop i = c :: r) : i < b.length := (List.getElem?_eq_some_iff.1 (Nh h)).1
theorem Ly {P : UInt8 → Bool} : ∀ (n : Nat) {s : LB} {i k : Nat}, k = i + n → k < sk P s i → ∃ c, s[k]? = some c ∧ P c = true
 | n, s, i, k, hk, h => by
  have hlt : i < s.length := by
   rcases Nat.lt_or_ge i s.length with h' | h'
   ·exact h'
   ·exfalso
    unfold sk at h
    rw [List.drop_of_length_le h'] at h
    simp at h; omega
  rw [Fx hlt] at h
  split at h
  ·rename_i hp
   cases n with
   | zero => subst hk; exact ⟨_, List.getElem?_eq_getElem hlt, hp⟩
   | succ n => exact Ly n (i := i + 1) om h
  ·omega
structure Spc (nm a v g : LB) (d : UInt8) (g' : LB) (p q : LB) : Prop where
 hp : p = 60 :: (nm ++ 32 :: (a ++ 61 :: 39 :: (v ++ [39, 47, 62])))
 hq : q = 60 :: (nm ++ (g ++ (a ++ (g ++ 61 :: (g ++ 39 :: (v ++ 39 :: (g ++ [47, 62])))))))
 hg : g = d :: g'
 hw : ∀ c ∈ g, wsP c = true
 lp : p.length ≤ 65536
 lq : q.length ≤ 65536
def Fy (r : Int) : LB := (Utf8.encode r).data.toList
theorem Tp (r : Nat) (c1 : r < 128) : Fy (r : Int) = [UInt8.ofNat r] := by
 have v : Utf8.valid (r : Int) = true := by simp [Utf8.valid]; omega
 simp [Fy, Utf8.encode, v, c1]
theorem Yj (r : Nat) (c1 : ¬ r < 128) (c2 : r < 2048) : Fy (r : Int) = [UInt8.ofNat (192 + r / 64), UInt8.ofNat (128 + r % 64)] := by
 have v : Utf8.valid (r : Int) = true := by simp [Utf8.valid]; omega
 simp [Fy, Utf8.encode, v, c1, c2]
theorem R2 (r : Nat) (c2 : ¬ r < 2048) (c3 : r < 65536) (hv : r < 55296 ∨ 57344 ≤ r) : Fy (r : Int) = [UInt8.ofNat (224 + r / 4096), UInt8.ofNat (128 + r / 64 % 64), UInt8.ofNat (128 + r % 64)] := by
 have v : Utf8.valid (r : Int) = true := by simp [Utf8.valid]; omega
 have c1 : ¬ r < 128 := by omega
 simp [Fy, Utf8.encode, v, c1, c2, c3]
theorem WY (r : Nat) (c3 : ¬ r < 65536) (c4 : r ≤ 1114111) : Fy (r : Int) = [UInt8.ofNat (240 + r / 262144), UInt8.ofNat (128 + r / 4096 % 64), UInt8.ofNat (128 + r / 64 % 64), UInt8.ofNat (128 + r % 64)] := by
 have v : Utf8.valid (r : Int) = true := by simp [Utf8.valid]; omega
 have c1 : ¬ r < 128 := by omega
 have c2 : ¬ r < 2048 := by omega
 simp [Fy, Utf8.encode, v, c1, c2, c3]
theorem ofN {n : Nat} (h : n < 256) : (UInt8.ofNat n).toNat = n := by
 show n % 256 = n; omega
theorem Z6 (l : LB) : decodeL l = decodeN l.length (l.getD 0 0).toNat (l.getD 1 0).toNat (l.getD 2 0).toNat (l.getD 3 0).toNat := Lib.decodeL_N l
theorem T5 (r : Nat) (hv : r < 55296 ∨ (57344 ≤ r ∧ r ≤ 1114111)) (y : LB) : Fy (r : Int) ≠ [] ∧ decodeL (Fy (r : Int) ++ y) = (r, (Fy (r : Int)).length) := by
 by_cases c1 : r < 128
 ·rw [Tp r c1]
  refine ⟨by simp, ?_⟩
  rw [List.singleton_append, JO _ _ (by rw [ofN om]; exact c1), ofN om]; rfl
 by_cases c2 : r < 2048
 ·rw [Yj r c1 c2]
  refine ⟨by simp, ?_⟩
  rw [Z6]
  simp only [List.cons_append, List.nil_append, lC, List.getD_cons_zero, List.getD_cons_succ, lN]
  rw [ofN (show 192 + r / 64 < 256 by omega), ofN (show 128 + r % 64 < 256 by omega)]
  unfold decodeN
  rw [if_neg om, if_pos om, if_pos om]
  refine Prod.ext (by dsimp only; omega) rfl
 by_cases c3 : r < 65536
 ·rw [R2 r c2 c3 om]
  refine ⟨by simp, ?_⟩
  rw [Z6]
  simp only [List.cons_append, List.nil_append, lC, List.getD_cons_zero, List.getD_cons_succ, lN]
  rw [ofN (show 224 + r / 4096 < 256 by omega), ofN (show 128 + r / 64 % 64 < 256 by omega), ofN (show 128 + r % 64 < 256 by omega)]
  unfold decodeN
  rw [if_neg om, if_neg om, if_pos om, if_pos om]
  refine Prod.ext (by dsimp only; omega) rfl
 ·rw [WY r c3 om]
  refine ⟨by simp, ?_⟩
  rw [Z6]
  simp only [List.cons_append, List.nil_append, lC, List.getD_cons_zero, List.getD_cons_succ, lN]
  rw [ofN (show 240 + r / 262144 < 256 by omega), ofN (show 128 + r / 4096 % 64 < 256 by omega), ofN (show 128 + r / 64 % 64 < 256 by omega), ofN (show 128 + r % 64 < 256 by omega)]
  unfold decodeN
  rw [if_neg om, if_neg om, if_neg om, if_pos om, if_pos om]
  refine Prod.ext (by dsimp only; omega) rfl
theorem ZC (c : Int) (hc : Ee c = true) (y : LB) (hy : OkT y) : OkT (Fy c ++ y) := by
 have h := of_decide_eq_true hc
 obtain ⟨r, rfl⟩ : ∃ r : Nat, c = (r : Int) := ⟨c.toNat, by omega⟩
 obtain ⟨e1, e2⟩ := T5 r om y
 refine .cons (by simp [e1]) ?_ ?_ ?_
 ·rw [e2]
  generalize hn : (Fy (r : Int)).length = n
  have hno : ¬ (r = 65533 ∧ n = 1) := by
   rintro ⟨q1, q2⟩
   rw [← hn, R2 r om om om] at q2
   simp at q2
  exact Bool.eq_false_iff.2 fun hh => hno (of_decide_eq_true hh)
 ·rw [e2]; exact hc
 ·rw [e2]; dsimp only; rw [List.drop_left]; exact hy
theorem Zz {l : LB} (hl : l ≠ []) (h : Gc (decodeL l) = false) : Fy ((decodeL l).1 : Int) = l.take (decodeL l).2 := by
 have hb : ¬ ((decodeL l).1 = 65533 ∧ (decodeL l).2 = 1) := fun hh => by unfold Gc at h; rw [dT hh] at h; cases h
 rw [← Lib.encode_decode l hl hb]
 have hnum : ∀ (a b : LB), a.map (fun x : UInt8 => (x.toNat : Int)) = b.map (fun x : UInt8 => (x.toNat : Int)) → a = b := by
  intro a
  induction a with
  | nil => intro b hb; cases b with
   | nil => rfl
   | cons _ _ => cases hb
  | cons x a ih => intro b hb; cases b with
   | nil => cases hb
   | cons y b =>
    simp only [List.map_cons, List.cons.injEq] at hb
    have : x = y := by apply UInt8.toNat_inj.1; omega
    rw [this, ih b hb.2]
 apply hnum
 generalize (decodeL l).1 = r
 have hz : (Lib.encodeRune (r : Int)).map (fun x : UInt8 => (x.toNat : Int)) = Lib.encodeRuneZ (r : Int) := by
  unfold Lib.encodeRune
  rw [List.map_map]
  conv => rhs; rw [← List.map_id (Lib.encodeRuneZ (r : Int))]
  refine List.map_congr_left fun x hx => ?_
  have := Lib.encodeRuneZ_byte (r : Int) x hx
  show ((UInt8.ofNat x.toNat).toNat : Int) = x
  rw [ofN om]; omega
 rw [hz]
 by_cases c1 : r < 128
 ·rw [Tp r c1, Lib.encodeRuneZ_one om om]; simp [ofN (show r < 256 by omega)]
 by_cases c2 : r < 2048
 ·rw [Yj r c1 c2, Lib.encodeRuneZ_two om om]
  simp only [List.map_cons, List.map_nil]
  rw [ofN (show 192 + r / 64 < 256 by omega), ofN (show 128 + r % 64 < 256 by omega)]
  simp
 by_cases hb' : (55296 ≤ r ∧ r ≤ 57343) ∨ 1114111 < r
 ·rw [Lib.encodeRuneZ_bad om]
  have v : Utf8.valid (r : Int) = false := by simp [Utf8.valid]; omega
  simp [Fy, Utf8.encode, v, Utf8.runeError]
 by_cases c3 : r < 65536
 ·rw [R2 r c2 c3 om, Lib.encodeRuneZ_three om]
  simp only [List.map_cons, List.map_nil]
  rw [ofN (show 224 + r / 4096 < 256 by omega), ofN (show 128 + r / 64 % 64 < 256 by omega), ofN (show 128 + r % 64 < 256 by omega)]
  simp
 ·rw [WY r c3 om, Lib.encodeRuneZ_four om om]
  simp only [List.map_cons, List.map_nil]
  rw [ofN (show 240 + r / 262144 < 256 by omega), ofN (show 128 + r / 4096 % 64 < 256 by omega), ofN (show 128 + r / 64 % 64 < 256 by omega), ofN (show 128 + r % 64 < 256 by omega)]
  simp
theorem Pd {p : LB} {v : Bool} {i : Nat} {l : LB} (hi : i < p.length) (hp : p.length ≤ 1073741824) (hb : Gc (decodeL (p.drop i)) = false) (hc : Ee ((decodeL (p.drop i)).1 : Int) = true)
  (h60 : (decodeL (p.drop i)).1 ≠ 60) (hx : v = true ∨ ([93, 93, 62] : LB).isPrefixOf (p.drop i) = false) (rec) :
  Ay p v rec (l, (i : Int)) = cond (((decodeL (p.drop i)).1 : Int) == (38 : Int)) ((Db p (i : Int)).bind fun x101 => cond (x101.2.2 != (0 : Int)) (some (.inr (([] : LB), (i : Int), x101.2.2))) ((app 1 l (Fy x101.1)).bind fun _ => rec ((l ++ Fy x101.1), x101.2.1)))
   (cond (v && (((((decodeL (p.drop i)).1 : Int) == (9 : Int)) || (((decodeL (p.drop i)).1 : Int) == (10 : Int))) || (((decodeL (p.drop i)).1 : Int) == (13 : Int)))) ((app 1 l (Fy 32)).bind fun _ => rec ((l ++ Fy 32), ((i + (decodeL (p.drop i)).2 : Nat) : Int))) ((app 1 l (Fy ((decodeL (p.drop i)).1 : Int))).bind fun _ => rec ((l ++ Fy ((decodeL (p.drop i)).1 : Int)), ((i + (decodeL (p.drop i)).2 : Nat) : Int)))) := by
 unfold Ay
 simp only [Av]
 rw [dT om, cT, GK p i hi hp, hb, hc, if_neg (by simp), if_pos rfl, bS]
 dsimp only
 rw [show (((0 : Int)) != 0) = false from rfl, cF, show (((decodeL (p.drop i)).1 : Int) == (60 : Int)) = false by rw [bn]; omega, cF]
 rcases hx with rfl | hx
 ·rfl
 ·cases v with
  | true => rfl
  | false =>
   simp only [bF, cT, BU (Nat.le_of_lt hi), bS, Cr, hx, cF]
   rfl
theorem Nx {p : LB} {v : Bool} {i : Nat} {l : LB} (hi : i < p.length) (hp : p.length ≤ 1073741824) (hl : l.length ≤ 4 * i) (hb : Gc (decodeL (p.drop i)) = false) (hc : Ee ((decodeL (p.drop i)).1 : Int) = true)
  (h60 : (decodeL (p.drop i)).1 ≠ 60) (h38 : (decodeL (p.drop i)).1 ≠ 38) (hv : v = true → (decodeL (p.drop i)).1 ≠ 9 ∧ (decodeL (p.drop i)).1 ≠ 10 ∧ (decodeL (p.drop i)).1 ≠ 13) (hx : v = true ∨ ([93, 93, 62] : LB).isPrefixOf (p.drop i) = false) (rec) :
  Ay p v rec (l, (i : Int)) = rec ((l ++ Fy ((decodeL (p.drop i)).1 : Int)), ((i + (decodeL (p.drop i)).2 : Nat) : Int)) := by
 have e4 : ∀ r, (Fy r).length ≤ 4 := PP
 have := e4 ((decodeL (p.drop i)).1 : Int)
 rw [Pd hi hp hb hc h60 hx, show (((decodeL (p.drop i)).1 : Int) == (38 : Int)) = false by rw [bn]; omega, cF]
 have hw : (v && (((((decodeL (p.drop i)).1 : Int) == (9 : Int)) || (((decodeL (p.drop i)).1 : Int) == (10 : Int))) || (((decodeL (p.drop i)).1 : Int) == (13 : Int)))) = false := by
  cases v with
  | false => rfl
  | true =>
   obtain ⟨q1, q2, q3⟩ := hv rfl
   rw [show (((decodeL (p.drop i)).1 : Int) == (9 : Int)) = false by rw [bn]; omega, show (((decodeL (p.drop i)).1 : Int) == (10 : Int)) = false by rw [bn]; omega, show (((decodeL (p.drop i)).1 : Int) == (13 : Int)) = false by rw [bn]; omega]
   rfl
 rw [hw, cF, Ct om om, bS]
def Esc (v : Bool) (E : UInt8 → LB) : Prop := ∀ c : UInt8, (c.toNat < 128 → Ee (c.toNat : Int) = true) →
 (E c = [c] ∧ c ≠ 60 ∧ c ≠ 38 ∧ (v = true → c ≠ 9 ∧ c ≠ 10 ∧ c ≠ 13) ∧ (v = false → c ≠ 62)) ∨ (c.toNat < 128 ∧ ∃ w, E c = 38 :: (w ++ [59]) ∧ (59 : UInt8) ∉ w ∧ (62 : UInt8) ∉ w ∧ DY w = some ((c.toNat : Int), 0))
theorem WD {σ ρ : Type} {b : (σ → Option ρ) → σ → Option ρ} {n : Nat} {x y : σ} (h : ∀ rec, b rec x = rec y) : iter b (n + 1) x = iter b n y := by rw [DN, h]
def fC (bs : LB) (rs : List LB) (c : UInt8) : LB := (bs.zip rs).foldl (fun t x => if c = x.1 then x.2 else t) [c]
theorem Il {a b : LB} (h : a.length + b.length ≤ 9223372036854775807) : cat a b = some (a ++ b) := by unfold cat; rw [if_pos h]
def txE (c : UInt8) : LB := if c = 38 then [38, 97, 109, 112, 59] else if c = 60 then [38, 108, 116, 59] else if c = 62 then [38, 103, 116, 59] else if c = 13 then [38, 35, 49, 51, 59] else [c]
def quE (c : UInt8) : LB := if c = 38 then [38, 97, 109, 112, 59] else if c = 60 then [38, 108, 116, 59] else if c = 34 then [38, 113, 117, 111, 116, 59] else if c = 9 then [38, 35, 57, 59] else if c = 10 then [38, 35, 49, 48, 59] else if c = 13 then [38, 35, 49, 51, 59] else [c]
def apE (c : UInt8) : LB := if c = 38 ∨ c = 60 ∨ c = 39 ∨ c.toNat < 32 then [38, 35, UInt8.ofNat (48 + c.toNat / 100), UInt8.ofNat (48 + c.toNat / 10 % 10), UInt8.ofNat (48 + c.toNat % 10), 59] else [c]
theorem Vl (a : LB) (k : Int) (ha : a.length ≤ 1073741824) : ∃ o, iter (B4 a k) AA ((0 : Int), (0 : Int)) = some o ∧ ∀ q, o = .inr q → q.2 ≠ 0 := by
 refine CA (b := B4 a k) (fun i x => ∃ n : Int, x = (n, (i : Int))) _ a.length (x0 := ((0 : Int), (0 : Int))) ⟨0, rfl⟩ ?_ ?_ (n := AA) (by unfold AA; omega)
 ·rintro i x rec hi ⟨n, rfl⟩
  obtain ⟨r, hr⟩ := Nu (a[i].toNat : Int)
  unfold B4
  dsimp only
  rw [dT om, cT, Bw hi, bS, hr, bS]
  cases decide (k ≤ r) with
  | true => exact .inr ⟨_, rfl, fun q hq => by injection hq with hq; rw [← hq]; decide⟩
  | false =>
   rw [cF, w64 (x := (i : Int) + 1) om om]
   exact .inl ⟨_, rfl, _, rfl⟩
 ·rintro x rec ⟨n, rfl⟩
  unfold B4
  dsimp only
  rw [dF om, cF]
  exact ⟨_, rfl, fun q hq => by cases hq⟩
theorem SN {s : LB} (hs : s.length ≤ 1073741824) {r : Int} (h : DY s = some (r, 0)) : Ee r = true := by
 unfold DY at h
 rcases Ey h with h | h
 ·injection sj h with h _; rw [← h]; decide
 rcases Ey h with h | h
 ·injection sj h with h _; rw [← h]; decide
 rcases Ey h with h | h
 ·injection sj h with h _; rw [← h]; decide
 rcases Ey h with h | h
 ·injection sj h with h _; rw [← h]; decide
 rcases Ey h with h | h
 ·injection sj h with h _; rw [← h]; decide
 rw [F9, bS] at h
 generalize hx : (if ([35] : LB).isPrefixOf s = true then (s.drop ([35] : LB).length, true) else (s, false)) = x at h
 have hxl : x.1.length ≤ 1073741824 := by
  rw [← hx]; split
  ·dsimp only; rw [lD]; omega
  ·exact hs
 simp only [Av] at h
 rw [F9, bS] at h
 generalize hy : (if ([120] : LB).isPrefixOf x.1 = true then (x.1.drop ([120] : LB).length, true) else (x.1, false)) = y at h
 have hyl : y.1.length ≤ 1073741824 := by
  rw [← hy]; split
  ·dsimp only; rw [lD]; omega
  ·exact hxl
 have core : ∀ (a : LB) (k : Int), a.length ≤ 1073741824 → cond ((!x.2) || (a == ([] : LB))) (some ((0 : Int), (22 : Int))) ((iter (B4 a k) AA ((0 : Int), (0 : Int))).bind fun o => match o with
   | .inl o1 => (DV (IntKind.wrap .i32 o1)).bind fun x34 => cond (!x34) (some ((0 : Int), (21 : Int))) (some ((IntKind.wrap .i32 o1), (0 : Int)))
   | .inr o1 => some o1) = some (r, 0) → Ee r = true := by
  intro a k ha h
  rcases Ey h with h | h
  ·injection sj h with _ h; exact absurd h dc
  obtain ⟨o, e, ho⟩ := Vl a k ha
  rw [e, bS] at h
  cases o with
  | inr q => exact absurd (by have := sj h; rw [this]) (ho q rfl)
  | inl q =>
   dsimp only at h
   rw [NY, bS] at h
   cases hc : Ee (IntKind.wrap .i32 q) with
   | false =>
    rw [hc, bF, cT] at h
    injection sj h with _ h; exact absurd h dc
   | true =>
    rw [hc, bT, cF] at h
    injection sj h with h _
    rw [← h]; exact hc
 rcases Ey h with h | h
 ·exact core y.1 16 hyl h
 ·exact core x.1 10 hxl h
theorem QI {p : LB} {i : Nat} (hi : i < p.length) (hp : p.length ≤ 1073741824) {r n : Int} (h : Db p (i : Int) = some (r, n, 0)) : Ee r = true := by
 unfold Db at h
 simp only [Av] at h
 rw [dF (show ¬ (i : Int) < 0 by omega), dF (show ¬ (p.length : Int) ≤ (i : Int) by omega), show (false || false) = false from rfl, cF, Bw hi, bS] at h
 rcases Ey h with h | h
 ·injection sj h with _ h; injection h with _ h; exact absurd h dc
 obtain ⟨_, _, h⟩ := Bt h
 obtain ⟨_, _, h⟩ := Bt h
 rcases Ey h with h | h
 ·injection sj h with _ h; injection h with _ h; exact absurd h dc
 obtain ⟨w, hw, h⟩ := Bt h
 obtain ⟨y, hy, h⟩ := Bt h
 have hwl : w.length ≤ 1073741824 := by
  unfold slc at hw
  split at hw
  ·rw [← sj hw, List.length_take, lD]; omega
  ·cases hw
 cases hz : y.2 != (0 : Int) with
 | true =>
  rw [hz, cT] at h
  injection sj h with _ h; injection h with _ h
  rw [h] at hz; exact absurd hz dc
 | false =>
  rw [hz, cF] at h
  injection sj h with h _
  have h0 : y.2 = 0 := by simpa using hz
  rw [← h]
  exact SN hwl (r := y.1) (by rw [hy, ← h0])
theorem O8 {p : LB} {v : Bool} (hp : p.length ≤ 1073741824) {t : LB} {n : Int} (h : Cz p v = some (t, n, 0)) : OkT t ∧ (p ≠ [] → t ≠ []) ∧ t.length ≤ 4 * p.length := by
 have okA : ∀ {l : LB} {c : Int}, OkT l → Ee c = true → OkT (l ++ Fy c) := fun {l c} hl hc => by
  have := ZC c hc [] .nil
  rw [List.append_nil] at this
  exact F1 hl this
 have encne : ∀ {c : Int}, Ee c = true → Fy c ≠ [] := fun {c} hc => by
  have h := of_decide_eq_true hc
  obtain ⟨r, rfl⟩ : ∃ r : Nat, c = (r : Int) := ⟨c.toNat, by omega⟩
  exact (T5 r om []).1
 obtain ⟨o, e, ho⟩ := Ci (b := Ay p v) (fun x => p.length - x.2.toNat) (fun x => ∃ (l : LB) (i : Nat), x = (l, (i : Int)) ∧ i ≤ p.length ∧ l.length ≤ 4 * i ∧ OkT l ∧ (0 < i → l ≠ [])) (fun o => (∀ t, o = .inl t → OkT t ∧ (p ≠ [] → t ≠ []) ∧ t.length ≤ 4 * p.length) ∧ ∀ q, o = .inr q → q.2.2 ≠ 0) (by
  rintro _ ⟨l, i, rfl, hi, hl, hok, hne0⟩
  by_cases hlt : i < p.length
  case neg =>
   right
   refine ⟨.inl l, fun rec => ?_, fun t ht => by injection ht with ht; rw [← ht]; exact ⟨hok, fun hpn => hne0 (by have := List.length_pos_iff.2 hpn; omega), by omega⟩, fun q hq => by cases hq⟩
   unfold Ay
   dsimp only
   rw [dF om, cF]
  have bad : ∀ (q : LB × Int × Int), q.2.2 ≠ 0 → (∀ rec, Ay p v rec (l, (i : Int)) = some (.inr q)) → (∃ y, (∀ rec, Ay p v rec (l, (i : Int)) = rec y) ∧ (∃ (l : LB) (i : Nat), y = (l, (i : Int)) ∧ i ≤ p.length ∧ l.length ≤ 4 * i ∧ OkT l ∧ (0 < i → l ≠ [])) ∧ p.length - y.2.toNat < p.length - ((l, (i : Int)) : LB × Int).2.toNat) ∨ (∃ o, (∀ rec, Ay p v rec (l, (i : Int)) = some o) ∧ ((∀ t, o = .inl t → OkT t ∧ (p ≠ [] → t ≠ []) ∧ t.length ≤ 4 * p.length) ∧ ∀ q, o = .inr q → q.2.2 ≠ 0)) :=
   fun q hq hr => .inr ⟨.inr q, hr, fun t ht => (by cases ht), fun q' hq' => by injection hq' with hq'; rw [← hq']; exact hq⟩
  have good : ∀ (c : Int) (m : Nat), Ee c = true → i < m → m ≤ p.length → (∀ rec, Ay p v rec (l, (i : Int)) = (app 1 l (Fy c)).bind fun _ => rec (l ++ Fy c, (m : Int))) → (∃ y, (∀ rec, Ay p v rec (l, (i : Int)) = rec y) ∧ (∃ (l : LB) (i : Nat), y = (l, (i : Int)) ∧ i ≤ p.length ∧ l.length ≤ 4 * i ∧ OkT l ∧ (0 < i → l ≠ [])) ∧ p.length - y.2.toNat < p.length - ((l, (i : Int)) : LB × Int).2.toNat) ∨ (∃ o, (∀ rec, Ay p v rec (l, (i : Int)) = some o) ∧ ((∀ t, o = .inl t → OkT t ∧ (p ≠ [] → t ≠ []) ∧ t.length ≤ 4 * p.length) ∧ ∀ q, o = .inr q → q.2.2 ≠ 0)) := by
   intro c m hc h1 h2 hr
   have e4 : (Fy c).length ≤ 4 := PP c
   refine .inl ⟨(l ++ Fy c, (m : Int)), fun rec => ?_, ⟨_, m, rfl, h2, by rw [lA]; omega, okA hok hc, fun _ hnil => encne hc (List.append_eq_nil_iff.1 hnil).2⟩, by dsimp only; omega⟩
   rw [hr, Ct om om, bS]
  have hne := Qh hlt
  have hpos := MB hne
  have hdl : i + (decodeL (p.drop i)).2 ≤ p.length := (CT p i hlt).2.1
  cases hb : Gc (decodeL (p.drop i)) with
  | true =>
   refine bad ([], (i : Int), 20) (show (20 : Int) ≠ 0 by decide) fun rec => ?_
   unfold Ay
   simp only [Av]
   rw [dT om, cT, GK p i hlt hp, hb, if_pos rfl, bS]
   rfl
  | false =>
  cases hc : Ee ((decodeL (p.drop i)).1 : Int) with
  | false =>
   refine bad ([], (i : Int), 21) (show (21 : Int) ≠ 0 by decide) fun rec => ?_
   unfold Ay
   simp only [Av]
   rw [dT om, cT, GK p i hlt hp, hb, hc, if_neg (by simp), if_neg (by simp), bS]
   rfl
  | true =>
  by_cases h60 : (decodeL (p.drop i)).1 = 60
  ·refine bad ([], (i : Int), 23) (show (23 : Int) ≠ 0 by decide) fun rec => ?_
   unfold Ay
   simp only [Av]
   rw [dT om, cT, GK p i hlt hp, hb, hc, if_neg (by simp), if_pos rfl, bS, h60]
   rfl
  by_cases hx : v = true ∨ ([93, 93, 62] : LB).isPrefixOf (p.drop i) = false
  case neg =>
   have hv : v = false := by cases v with
    | false => rfl
    | true => exact absurd (.inl rfl) hx
   subst hv
   have hx' : ([93, 93, 62] : LB).isPrefixOf (p.drop i) = true := by
    cases hh : ([93, 93, 62] : LB).isPrefixOf (p.drop i) with
    | true => rfl
    | false => exact absurd (.inr hh) hx
   refine bad ([], (i : Int), 23) (show (23 : Int) ≠ 0 by decide) fun rec => ?_
   unfold Ay
   simp only [Av]
   rw [dT om, cT, GK p i hlt hp, hb, hc, if_neg (by simp), if_pos rfl, bS]
   dsimp only
   rw [show (((0 : Int)) != 0) = false from rfl, cF, show (((decodeL (p.drop i)).1 : Int) == (60 : Int)) = false by rw [bn]; omega, cF]
   simp only [bF, cT, BU (Nat.le_of_lt hlt), bS, Cr, hx', cF]
  have hg := fun rec => Pd (v := v) (l := l) hlt hp hb hc h60 hx rec
  cases h38 : ((decodeL (p.drop i)).1 : Int) == (38 : Int) with
  | true =>
   obtain ⟨r, n, e, he, hm⟩ := OT p i hlt hp
   by_cases h0 : e = 0
   ·subst h0
    obtain ⟨m, rfl, m1, m2⟩ := hm rfl
    refine good r m (QI hlt hp he) m1 m2 fun rec => ?_
    rw [hg, h38, cT, he, bS]
    rfl
   ·refine bad ([], (i : Int), e) h0 fun rec => ?_
    rw [hg, h38, cT, he, bS]
    dsimp only
    rw [show (e != 0) = true by simpa using h0, cT]
  | false =>
  cases hw : (v && (((((decodeL (p.drop i)).1 : Int) == (9 : Int)) || (((decodeL (p.drop i)).1 : Int) == (10 : Int))) || (((decodeL (p.drop i)).1 : Int) == (13 : Int)))) with
  | true => exact good 32 _ dc om hdl fun rec => by rw [hg, h38, cF, hw, cT]
  | false => exact good _ _ hc om hdl fun rec => by rw [hg, h38, cF, hw, cF]) AA (([] : LB), (0 : Int)) ⟨[], 0, rfl, Nat.zero_le _, Nat.zero_le _, .nil, fun h => absurd h (Nat.lt_irrefl 0)⟩ (by unfold AA; show p.length - _ < _; omega)
 unfold Cz at h
 simp only [Av] at h
 rw [e, bS] at h
 cases o with
 | inl q =>
  injection sj h with h _
  exact ho.1 t (by rw [h])
 | inr q =>
  have := sj h
  exact absurd (by rw [this]) (ho.2 q rfl)
theorem MC {U x y : LB} {i : Nat} {a c : UInt8} (h : OkT U) (hi : 0 < i) (ha : U[i - 1]? = some a) (ha1 : a.toNat < 128) (hc : c.toNat < 128) (e : U.drop i = x ++ c :: y) : OkT x := by
 obtain ⟨hlt, hg⟩ := List.getElem?_eq_some_iff.1 ha
 have e2 : U = U.take (i - 1) ++ a :: (x ++ c :: y) := by
  conv => lhs; rw [← List.take_append_drop (i - 1) U]
  rw [Qb hlt, hg, show i - 1 + 1 = i by omega, e]
 have h1 := Wu ha1 (Pc ha1 h _ e2).2
 exact (Pc hc h1 _ rfl).1
theorem TO {U x y : LB} {i : Nat} (h : (13 : UInt8) ∉ U) (e : U.drop i = x ++ y) : (13 : UInt8) ∉ x := fun hm => h (List.mem_of_mem_drop (e ▸ List.mem_append_left y hm))
def Ho (x : LB) : Prop := ∃ (U : LB) (i : Nat) (c : UInt8) (y : LB) (s : TS), U.length ≤ 65536 ∧ U.drop i = x ++ c :: y ∧ c.toNat < 128 ∧ AM ⟨U, (i : Int)⟩ = some ((x, 0), s) ∧ OkT x ∧ (13 : UInt8) ∉ x
theorem Ii {U : LB} {i j : Nat} (hU : U.length ≤ 65536) (hok : OkT U) (h13 : (13 : UInt8) ∉ U) (hi : i ≤ U.length) {x : LB} {c : UInt8} (h : AM ⟨U, (i : Int)⟩ = some ((x, 0), ⟨U, (j : Int)⟩)) (hc : U[j]? = some c) (h128 : c.toNat < 128)
  {a : UInt8} (hi0 : 0 < i) (ha : U[i - 1]? = some a) (ha1 : a.toNat < 128) : Ho x := by
 obtain ⟨j', e1, h1, h2, h3, _⟩ := PG hi om h
 have : j' = j := by injection e1 with _ e1; omega
 subst this
 obtain ⟨hlt, hg⟩ := List.getElem?_eq_some_iff.1 hc
 have e : U.drop i = x ++ c :: U.drop (j' + 1) := by
  rw [h3]
  conv => lhs; rw [← List.take_append_drop (j' - i) (U.drop i)]
  rw [List.drop_drop, show i + (j' - i) = j' by omega, Qb hlt, hg]
 exact ⟨U, i, c, U.drop (j' + 1), _, hU, e, h128, h, MC hok hi0 ha ha1 h128 e, TO h13 e⟩
theorem Te {x : LB} (h : Ho x) : x.length ≤ 65536 := by
 obtain ⟨U, i, c, y, s, hU, e, _⟩ := h
 have := congrArg List.length e
 rw [lD, lA] at this; omega
def KG (ps : List TP) : Prop := ∀ p ∈ ps, Ho p.Name ∧ OkT p.Value ∧ p.Value.length ≤ 262144
theorem MD {U : LB} {j : Nat} (hj : j ≤ U.length) {c : UInt8} (h : U[sk wsP U j]? = some c) (hc : c.toNat < 128) : ∃ d, U[j]? = some d ∧ d.toNat < 128 := by
 obtain ⟨s1, s2⟩ := DK wsP U j hj
 by_cases he : sk wsP U j = j
 ·exact ⟨c, by rw [he] at h; exact h, hc⟩
 ·obtain ⟨d, d1, d2⟩ := Ly (P := wsP) (s := U) (i := j) (k := j) 0 rfl om
  exact ⟨d, d1, Rq d d2⟩
theorem L7 {U : LB} (hU' : U.length ≤ 65536) (hok : OkT U) (h13 : (13 : UInt8) ∉ U) (At : Int) (Nm Tx : LB) (rf : Int) (f : Nat) (t' : Tk) :
  ∀ (m j : Nat) (ps : List TP) (y z : LB), j ≤ U.length → ps.length ≤ j → KG ps → iter Al m (U, (j : Int), (2 : Int), At, Nm, ps, Tx, rf, y, z) = some (0, ⟨U, (f : Int)⟩, t') →
   KG t'.Pairs ∧ (t' = ⟨2, At, Nm, t'.Pairs, Tx, rf⟩ ∨ t' = ⟨4, At, Nm, t'.Pairs, Tx, rf⟩) ∧ ∃ c, U[j]? = some c ∧ c.toNat < 128
 | 0, j, ps, y, z, _, _, _, h => by cases h
 | m + 1, j, ps, y, z, g2, g3, hp, h => by
  have hU : U.length ≤ 1073741824 := by omega
  rcases P5 hU At Nm Tx rf f t' m j ps y z g2 g3 h with ⟨c1, _, rfl⟩ | ⟨c1, rfl⟩ | ⟨nm, rv, val, n, k1, k2, k3, s1, s2, s3, s4, s5, s6, s7, s8, s9, s10, h⟩
  ·exact ⟨hp, .inr rfl, MD g2 (CJ c1) dc⟩
  ·exact ⟨hp, .inl rfl, MD g2 (CJ c1) dc⟩
  ·obtain ⟨sl1, sl2⟩ := DK wsP U j g2
   obtain ⟨d, d1, d2⟩ := Ly (P := wsP) (s := U) (i := j) (k := j) 0 rfl s1
   obtain ⟨_, _, _, e61, _, _⟩ := OG s4 hU s5
   obtain ⟨c, c1, c2⟩ := MD s4 (CJ e61) dc
   obtain ⟨a, a1, a2⟩ := Ly (P := wsP) (s := U) (i := j) (k := sk wsP U j - 1) (sk wsP U j - 1 - j) om om
   have hnm := Ii hU' hok h13 sl2 s2 c1 c2 om a1 (Rq a a2)
   obtain ⟨v, e3, k4, w1, _, _, w4, _⟩ := FM U k2 s6 hU
   have hrv : rv.length ≤ 65536 := by
    rw [w1] at s7
    have s7 := sj s7
    injection s7 with s7 _
    injection s7 with s7 _
    rw [← s7]; omega
   have hval : OkT val ∧ val.length ≤ 262144 := by
    unfold BO at s10
    obtain ⟨r, r1, r2⟩ := Bt s10
    have r2 := sj r2
    injection r2 with r2 r3
    injection r3 with r3 r4
    have hb := O8 om (t := val) (n := n) (show Cz rv true = _ by rw [r1, ← r2, ← r3, ← r4])
    exact ⟨hb.1, by have := hb.2.2; omega⟩
   have hp' : KG (ps ++ [⟨nm, val⟩]) := by
    intro p hmem
    rcases List.mem_append.1 hmem with hmem | hmem
    ·exact hp p hmem
    ·rw [List.mem_singleton.1 hmem]; exact ⟨hnm, hval⟩
   obtain ⟨q1, q2, _⟩ := L7 hU' hok h13 At Nm Tx rf f t' m k3 _ nm val s8 (by simpa using s9) hp' h
   exact ⟨q1, q2, d, d1, Rq d d2⟩
theorem Xy {U : LB} (hU' : U.length ≤ 65536) (hok : OkT U) (h13 : (13 : UInt8) ∉ U) {i f : Nat} {t t' : Tk} (hi : i + 1 ≤ U.length) (h60 : U[i]? = some 60) (hp : t.Pairs = []) (h : A1 ⟨U, (i : Int)⟩ t = some (0, ⟨U, (f : Int)⟩, t')) :
  Ho t'.Name ∧ KG t'.Pairs ∧ (t' = ⟨2, t.At, t'.Name, t'.Pairs, t.Text, t.Refs⟩ ∨ t' = ⟨4, t.At, t'.Name, t'.Pairs, t.Text, t.Refs⟩) := by
 have hU : U.length ≤ 1073741824 := by omega
 unfold A1 at h
 dsimp only at h
 rw [w64 (x := (i : Int) + 1) om om, show (i : Int) + 1 = ((i + 1 : Nat) : Int) by omega] at h
 obtain ⟨v, e, j, h1, h2, h3, h4, h5⟩ := En U (i + 1) hi hU
 rw [h1, bS] at h
 dsimp only at h
 by_cases he : e = 0
 case neg =>
  rw [show (e != 0) = true by simpa using he, cT] at h
  exact absurd (Dn h).1 he
 subst he
 have hbind : ∀ o : Option (Int × TS × TK), (o.bind fun x => some x) = o := fun o => by cases o <;> rfl
 rw [show ((0 : Int) != 0) = false from rfl, cF, hbind] at h
 obtain ⟨q1, q2, c, c1, c2⟩ := L7 hU' hok h13 t.At v t.Text t.Refs f t' AA j t.Pairs [] [] h3 (by rw [hp]; exact Nat.zero_le _) (by rw [hp]; intro p hp; cases hp) h
 have hv : t'.Name = v := by rcases q2 with q2 | q2 <;> rw [q2]
 rw [hv]
 exact ⟨Ii hU' hok h13 hi h1 c1 c2 om (a := 60) (by simpa using h60) dc, q1, q2⟩
structure QW (q : UInt8) (E : UInt8 → LB) : Prop where
 hq : q = 34 ∨ q = 39
 esc : Esc true E
 no : ∀ c, q ∉ E c
 n13 : ∀ c, (13 : UInt8) ∉ E c
 ok : ∀ c, Ee (c.toNat : Int) = true → c.toNat < 128 → OkT (E c)
 hi : ∀ c, 128 ≤ c.toNat → E c = [c]
 le : ∀ c, (E c).length ≤ 8
 ne : ∀ c, 1 ≤ (E c).length
theorem GP : ∀ (w : LB), (∀ c ∈ w, c.toNat < 128 ∧ Ee (c.toNat : Int) = true) → OkT w
 | [], _ => .nil
 | c :: w, h => O3 c _ (h c List.mem_cons_self).1 (h c List.mem_cons_self).2 (GP w fun d hd => h d (List.mem_cons_of_mem _ hd))
def shP (q : UInt8) (E : UInt8 → LB) (ps : List TP) : LB := ps.flatMap fun p => 32 :: (p.Name ++ 61 :: q :: (p.Value.flatMap E ++ [q]))
def L6 (x w : LB) : Prop := ∀ R, Lib.index (x ++ (w ++ R)) w = (x.length : Int)
theorem Yr {s w : LB} {m : Nat} (hw : w ≠ []) (h : Lib.index s w = (m : Int)) : L6 (s.take m) w ∧ ∃ R, s = s.take m ++ (w ++ R) := by
 obtain ⟨o1, o2⟩ := Io h hw
 have hml : (s.take m).length = m := by rw [List.length_take]; omega
 have hx : ∃ R, s = s.take m ++ (w ++ R) := by
  rw [List.isPrefixOf_iff_prefix] at o1
  obtain ⟨R, hR⟩ := o1
  exact ⟨R, by rw [hR, List.take_append_drop]⟩
 refine ⟨fun R => ?_, hx⟩
 obtain ⟨R0, hs⟩ := hx
 have oc : ∀ k, k ≤ m → Lib.occAt (s.take m ++ (w ++ R)) w k = Lib.occAt s w k := by
  intro k hk
  have e : ∀ R, ((s.take m ++ (w ++ R)).drop k).take w.length = ((s.take m ++ w).drop k).take w.length := fun R => by
   rw [← List.append_assoc, List.drop_append_of_le_length (by rw [lA, hml]; omega), List.take_append_of_le_length (by rw [lD, lA, hml]; omega)]
  show w.isPrefixOf _ = w.isPrefixOf _
  rw [D3, D3]
  have hl1 : w.length ≤ ((s.take m ++ (w ++ R)).drop k).length := by rw [lD, lA, lA, hml]; omega
  have hl2 : w.length ≤ (s.drop k).length := by rw [lD]; omega
  rw [dT hl1, dT hl2, e R]
  conv => rhs; rw [hs, e R0]
 rw [hml]
 rcases Lib.index_spec s w with ⟨g, _⟩ | ⟨i, g1, g2, g3, g4⟩
 ·omega
 ·have : i = m := by omega
  subst this
  refine Lib.index_first (by rw [lA, hml]; omega) (by rw [oc i (Nat.le_refl _)]; exact g3) fun k hk => ?_
  rw [oc k om]
  exact g4 k hk
theorem JL {U : LB} (hU : U.length ≤ 1073741824) {i k j : Nat} {t t' : Tk} {w : LB} (hw : w ≠ []) (hwl : w.length ≤ 100) (hi : i + k ≤ U.length) (h : Ax ⟨U, (i : Int)⟩ t (k : Int) w = some (0, ⟨U, (j : Int)⟩, t')) :
  ∃ x R, U.drop (i + k) = x ++ (w ++ R) ∧ L6 x w ∧ j = i + k + x.length + w.length ∧ t' = ⟨t.Kind, t.At, t.Name, t.Pairs, x, t.Refs⟩ := by
 unfold Ax at h
 dsimp only at h
 rw [w64 (x := (i : Int) + (k : Int)) om om, show (i : Int) + (k : Int) = ((i + k : Nat) : Int) by omega, BU om, bS] at h
 unfold FZ at h
 rw [if_pos ⟨by rw [lD]; omega, by omega, hw⟩, bS] at h
 by_cases hn : Lib.index (U.drop (i + k)) w < 0
 ·rw [dT hn, cT] at h
  have h := sj h
  injection h with h _
  cases h
 ·obtain ⟨m, e1⟩ : ∃ m : Nat, Lib.index (U.drop (i + k)) w = (m : Int) := ⟨(Lib.index (U.drop (i + k)) w).toNat, by omega⟩
  obtain ⟨_, e2⟩ := Io e1 hw
  have hwp : 0 < w.length := List.length_pos_iff.2 hw
  rw [lD] at e2
  rw [dF hn, cF, e1, Ew (by rw [lD]; omega), bS, w64 (x := (k : Int) + (m : Int)) om om, w64 (x := (k : Int) + (m : Int) + (w.length : Int)) om om, w64 om om] at h
  have h := sj h
  injection h with _ h
  injection h with h3 h4
  injection h3 with _ h3
  obtain ⟨f1, R, f2⟩ := Yr hw e1
  have hml : ((U.drop (i + k)).take m).length = m := by rw [List.length_take, lD]; omega
  exact ⟨_, R, f2, f1, by rw [hml]; omega, h4.symm⟩
theorem VO {U : LB} (hU : U.length ≤ 1073741824) {i k : Nat} {t : Tk} {x w R : LB} (hw : w ≠ []) (hwl : w.length ≤ 100) (e : U.drop (i + k) = x ++ (w ++ R)) (hf : L6 x w) :
  Ax ⟨U, (i : Int)⟩ t (k : Int) w = some (0, ⟨U, ((i + k + x.length + w.length : Nat) : Int)⟩, ⟨t.Kind, t.At, t.Name, t.Pairs, x, t.Refs⟩) := by
 have hl := congrArg List.length e
 have hwp : 0 < w.length := List.length_pos_iff.2 hw
 rw [lD, lA, lA] at hl
 unfold Ax
 dsimp only
 rw [w64 (x := (i : Int) + (k : Int)) om om, show (i : Int) + (k : Int) = ((i + k : Nat) : Int) by omega, BU om, bS]
 unfold FZ
 rw [if_pos ⟨by rw [lD]; omega, by omega, hw⟩, bS, e, hf R, dF om, cF, Ew (by rw [lA]; omega), bS, List.take_left, w64 (x := (k : Int) + (x.length : Int)) om om, w64 (x := (k : Int) + (x.length : Int) + (w.length : Int)) om om, w64 om om]
 congr 3
 congr 1
 omega
theorem Pr {U : LB} (hU' : U.length ≤ 65536) (hok : OkT U) (h13 : (13 : UInt8) ∉ U) {i f : Nat} {t t' : Tk} (hi : i + 2 ≤ U.length) (h47 : AF U i [60, 47] = true) (h : AL ⟨U, (i : Int)⟩ t = some (0, ⟨U, (f : Int)⟩, t')) :
  Ho t'.Name ∧ t' = ⟨3, t.At, t'.Name, t.Pairs, t.Text, t.Refs⟩ := by
 have hU : U.length ≤ 1073741824 := by omega
 unfold AL at h
 dsimp only at h
 rw [w64 (x := (i : Int) + 2) om om, show (i : Int) + 2 = ((i + 2 : Nat) : Int) by omega] at h
 obtain ⟨v, e, j, h1, h2, h3, h4, h5⟩ := En U (i + 2) hi hU
 rw [h1, bS] at h
 dsimp only at h
 by_cases he : e = 0
 case neg =>
  rw [show (e != 0) = true by simpa using he, cT] at h
  exact absurd (Dn h).1 he
 subst he
 obtain ⟨s1, s2⟩ := DK wsP U j h3
 rw [show ((0 : Int) != 0) = false from rfl, cF, AZ U _ j h3 hU, bS, BW U _ _ s2 hU, bS] at h
 cases hh : AF U (sk wsP U j) [62] with
 | false =>
  rw [hh, if_neg (by simp)] at h
  exact absurd (Dn h).1 (by show ¬ (23 : Int) = 0; decide)
 | true =>
  rw [hh, if_pos rfl] at h
  obtain ⟨_, _, g3⟩ := Dn h
  obtain ⟨c, c1, c2⟩ := MD h3 (CJ hh) dc
  have ha : U[i + 2 - 1]? = some 47 := by
   have := DL 1 h47 dc
   simpa using this
  rw [← g3]
  exact ⟨Ii hU' hok h13 hi h1 c1 c2 om ha dc, rfl⟩
end Go.Proofs.YtilhbalhkljanaaGreatDoor
