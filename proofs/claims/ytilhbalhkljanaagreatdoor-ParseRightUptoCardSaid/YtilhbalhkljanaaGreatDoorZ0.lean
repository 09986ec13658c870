/- Characters and names: what the program's functions answer. No condition. -/
import Derived.Test.YtilhbalhkljanaaGreatDoorWs
import Derived.Test.YtilhbalhkljanaaGreatDoorPf
import Derived.Test.YtilhbalhkljanaaGreatDoorPl1
import Derived.KernelRfl
import Derived.Lib.MapLaws
import Derived.Lib.TrimUEq
import Derived.Lib.ValidLaws
import Derived.Lib.Index
import Derived.Laws.BitsAllLaws
import Derived.Lib.SlTrimSet
import Derived.Laws.Cover4
import Derived.Lib.IndexMore
import Derived.Lib.IndexLaws
import Derived.Test.YtilhbalhkljanaaGreatDoorEng25
set_option linter.unusedSectionVars false
set_option linter.unusedSimpArgs false
set_option linter.unusedVariables false
set_option maxRecDepth 20000
namespace Go.Proofs.YtilhbalhkljanaaGreatDoor
open Go.Lib (decodeL decodeN)
theorem XA (p : LB) (x k : Nat) : (p.drop x).getD k 0 = p.getD (x + k) 0 := by simp [List.getD, List.getElem?_drop]
theorem Us (n b0 b1 b2 b3 : Nat) : (b0 < 128 → decodeN n b0 b1 b2 b3 = (b0, 1)) ∧ (2 ≤ (decodeN n b0 b1 b2 b3).2 → 128 ≤ b1) ∧ (3 ≤ (decodeN n b0 b1 b2 b3).2 → 128 ≤ b2) ∧ (4 ≤ (decodeN n b0 b1 b2 b3).2 → 128 ≤ b3) ∧ (decodeN n b0 b1 b2 b3).2 ≤ 4 := by
 unfold decodeN
 repeat' split
 all_goals refine ⟨fun h => ?_, fun h => ?_, fun h => ?_, fun h => ?_, ?_⟩
 all_goals first | rfl | omega | (simp only at *; omega)
theorem Rl {α : Type} {l : List α} {i : Nat} (h : i < l.length) : l.drop i = l[i] :: l.drop (i + 1) := List.drop_eq_getElem_cons h
theorem DY (p : LB) (x : Nat) (hx : x < p.length) : 1 ≤ (decodeL (p.drop x)).2 ∧ x + (decodeL (p.drop x)).2 ≤ p.length ∧ ((p.getD x 0).toNat < 128 → decodeL (p.drop x) = ((p.getD x 0).toNat, 1)) ∧ ∀ k, 1 ≤ k → k < (decodeL (p.drop x)).2 → 128 ≤ (p.getD (x + k) 0).toNat := by
 have hne : p.drop x ≠ [] := by intro h; have := congrArg List.length h; simp at this; omega
 have h1 := Lib.decodeL_width (p.drop x)
 have h2 := Lib.decodeL_le (p.drop x) hne
 have e := Lib.decodeL_N (p.drop x)
 simp only [XA] at e
 have f := Us (p.drop x).length (p.getD (x + 0) 0).toNat (p.getD (x + 1) 0).toNat (p.getD (x + 2) 0).toNat (p.getD (x + 3) 0).toNat
 rw [← e] at f
 obtain ⟨f0, f1, f2, f3, f4⟩ := f
 rw [lD] at h2
 refine ⟨h1, by omega, fun h => f0 h, fun k hk1 hk2 => ?_⟩
 match k, hk1, hk2 with
 | 1, _, hk => exact f1 om
 | 2, _, hk => exact f2 om
 | 3, _, hk => exact f3 om
 | k + 4, _, hk => omega
theorem YE (p : LB) (x : Nat) : (rnS p x = ((decodeL (p.drop x)).1 : Int)) ∧ wdS p x = (decodeL (p.drop x)).2 := by
 have := Lib.decodeL_drop ⟨p.toArray⟩ x
 simp only at this
 unfold rnS wdS
 rw [← this]
 exact ⟨rfl, rfl⟩
def IC (d : Nat × Nat) : Bool := decide (d.1 = 65533 ∧ d.2 = 1)
def inP (r : Int) : List Aj → Bool
 | [] => false
 | s :: l => if r ≤ s.hi then decide (s.lo ≤ r) else inP r l
theorem gN (r : Int) (l : List Aj) (hl : l.length ≤ 9223372036854775807) : Gt r l = some (inP r l) := by
 unfold Gt
 simp only [Ar]
 obtain ⟨o, h1, h2⟩ := CC (b := GK r l) (fun i x => x = (i : Int) ∧ inP r l = inP r (l.drop i)) (fun o => match o with | .inl _ => inP r l = false | .inr b => inP r l = b) l.length (x0 := (0 : Int)) ⟨rfl, by simp⟩
  (fun i x rec hi ⟨hx, hI⟩ => by
   subst hx
   rw [Rl hi, inP] at hI
   unfold GK
   rw [dT om, cT, A6 hi, bS, w64 om om]
   by_cases c : r ≤ l[i].hi
   ·rw [if_pos c] at hI
    rw [dT c]
    exact .inr ⟨.inr _, rfl, hI⟩
   ·rw [if_neg c] at hI
    rw [dF c]
    exact .inl ⟨_, rfl, rfl, hI⟩)
  (fun x rec ⟨hx, hI⟩ => ⟨.inl (), by
   subst hx
   unfold GK
   rw [dF om, cF], by show inP r l = false; rw [hI, List.drop_length]; rfl⟩) (n := Ay) (by unfold Ay; omega)
 rw [h1, bS]
 cases o with
 | inl u => simp only at h2; rw [h2]
 | inr b => simp only at h2; rw [h2]
def srt : List Aj → Bool
 | [] => true
 | s :: l => l.all (fun t => decide (s.hi < t.lo)) && srt l
theorem Nq (r : Int) : ∀ l, srt l = true → inP r l = l.any fun s => decide (s.lo ≤ r ∧ r ≤ s.hi)
 | [], _ => rfl
 | s :: l, h => by
  simp only [srt, Bool.and_eq_true, List.all_eq_true, decide_eq_true_eq] at h
  simp only [inP, List.any_cons]
  by_cases c : r ≤ s.hi
  ·rw [if_pos c]
   have : (l.any fun s => decide (s.lo ≤ r ∧ r ≤ s.hi)) = false := by
    rw [List.any_eq_false]
    intro t ht
    have := h.1 t ht
    simp only [decide_eq_true_eq]; omega
   rw [this, Bool.or_false]
   by_cases c2 : s.lo ≤ r <;> simp [c, c2]
  ·rw [if_neg c, Nq r l h.2, dF (fun hh => c hh.2), Bool.false_or]
def Fu (r : Int) : Bool := decide (r = 9 ∨ r = 10 ∨ r = 13 ∨ (32 ≤ r ∧ r ≤ 55295) ∨ (57344 ≤ r ∧ r ≤ 65533) ∨ (65536 ≤ r ∧ r ≤ 1114111))
def G2 (r : Int) : Bool := decide ((65 ≤ r ∧ r ≤ 90) ∨ r = 95 ∨ (97 ≤ r ∧ r ≤ 122) ∨ (192 ≤ r ∧ r ≤ 214) ∨ (216 ≤ r ∧ r ≤ 246) ∨ (248 ≤ r ∧ r ≤ 767) ∨ (880 ≤ r ∧ r ≤ 893) ∨ (895 ≤ r ∧ r ≤ 8191) ∨ (8204 ≤ r ∧ r ≤ 8205) ∨ (8304 ≤ r ∧ r ≤ 8591) ∨ (11264 ≤ r ∧ r ≤ 12271) ∨ (12289 ≤ r ∧ r ≤ 55295) ∨ (63744 ≤ r ∧ r ≤ 64975) ∨ (65008 ≤ r ∧ r ≤ 65533) ∨ (65536 ≤ r ∧ r ≤ 983039))
def Ot (r : Int) : Bool := G2 r || decide (r = 45 ∨ r = 46 ∨ (48 ≤ r ∧ r ≤ 57) ∨ r = 183 ∨ (768 ≤ r ∧ r ≤ 879) ∨ (8255 ≤ r ∧ r ≤ 8256))
theorem Y8 (r : Int) (k : Bool → Option Bool) (l : List Aj) (hl : l.length ≤ 9223372036854775807) : (Gt r l).bind k = k (inP r l) := by rw [gN r l hl]; rfl
theorem OS (r : Int) : Eh r = some (Fu r) := by
 unfold Eh Fu
 simp only [Ar]
 by_cases c : r = 9 ∨ r = 10 ∨ r = 13
 ·have e : (((r == (9 : Int)) || (r == (10 : Int))) || (r == (13 : Int))) = true := by simp only [Bool.or_eq_true, beq_iff_eq]; omega
  rw [e, cT, dT om]
 ·have e : (((r == (9 : Int)) || (r == (10 : Int))) || (r == (13 : Int))) = false := by simp only [Bool.or_eq_false_iff, bn]; omega
  rw [e, cF, Y8 _ _ _ dc]
  congr 1
  rw [Nq _ _ dc, Bool.eq_iff_iff]
  simp only [List.any_cons, List.any_nil, Bool.or_eq_true, decide_eq_true_eq, Bool.false_eq_true, or_false]
  omega
theorem Kz (r : Int) : Eu r = some (G2 r) := by
 unfold Eu G2
 by_cases c : r < 128
 ·rw [dT c, cT]
  congr 1
  rw [Bool.eq_iff_iff]
  simp only [Bool.or_eq_true, Bool.and_eq_true, beq_iff_eq, decide_eq_true_eq]
  omega
 ·rw [dF c, cF, Y8 _ _ _ dc]
  congr 1
  rw [Nq _ _ dc, Bool.eq_iff_iff]
  simp only [List.any_cons, List.any_nil, Bool.or_eq_true, decide_eq_true_eq, Bool.false_eq_true, or_false]
  omega
theorem NL (r : Int) : Fj r = some (Ot r) := by
 unfold Fj Ot
 rw [Kz, bS]
 simp only [Ar]
 by_cases c : G2 r = true ∨ r = 45 ∨ r = 46 ∨ (48 ≤ r ∧ r ≤ 57) ∨ r = 183
 ·have e : ((((G2 r || (r == (45 : Int))) || (r == (46 : Int))) || ((decide ((48 : Int) ≤ r)) && (decide (r ≤ (57 : Int))))) || (r == (183 : Int))) = true := by
   simp only [Bool.or_eq_true, Bool.and_eq_true, beq_iff_eq, decide_eq_true_eq]
   rcases c with c | c
   ·simp [c]
   ·omega
  rw [e, cT]
  congr 1
  rcases c with c | c
  ·simp [c]
  ·rw [dT om, Bool.or_true]
 ·have hs : G2 r = false := by simpa using fun h => c (.inl h)
  have e : ((((G2 r || (r == (45 : Int))) || (r == (46 : Int))) || ((decide ((48 : Int) ≤ r)) && (decide (r ≤ (57 : Int))))) || (r == (183 : Int))) = false := by
   rw [Bool.eq_false_iff]
   simp only [ne_eq, Bool.or_eq_true, Bool.and_eq_true, beq_iff_eq, decide_eq_true_eq, hs, Bool.false_eq_true, false_or]
   intro h; apply c; right; omega
  rw [e, cF, Y8 _ _ _ dc]
  congr 1
  rw [hs, Bool.false_or]
  rw [Nq _ _ dc, Bool.eq_iff_iff]
  simp only [List.any_cons, List.any_nil, Bool.or_eq_true, decide_eq_true_eq, Bool.false_eq_true, or_false]
  omega
theorem XQ (n b0 b1 b2 b3 : Nat) : (decodeN n b0 b1 b2 b3).2 = 2 → (decodeN n b0 b1 b2 b3).1 ≤ 2047 := by
 unfold decodeN
 repeat' split
 all_goals first | (intro h; simp only at h; omega) | (intro _; simp only; omega)
theorem XP (l : LB) (x : Nat) (hx : x < l.length) : ((((decodeL (l.drop x)).1 : Int) == (65533 : Int)) && decide (((decodeL (l.drop x)).2 : Int) < (3 : Int))) = IC (decodeL (l.drop x)) := by
 obtain ⟨d1, _⟩ := DY l x hx
 have e := Lib.decodeL_N (l.drop x)
 have h2 := XQ (l.drop x).length ((l.drop x).getD 0 0).toNat ((l.drop x).getD 1 0).toNat ((l.drop x).getD 2 0).toNat ((l.drop x).getD 3 0).toNat
 rw [← e] at h2
 unfold IC
 rw [Bool.eq_iff_iff]
 simp only [Bool.and_eq_true, beq_iff_eq, decide_eq_true_eq]
 omega
theorem Ko (p : LB) (x : Nat) (hx : x < p.length) (hl : p.length ≤ 1073741824) : FH p (x : Int) = some (if IC (decodeL (p.drop x)) then (0, 0, 20) else if Fu (decodeL (p.drop x)).1 then (((decodeL (p.drop x)).1 : Int), ((x + (decodeL (p.drop x)).2 : Nat) : Int), 0) else (0, 0, 21)) := by
 obtain ⟨d1, d2, d3, d4⟩ := DY p x hx
 unfold FH
 rw [dF om, dF om]
 simp only [Bool.or_self, cF]
 have hs : slc p (x : Int) (p.length : Int) = some (p.drop x) := by
  unfold slc; rw [if_pos om]; simp only [Int.toNat_natCast]; rw [List.take_of_length_le (by simp)]
 rw [hs, bS]
 have hne : p.drop x ≠ [] := by intro h; have := congrArg List.length h; simp at this; omega
 have hd : DN (p.drop x) = some (((decodeL (p.drop x)).1 : Int), ((decodeL (p.drop x)).2 : Int)) := by
  unfold DN Lib.decodeGo
  rw [if_neg hne, if_neg (by
   show ¬ ((p.drop x).toArray.size = 0)
   simp; omega)]
  rfl
 rw [hd, bS]
 simp only [XP p x hx, OS, bS]
 cases IC (decodeL (p.drop x))
 ·cases Fu ((decodeL (p.drop x)).1 : Int)
  ·rfl
  ·simp only [cF, bT, Bool.false_eq_true, if_false, if_true]
   rw [w64 om om]; rfl
 ·rfl
def okN (l : LB) : Nat → Nat → Bool
 | 0, _ => true
 | n + 1, j => if j < l.length then !IC (decodeL (l.drop j)) && (Ot (decodeL (l.drop j)).1 && ((!decide (j = 0) || G2 (decodeL (l.drop j)).1) && okN l n (j + (decodeL (l.drop j)).2))) else true
theorem Px (l : LB) : ∀ n j, l.length ≤ j + n → okN l n j = true → Lib.validD (l.drop j) = true
 | 0, j, h, _ => by rw [List.drop_of_length_le om]; rfl
 | n + 1, j, h, hok => by
  by_cases hj : j < l.length
  ·obtain ⟨d1, d2, d3, d4⟩ := DY l j hj
   simp only [okN, if_pos hj, Bool.and_eq_true, Bool.not_eq_true'] at hok
   have hne : l.drop j ≠ [] := by intro h; have := congrArg List.length h; simp at this; omega
   have hb := hok.1
   unfold IC at hb
   rw [Lib.validD_step _ hne, if_neg (of_decide_eq_false hb), List.drop_drop]
   exact Px l n _ om hok.2.2.2
  ·rw [List.drop_of_length_le om]; rfl
def GZ (l : LB) : Bool := !(decide (l = []) || decide (100 < l.length)) && okN l l.length 0
theorem Js (l : LB) : Ee l = some (GZ l) := by
 unfold Ee GZ
 simp only [Ar]
 by_cases c : l = [] ∨ 100 < l.length
 ·have e1 : ((l == ([] : LB)) || decide ((100 : Int) < (l.length : Int))) = true := by
   simp only [Bool.or_eq_true, beq_iff_eq, decide_eq_true_eq]
   rcases c with rfl | c
   ·left; rfl
   ·right; omega
  have e2 : (decide (l = []) || decide (100 < l.length)) = true := by simpa using c
  rw [e1, e2]; rfl
 ·have hl : l.length ≤ 100 := by omega
  have hne : 0 < l.length := List.length_pos_iff.2 fun h => c (.inl h)
  have e1 : ((l == ([] : LB)) || decide ((100 : Int) < (l.length : Int))) = false := by
   simp only [Bool.or_eq_false_iff, bn, decide_eq_false_iff_not]
   exact ⟨fun h => c (.inl h), by omega⟩
  have e2 : (decide (l = []) || decide (100 < l.length)) = false := by
   simp only [Bool.or_eq_false_iff, decide_eq_false_iff_not]
   exact ⟨fun h => c (.inl h), by omega⟩
  rw [e1, e2, cF, bF, Bool.true_and]
  have hv : Fk l = some (Lib.validD l) := by unfold Fk; rw [if_pos om]
  rw [hv, bS]
  cases hval : Lib.validD l
  ·have : okN l l.length 0 = false := by
    cases hok : okN l l.length 0
    ·rfl
    ·have := Px l l.length 0 om hok
     rw [List.drop_zero, hval] at this; cases this
   rw [this]; rfl
  simp only [bT, cF]
  obtain ⟨o, h1, h2⟩ := CC (b := FK l) (fun i x => i ≤ x ∧ x ≤ l.length ∧ okN l l.length 0 = okN l (l.length - i) x ∧ Lib.validD (l.drop x) = true) (fun o => match o with | .inl _ => okN l l.length 0 = true | .inr b => b = false ∧ okN l l.length 0 = false) l.length (x0 := (0 : Nat)) ⟨Nat.le_refl _, Nat.zero_le _, rfl, by simpa using hval⟩
   (fun i j rec hi ⟨hij, hjl, hI, hV⟩ => by
    have es : l.length - i = (l.length - (i + 1)) + 1 := by omega
    rw [es, okN] at hI
    unfold FK
    by_cases hj : j < l.length
    ·obtain ⟨d1, d2, d3, d4⟩ := DY l j hj
     obtain ⟨r1, r2⟩ := YE l j
     have hne : l.drop j ≠ [] := by intro h; have := congrArg List.length h; simp at this; omega
     rw [Lib.validD_step _ hne] at hV
     have hb : IC (decodeL (l.drop j)) = false := by
      unfold IC
      apply dF
      intro h; rw [if_pos h] at hV; cases hV
     rw [if_neg (of_decide_eq_false hb), List.drop_drop] at hV
     rw [if_pos hj, hb] at hI
     simp only [Ar]
     rw [dT hj, cT]
     simp only [r1, r2, NL, Kz, bS]
     have ez : (((j : Nat) : Int) == (0 : Int)) = decide (j = 0) := by
      rw [Bool.eq_iff_iff]; simp only [beq_iff_eq, decide_eq_true_eq]; omega
     rw [ez]
     cases hp : Ot ((decodeL (l.drop j)).1 : Int)
     ·rw [hp] at hI
      refine .inr ⟨.inr false, ?_, rfl, by simpa using hI⟩
      cases decide (j = 0) <;> cases G2 ((decodeL (l.drop j)).1 : Int) <;> rfl
     ·rw [hp] at hI
      cases hd0 : decide (j = 0)
      ·rw [hd0] at hI
       exact .inl ⟨j + (decodeL (l.drop j)).2, rfl, by omega, d2, by simpa using hI, hV⟩
      ·rw [hd0] at hI
       cases hs : G2 ((decodeL (l.drop j)).1 : Int)
       ·rw [hs] at hI
        exact .inr ⟨.inr false, rfl, rfl, by simpa using hI⟩
       ·rw [hs] at hI
        exact .inl ⟨j + (decodeL (l.drop j)).2, rfl, by omega, d2, by simpa using hI, hV⟩
    ·rw [if_neg hj] at hI
     rw [dF hj, cF]
     exact .inr ⟨.inl (), rfl, hI⟩)
   (fun j rec ⟨hij, hjl, hI, hV⟩ => ⟨.inl (), by
    unfold FK
    rw [dF om, cF], by show okN l l.length 0 = true; rw [hI, Nat.sub_self]; rfl⟩) (n := Ay) (by unfold Ay; omega)
  rw [h1, bS]
  cases o with
  | inl u => simp only at h2; rw [h2]
  | inr b => obtain ⟨rfl, h3⟩ := h2; rw [h3]
def sk (P : UInt8 → Bool) (s : LB) (i : Nat) : Nat := i + ((s.drop i).takeWhile P).length
theorem GW (P : UInt8 → Bool) (s : LB) (i : Nat) (h : i ≤ s.length) : i ≤ sk P s i ∧ sk P s i ≤ s.length := by
 unfold sk
 have := (List.takeWhile_sublist P (l := s.drop i)).length_le
 rw [lD] at this
 omega
theorem Yg (P : UInt8 → Bool) (s : LB) : sk P s s.length = s.length := by simp [sk]
theorem Nt {P : UInt8 → Bool} {s : LB} {i : Nat} (h : i < s.length) : sk P s i = if P s[i] = true then sk P s (i + 1) else i := by
 unfold sk
 rw [List.drop_eq_getElem_cons h, List.takeWhile_cons]
 split
 ·rw [lC]; omega
 ·rfl
theorem VP {P : UInt8 → Bool} {s : LB} : ∀ (j i : Nat), i + j = s.length → (h : sk P s i < s.length) → P s[sk P s i] = false
 | 0, i, e, h => by
  have : i = s.length := by omega
  subst this
  rw [Yg] at h; omega
 | j + 1, i, e, h => by
  have hi : i < s.length := by omega
  cases hP : P s[i] with
  | true =>
   have e2 : sk P s i = sk P s (i + 1) := by rw [Nt hi, if_pos hP]
   have := VP (P := P) (s := s) j (i + 1) om (by rw [← e2]; exact h)
   simpa only [e2] using this
  | false =>
   have e2 : sk P s i = i := by rw [Nt hi, if_neg (by simp [hP])]
   simp only [e2, hP]
theorem PT {b : (Int → Option Int) → Int → Option Int} (P : UInt8 → Bool) (s : LB)
  (hb : ∀ (rec : Int → Option Int) (i : Nat) (h : i < s.length), b rec (i : Int) = cond (P s[i]) (rec ((i + 1 : Nat) : Int)) (some (i : Int)))
  (he : ∀ rec : Int → Option Int, b rec (s.length : Int) = some (s.length : Int)) :
  ∀ (n j i : Nat), i + j = s.length → j < n → iter b n (i : Int) = some ((sk P s i : Nat) : Int)
 | 0, j, i, _, h => by omega
 | n + 1, 0, i, e, h => by
  have : i = s.length := by omega
  subst this
  show b (iter b n) _ = _
  rw [he, Yg]
 | n + 1, j + 1, i, e, h => by
  have hi : i < s.length := by omega
  show b (iter b n) _ = _
  rw [hb _ i hi, Nt hi]
  cases hP : P s[i] with
  | true => rw [cT, if_pos rfl]; exact PT P s hb he n j (i + 1) om om
  | false => rw [cF, if_neg (by simp)]
theorem Y0 {p : UInt8 → Bool} (h : (List.range 256).all (fun n => p (UInt8.ofNat n)) = true) (c : UInt8) : p c = true := by
 rw [List.all_eq_true] at h
 have := h c.toNat (List.mem_range.2 c.toNat_lt)
 simpa using this
theorem Ug (c : UInt8) : ((c.toNat : Int)).toNat.toUInt8 = c := by simp
theorem Co {σ ρ : Type} (b : (σ → Option ρ) → σ → Option ρ) (n : Nat) (x : σ) : iter b (n + 1) x = b (iter b n) x := rfl
theorem Ss {σ τ ρ ψ : Type} {b : (σ → Option ρ) → σ → Option ρ} {c : (τ → Option ψ) → τ → Option ψ} (μ : σ → Nat) (I : σ → τ → Prop) (R : ρ → ψ → Prop)
  (step : ∀ x y, I x y → (∃ x' y', (∀ rec, b rec x = rec x') ∧ (∀ rec, c rec y = rec y') ∧ I x' y' ∧ μ x' < μ x) ∨ (∃ o q, (∀ rec, b rec x = some o) ∧ (∀ rec, c rec y = some q) ∧ R o q)) :
  ∀ (n m : Nat) (x : σ) (y : τ), I x y → μ x < n → μ x < m → ∃ o q, iter b n x = some o ∧ iter c m y = some q ∧ R o q
 | 0, _, x, y, _, h, _ => by omega
 | _ + 1, 0, x, y, _, _, h => by omega
 | n + 1, m + 1, x, y, hI, h1, h2 => by
  rcases step x y hI with ⟨x', y', e1, e2, hI', hm⟩ | ⟨o, q, e1, e2, hR⟩
  ·obtain ⟨o, q, g1, g2, hR⟩ := Ss μ I R step n m x' y' hI' om om
   exact ⟨o, q, by show b (iter b n) x = _; rw [e1, g1], by show c (iter c m) y = _; rw [e2, g2], hR⟩
  ·exact ⟨o, q, e1 _, e2 _, hR⟩
theorem Z9 : EE = some true := by kernel_rfl
open Go.Lib (decodeL decodeN)
theorem CV {α : Type} {l : List α} {n : Nat} (h : n ≤ l.length) : slc l (n : Int) (l.length : Int) = some (l.drop n) := by
 unfold slc; rw [if_pos om]; simp only [Int.toNat_natCast]; rw [List.take_of_length_le (by simp)]
theorem Hh {α : Type} {l : List α} {n : Nat} (h : n ≤ l.length) : slc l (0 : Int) (n : Int) = some (l.take n) := by
 unfold slc; rw [if_pos om]; simp
def BZ (b : LB) (i : Nat) (w : LB) : Bool := w.isPrefixOf (b.drop i)
theorem FI (w l : LB) : w.isPrefixOf l = (decide (w.length ≤ l.length) && (l.take w.length == w)) := by
 rw [Bool.eq_iff_iff, List.isPrefixOf_iff_prefix, Bool.and_eq_true, decide_eq_true_eq, beq_iff_eq, List.prefix_iff_eq_take]
 constructor
 ·intro h
  refine ⟨?_, h.symm⟩
  have := congrArg List.length h
  rw [List.length_take] at this; omega
 ·rintro ⟨_, h⟩; exact h.symm
theorem Dv (l w : LB) : C3 l w = some (w.isPrefixOf l) := by
 unfold C3 Hk
 simp only [Ar]
 rw [FI]
 by_cases h : w.length ≤ l.length
 ·rw [dT (show (w.length : Int) ≤ (l.length : Int) by omega), cT, Hh h, bS, bS, dT h, Bool.true_and]
 ·rw [dF (show ¬ (w.length : Int) ≤ (l.length : Int) by omega), cF, dF h, Bool.false_and]
theorem DZ (b : LB) (i : Nat) (w : LB) (hi : i ≤ b.length) : Ap ⟨b, (i : Int)⟩ w = some (BZ b i w) := by
 unfold Ap
 dsimp only
 rw [CV hi, bS, Dv, bS]; rfl
theorem B7 {b : LB} {i : Nat} {w : LB} (h : BZ b i w = true) (hi : i ≤ b.length) : i + w.length ≤ b.length := by
 unfold BZ at h
 rw [FI, Bool.and_eq_true, decide_eq_true_eq, lD] at h
 omega
theorem Ez {b : LB} {i : Nat} {c : UInt8} {w : LB} (h : BZ b i (c :: w) = true) : b[i]? = some c := by
 unfold BZ at h
 rw [List.isPrefixOf_iff_prefix] at h
 obtain ⟨r, hr⟩ := h
 have : (b.drop i)[0]? = some c := by rw [← hr]; rfl
 rwa [List.getElem?_drop, Nat.add_zero] at this
theorem PA {b : LB} {i : Nat} {c : UInt8} : BZ b i [c] = (b[i]? == some c) := by
 unfold BZ
 by_cases hi : i < b.length
 ·rw [List.drop_eq_getElem_cons hi, List.getElem?_eq_getElem hi]
  simp only [List.isPrefixOf, Bool.and_true]
  rw [Bool.eq_iff_iff, beq_iff_eq, beq_iff_eq, Option.some.injEq]
  exact ⟨fun h => h.symm, fun h => h.symm⟩
 ·rw [List.drop_eq_nil_of_le om, List.getElem?_eq_none om]; rfl
def wsP (c : UInt8) : Bool := decide ((0 : Int) ≤ Lib.indexByte [32, 9, 10, 13] c)
theorem C5 (b : LB) (a : Int) (i : Nat) (hi : i ≤ b.length) (hb : b.length ≤ 1073741824) : Bo ⟨b, a⟩ (i : Int) = some ((sk wsP b i : Nat) : Int) := by
 unfold Bo
 simp only [Ar]
 have := PT (b := C8 ⟨b, a⟩) wsP b (fun rec i h => by
  unfold C8
  simp only [Ar]
  rw [dT om, cT, A6 h, bS]
  unfold FR
  rw [Ug, bS, w64 om om]
  rfl) (fun rec => by
  unfold C8
  simp only [Ar]
  rw [dF om, cF, cF]) Ay (b.length - i) i om (by unfold Ay; omega)
 rw [this, bS]
theorem FX (b : LB) (i : Nat) (w : LB) (hi : i ≤ b.length) (hb : b.length ≤ 1073741824) : Bk ⟨b, (i : Int)⟩ w = some (if BZ b i w = true then (0, ⟨b, ((i + w.length : Nat) : Int)⟩) else (23, ⟨b, (i : Int)⟩)) := by
 unfold Bk
 rw [DZ b i w hi, bS]
 cases h : BZ b i w with
 | false => rfl
 | true =>
  have := B7 h hi
  dsimp only
  rw [bT, cF, if_pos rfl, w64 om om]; rfl
theorem KC (b : LB) (i : Nat) (hi : i ≤ b.length) (hb : b.length ≤ 1073741824) : ∃ (e : Int) (j : Nat), BO ⟨b, (i : Int)⟩ = some (e, ⟨b, (j : Int)⟩) ∧ i ≤ j ∧ j ≤ b.length := by
 obtain ⟨s1, s2⟩ := GW wsP b i hi
 unfold BO
 rw [C5 b _ i hi hb, bS]
 dsimp only
 rw [FX b _ _ s2 hb, bS]
 cases h : BZ b (sk wsP b i) [61] with
 | false =>
  obtain ⟨t1, t2⟩ := GW wsP b _ s2
  rw [if_neg (by simp)]
  dsimp only
  rw [C5 b _ _ s2 hb, bS]
  exact ⟨23, _, rfl, by omega, t2⟩
 | true =>
  have hl := B7 h s2
  obtain ⟨t1, t2⟩ := GW wsP b _ hl
  rw [if_pos rfl]
  dsimp only
  rw [C5 b _ _ hl hb, bS]
  exact ⟨0, _, rfl, by omega, t2⟩
theorem cz (l : LB) (c : UInt8) (h : 0 ≤ Lib.indexByte l c) : Lib.indexByte l c < l.length := by
 induction l with
 | nil => simp [Lib.indexByte] at h
 | cons b l ih =>
  simp only [Lib.indexByte] at h ⊢
  split
  ·rw [lC]; omega
  ·rename_i hb
   rw [if_neg hb] at h
   split at h
   ·omega
   ·rename_i h1
    rw [if_neg h1]
    have h2 := Lib.indexByte_ge l c
    have h3 : Lib.indexByte l c ≠ -1 := by simpa using h1
    have := ih om
    rw [lC]; omega
theorem Kr (l : LB) (c : UInt8) (h : ¬ Lib.indexByte l c < 0) : ∃ n : Nat, Lib.indexByte l c = (n : Int) ∧ n < l.length := by
 have := cz l c om
 exact ⟨(Lib.indexByte l c).toNat, by omega, by omega⟩
theorem IL (b : LB) (i : Nat) (hi : i ≤ b.length) (hb : b.length ≤ 1073741824) : ∃ (v : LB) (e : Int) (j : Nat), Ct ⟨b, (i : Int)⟩ = some ((v, e), ⟨b, (j : Int)⟩) ∧ i ≤ j ∧ j ≤ b.length ∧ v.length ≤ b.length ∧ (e = 0 → i < j) := by
 have none : ∃ (v : LB) (e : Int) (j : Nat), (some ((([] : LB), (23 : Int)), (⟨b, (i : Int)⟩ : TS)) : Option ((LB × Int) × TS)) = some ((v, e), ⟨b, (j : Int)⟩) ∧ i ≤ j ∧ j ≤ b.length ∧ v.length ≤ b.length ∧ (e = 0 → i < j) := ⟨[], 23, i, rfl, Nat.le_refl _, hi, Nat.zero_le _, fun h => by omega⟩
 have main : i < b.length → ∃ (v : LB) (e : Int) (j : Nat), ((slc b (IntKind.wrap .i64 ((i : Int) + (1 : Int))) (b.length : Int)).bind fun x7 =>
   (idx b (i : Int)).bind fun x8 =>
   (Ds x7 (x8.toNat : Int)).bind fun x9 =>
   cond (decide (x9 < (0 : Int)))
   (some ((([] : LB), (23 : Int)), (⟨b, (i : Int)⟩ : TS)))
   ((slc x7 (0 : Int) x9).bind fun x11 =>
   some ((x11, (0 : Int)), (⟨b, (IntKind.wrap .i64 ((i : Int) + (IntKind.wrap .i64 (x9 + (2 : Int)))))⟩ : TS)))) = some ((v, e), ⟨b, (j : Int)⟩) ∧ i ≤ j ∧ j ≤ b.length ∧ v.length ≤ b.length ∧ (e = 0 → i < j) := by
  intro hlt
  rw [w64 (x := (i : Int) + 1) om om, show (i : Int) + 1 = ((i + 1 : Nat) : Int) by omega, CV hlt, bS, A6 hlt, bS]
  unfold Ds
  rw [Ug, bS]
  by_cases hn : Lib.indexByte (b.drop (i + 1)) b[i] < 0
  ·rw [dT hn, cT]; exact none
  ·obtain ⟨n, e1, e2⟩ := Kr _ _ hn
   rw [dF hn, cF, e1, Hh (Nat.le_of_lt e2), bS]
   rw [lD] at e2
   rw [w64 (x := (n : Int) + 2) om om, w64 om om]
   refine ⟨_, 0, i + (n + 2), rfl, by omega, by omega, ?_, fun _ => by omega⟩
   rw [List.length_take, lD]; omega
 unfold Ct
 dsimp only
 rw [DZ b i _ hi, DZ b i _ hi, bS]
 simp only [Ar]
 cases h1 : BZ b i [39] with
 | true =>
  have := B7 h1 hi
  rw [bT, cF, cF]
  exact main (by simp at this; omega)
 | false =>
  rw [bF, cT, bS]
  cases h2 : BZ b i [34] with
  | true =>
   have := B7 h2 hi
   rw [bT, cF]
   exact main (by simp at this; omega)
  | false => rw [bF, cT]; exact none
theorem KR (b : LB) (i : Nat) (hi : i < b.length) : DN (b.drop i) = some (((decodeL (b.drop i)).1 : Int), ((decodeL (b.drop i)).2 : Int)) := by
 have hne : b.drop i ≠ [] := by intro h; have := congrArg List.length h; simp at this; omega
 unfold DN Lib.decodeGo
 rw [if_neg hne, if_neg (by
  show ¬ ((b.drop i).toArray.size = 0)
  simp; omega)]
 rfl
theorem Jr (q : LB) (hq : q.length ≤ 1073741824) : ∃ r, CT q = some r := by
 unfold CT Rw
 rw [if_pos om, bS]
 simp only [Ar, Js, bS]
 cases (Lib.cut q [58]).2.2 <;> cases GZ q <;> cases GZ (Lib.cut q [58]).1 <;> cases GZ (Lib.cut q [58]).2.1 <;> exact ⟨_, rfl⟩
theorem HF (b : LB) (i : Nat) (hi : i ≤ b.length) (hb : b.length ≤ 1073741824) : ∃ (v : LB) (e : Int) (j : Nat), Bl ⟨b, (i : Int)⟩ = some ((v, e), ⟨b, (j : Int)⟩) ∧ i ≤ j ∧ j ≤ b.length ∧ v.length ≤ b.length ∧ (e = 0 → v ≠ [] ∧ i < j) := by
 have key : ∃ o : Int, iter (AW ⟨b, (i : Int)⟩) Ay (i : Int) = some o ∧ ∃ j : Nat, o = (j : Int) ∧ i ≤ j ∧ j ≤ b.length := by
  refine CC (b := AW ⟨b, (i : Int)⟩) (fun k x => ∃ j : Nat, x = (j : Int) ∧ i + k ≤ j ∧ j ≤ b.length) _ (b.length - i) (x0 := (i : Int)) ⟨i, rfl, by omega, hi⟩ ?_ ?_ (n := Ay) (by unfold Ay; omega)
  ·rintro k x rec hk ⟨j, rfl, h1, h2⟩
   unfold AW
   dsimp only
   by_cases hj : j < b.length
   ·obtain ⟨d1, d2, _⟩ := DY b j hj
    rw [dT om, cT, CV h2, bS, KR b j hj, bS]
    simp only [Ar, NL, Kz, bS]
    have hgo : IntKind.wrap .i64 ((j : Int) + ((decodeL (b.drop j)).2 : Int)) = ((j + (decodeL (b.drop j)).2 : Nat) : Int) := by rw [w64 om om]; omega
    rw [hgo]
    have two : ∀ c : Bool, (∃ y, cond c (some (j : Int)) (rec ((j + (decodeL (b.drop j)).2 : Nat) : Int)) = rec y ∧ ∃ j' : Nat, y = (j' : Int) ∧ i + (k + 1) ≤ j' ∧ j' ≤ b.length) ∨ (∃ o, cond c (some (j : Int)) (rec ((j + (decodeL (b.drop j)).2 : Nat) : Int)) = some o ∧ ∃ j' : Nat, o = (j' : Int) ∧ i ≤ j' ∧ j' ≤ b.length) := by
     intro c
     cases c with
     | false => exact .inl ⟨_, rfl, _, rfl, by omega, d2⟩
     | true => exact .inr ⟨_, rfl, j, rfl, by omega, h2⟩
    cases ((decodeL (b.drop j)).1 : Int) != 58 with
    | false => exact two false
    | true =>
     cases Ot ((decodeL (b.drop j)).1 : Int) with
     | false => exact two true
     | true =>
      cases ((j : Int) == (i : Int)) with
      | false => exact two false
      | true => exact two (!G2 ((decodeL (b.drop j)).1 : Int))
   ·rw [dF om, cF]
    exact .inr ⟨_, rfl, j, rfl, by omega, h2⟩
  ·rintro x rec ⟨j, rfl, h1, h2⟩
   have : j = b.length := by omega
   subst this
   unfold AW
   dsimp only
   rw [dF om, cF]
   exact ⟨_, rfl, _, rfl, hi, Nat.le_refl _⟩
 obtain ⟨o, e1, j, rfl, h1, h2⟩ := key
 unfold Bl
 simp only [Ar]
 rw [e1, bS]
 have hsl : slc b (i : Int) (j : Int) = some ((b.drop i).take (j - i)) := by
  unfold slc; rw [if_pos om]; simp only [Int.toNat_natCast]
 rw [hsl, bS]
 have hlen : ((b.drop i).take (j - i)).length = j - i := by rw [List.length_take, lD]; omega
 generalize (b.drop i).take (j - i) = w at hlen
 by_cases hw : w = []
 ·rw [show (w == []) = true by simp [hw], cT]
  exact ⟨[], 23, i, rfl, Nat.le_refl _, hi, Nat.zero_le _, fun h => by omega⟩
 ·obtain ⟨r, hr⟩ := Jr w om
  rw [show (w == []) = false by simp [hw], cF, hr, bS]
  cases r.2.2 with
  | false => exact ⟨[], 24, i, rfl, Nat.le_refl _, hi, Nat.zero_le _, fun h => by omega⟩
  | true =>
   have : 0 < w.length := List.length_pos_iff.2 hw
   exact ⟨w, 0, j, rfl, h1, h2, by omega, fun _ => ⟨hw, by omega⟩⟩
theorem DG {σ ρ : Type} {b : (σ → Option ρ) → σ → Option ρ} (μ : σ → Nat) (I : σ → Prop) (R : ρ → Prop)
  (step : ∀ x, I x → (∃ y, (∀ rec, b rec x = rec y) ∧ I y ∧ μ y < μ x) ∨ (∃ o, (∀ rec, b rec x = some o) ∧ R o)) :
  ∀ (n : Nat) (x : σ), I x → μ x < n → ∃ o, iter b n x = some o ∧ R o
 | 0, x, _, h => by omega
 | n + 1, x, hI, h1 => by
  rcases step x hI with ⟨y, e1, hI', hm⟩ | ⟨o, e1, hR⟩
  ·obtain ⟨o, g1, hR⟩ := DG μ I R step n y hI' om
   exact ⟨o, by show b (iter b n) x = _; rw [e1, g1], hR⟩
  ·exact ⟨o, e1 _, hR⟩
theorem ZP (p0 p1 : LB) (h0 : p0.length ≤ 1073741824) (h1 : p1.length ≤ 1073741824) : ∃ o, iter (Cz p0 p1) Ay (0 : Int) = some o ∧
  (∀ a, o = .inr (.inl a) → ∃ (i : Nat) (g0 : i < p0.length) (g1 : i < p1.length), a = (i : Int) ∧ (128 : Int) ≤ ior .u8 (p0[i].toNat : Int) (p1[i].toNat : Int)) := by
 refine DG (b := Cz p0 p1) (fun x => p0.length - x.toNat) (fun x => ∃ i : Nat, x = (i : Int) ∧ i ≤ p0.length) _ ?_ Ay (0 : Int) ⟨0, rfl, Nat.zero_le _⟩ (by unfold Ay; omega)
 rintro _ ⟨i, rfl, hi⟩
 by_cases hlt : i < p0.length ∧ i < p1.length
 ·obtain ⟨g0, g1⟩ := hlt
  have hmin : decide ((i : Int) < (if (p1.length : Int) < (p0.length : Int) then (p1.length : Int) else (p0.length : Int))) = true := by
   apply dT; split <;> omega
  have hb : ∀ rec, Cz p0 p1 rec (i : Int) = cond (decide ((128 : Int) ≤ (ior .u8 (p0[i].toNat : Int) (p1[i].toNat : Int))))
    (some (.inr (.inl (i : Int)))) (cond ((p1[i].toNat : Int) == (p0[i].toNat : Int)) (rec ((i + 1 : Nat) : Int))
     (cond (decide ((p1[i].toNat : Int) < (p0[i].toNat : Int)))
      (cond (((decide ((65 : Int) ≤ (p1[i].toNat : Int))) && (decide ((p1[i].toNat : Int) ≤ (90 : Int)))) && ((p0[i].toNat : Int) == (IntKind.wrap .u8 ((IntKind.wrap .u8 ((p1[i].toNat : Int) + (97 : Int))) - (65 : Int))))) (rec ((i + 1 : Nat) : Int)) (some (.inr (.inr false))))
      (cond (((decide ((65 : Int) ≤ (p0[i].toNat : Int))) && (decide ((p0[i].toNat : Int) ≤ (90 : Int)))) && ((p1[i].toNat : Int) == (IntKind.wrap .u8 ((IntKind.wrap .u8 ((p0[i].toNat : Int) + (97 : Int))) - (65 : Int))))) (rec ((i + 1 : Nat) : Int)) (some (.inr (.inr false)))))) := by
   intro rec
   unfold Cz
   simp only [Ar]
   rw [hmin, cT, A6 g0, bS, A6 g1, bS, w64 om om]
   rfl
  have go : ∃ y : Int, y = ((i + 1 : Nat) : Int) ∧ (∃ i : Nat, y = (i : Int) ∧ i ≤ p0.length) ∧ p0.length - y.toNat < p0.length - ((i : Nat) : Int).toNat := ⟨_, rfl, ⟨_, rfl, g0⟩, by omega⟩
  obtain ⟨y, hy, hI, hm⟩ := go
  cases c1 : decide ((128 : Int) ≤ (ior .u8 (p0[i].toNat : Int) (p1[i].toNat : Int))) with
  | true =>
   right
   exact ⟨.inr (.inl (i : Int)), fun rec => by rw [hb, c1, cT], fun a ha => by
    injection ha with ha; injection ha with ha
    exact ⟨i, g0, g1, ha.symm, of_decide_eq_true c1⟩⟩
  | false =>
   have fin : ∀ o : Unit ⊕ Int ⊕ Bool, o = .inr (.inr false) → ∀ a, o = .inr (.inl a) → ∃ (i : Nat) (g0 : i < p0.length) (g1 : i < p1.length), a = (i : Int) ∧ (128 : Int) ≤ ior .u8 (p0[i].toNat : Int) (p1[i].toNat : Int) := by
    rintro o rfl a ha; cases ha
   cases c2 : ((p1[i].toNat : Int) == (p0[i].toNat : Int)) with
   | true => exact .inl ⟨y, fun rec => by rw [hb, c1, cF, c2, cT, hy], hI, hm⟩
   | false =>
    cases c3 : decide ((p1[i].toNat : Int) < (p0[i].toNat : Int)) with
    | true =>
     cases c4 : (((decide ((65 : Int) ≤ (p1[i].toNat : Int))) && (decide ((p1[i].toNat : Int) ≤ (90 : Int)))) && ((p0[i].toNat : Int) == (IntKind.wrap .u8 ((IntKind.wrap .u8 ((p1[i].toNat : Int) + (97 : Int))) - (65 : Int))))) with
     | true => exact .inl ⟨y, fun rec => by rw [hb, c1, cF, c2, cF, c3, cT, c4, cT, hy], hI, hm⟩
     | false => exact .inr ⟨_, fun rec => by rw [hb, c1, cF, c2, cF, c3, cT, c4, cF], fin _ rfl⟩
    | false =>
     cases c4 : (((decide ((65 : Int) ≤ (p0[i].toNat : Int))) && (decide ((p0[i].toNat : Int) ≤ (90 : Int)))) && ((p1[i].toNat : Int) == (IntKind.wrap .u8 ((IntKind.wrap .u8 ((p0[i].toNat : Int) + (97 : Int))) - (65 : Int))))) with
     | true => exact .inl ⟨y, fun rec => by rw [hb, c1, cF, c2, cF, c3, cF, c4, cT, hy], hI, hm⟩
     | false => exact .inr ⟨_, fun rec => by rw [hb, c1, cF, c2, cF, c3, cF, c4, cF], fin _ rfl⟩
 ·right
  have hmin : decide ((i : Int) < (if (p1.length : Int) < (p0.length : Int) then (p1.length : Int) else (p0.length : Int))) = false := by
   apply dF; split <;> omega
  exact ⟨.inl (), fun rec => by unfold Cz; rw [hmin, cF], fun a ha => by cases ha⟩
theorem eC (c rn : Int) (hc : c = 120 ∨ c = 109 ∨ c = 108) (hr : 128 ≤ rn) : iter (B9 c rn) Ay (c - 32) = some c := by
 obtain ⟨m, hm⟩ : ∃ m, Ay = m + 1 + 1 := ⟨Ay - 2, by unfold Ay; rfl⟩
 rw [hm, Co]
 unfold B9
 have h1 : ((c - 32 != c) && decide (c - 32 < rn)) = true := by simp; omega
 rw [h1, cT]
 have h2 : DO (c - 32) = some c := by
  rcases hc with rfl | rfl | rfl <;> rfl
 rw [h2, bS]
 show iter (B9 c rn) (m + 1) c = some c
 rw [Co]
 unfold B9
 have h3 : ((c != c) && decide (c < rn)) = false := by simp
 rw [h3, cF]
def Xt (l : LB) : Prop := l = [120, 109, 108] ∨ l = [109, 108] ∨ l = [108] ∨ l = []
theorem eg (s : LB) (hs : s.length ≤ 1073741824) (l : LB) (hl : Xt l) : ∃ o, iter (BG s) Ay (l, (0 : Nat)) = some o ∧ True := by
 refine DG (b := BG s) (fun x => s.length - x.2) (fun x => Xt x.1) _ ?_ Ay (l, (0 : Nat)) hl (by unfold Ay; dsimp only; omega)
 rintro ⟨a, p⟩ hx
 dsimp only at hx ⊢
 by_cases hp : p < s.length
 ·obtain ⟨r1, r2⟩ := YE s p
  obtain ⟨d1, d2, _⟩ := DY s p hp
  have hw : s.length - (p + wdS s p) < s.length - p := by rw [r2]; omega
  have core : ∀ (c : UInt8) (t : LB), a = c :: t → ((c.toNat : Int) = 120 ∨ (c.toNat : Int) = 109 ∨ (c.toNat : Int) = 108) → DR a = some ((c.toNat : Int), 1) → Xt t →
    (∃ y : LB × Nat, (∀ rec, BG s rec (a, p) = rec y) ∧ Xt y.1 ∧ s.length - y.2 < s.length - p) ∨ (∃ o, (∀ rec, BG s rec (a, p) = some o) ∧ True) := by
   intro c t ha hc hd ht
   have hsl : slc a (1 : Int) (a.length : Int) = some t := by rw [YZ (by rw [ha]; simp), ha]; rfl
   generalize hrn : rnS s p = rn at *
   have hb : ∀ rec, BG s rec (a, p) = cond ((c.toNat : Int) == rn) (rec (t, p + wdS s p)) (cond (decide ((c.toNat : Int) < rn))
     (cond (decide (rn < (128 : Int))) (cond (((decide ((65 : Int) ≤ (c.toNat : Int))) && (decide ((c.toNat : Int) ≤ (90 : Int)))) && (rn == (IntKind.wrap .i32 ((IntKind.wrap .i32 ((c.toNat : Int) + (97 : Int))) - (65 : Int))))) (rec (t, p + wdS s p)) (some (.inr false)))
      ((DO (c.toNat : Int)).bind fun x102 => (iter (B9 (c.toNat : Int) rn) Ay x102).bind fun o => cond (o == rn) (rec (t, p + wdS s p)) (some (.inr false))))
     (cond (decide ((c.toNat : Int) < (128 : Int))) (cond (((decide ((65 : Int) ≤ rn)) && (decide (rn ≤ (90 : Int)))) && ((c.toNat : Int) == (IntKind.wrap .i32 ((IntKind.wrap .i32 (rn + (97 : Int))) - (65 : Int))))) (rec (t, p + wdS s p)) (some (.inr false)))
      ((DO rn).bind fun x102 => (iter (B9 rn (c.toNat : Int)) Ay x102).bind fun o => cond (o == (c.toNat : Int)) (rec (t, p + wdS s p)) (some (.inr false))))) := by
    intro rec
    unfold BG
    simp only [Ar]
    rw [dT hp, cT, show ((a.length : Int) == 0) = false by rw [ha]; simp; omega, cF, hd, bS]
    dsimp only
    rw [hsl, bS, hrn]
   have two : ∀ k : Bool, (∃ y : LB × Nat, (∀ rec : LB × Nat → Option (LB ⊕ Bool), cond k (rec (t, p + wdS s p)) (some (.inr false)) = rec y) ∧ Xt y.1 ∧ s.length - y.2 < s.length - p) ∨ (∃ o, (∀ rec : LB × Nat → Option (LB ⊕ Bool), cond k (rec (t, p + wdS s p)) (some (.inr false)) = some o) ∧ True) := by
    intro k
    cases k with
    | true => exact .inl ⟨(t, p + wdS s p), fun _ => rfl, ht, hw⟩
    | false => exact .inr ⟨_, fun _ => rfl, trivial⟩
   simp only [hb]
   cases ((c.toNat : Int) == rn) with
   | true => exact .inl ⟨(t, p + wdS s p), fun _ => rfl, ht, hw⟩
   | false =>
    simp only [cF]
    by_cases c3 : (c.toNat : Int) < rn
    ·rw [dT c3]
     simp only [cT]
     by_cases c4 : rn < 128
     ·rw [dT c4]
      simp only [cT]
      exact two _
     ·rw [dF c4]
      have hf : DO (c.toNat : Int) = some ((c.toNat : Int) - 32) := by rcases hc with h | h | h <;> rw [h] <;> rfl
      simp only [cF, hf, bS, eC _ rn hc om]
      exact two _
    ·rw [dF c3, dT (show (c.toNat : Int) < 128 by omega)]
     simp only [cF, cT]
     exact two _
  rcases hx with h | h | h | h
  ·exact core 120 [109, 108] h (.inl rfl) (by rw [h]; rfl) (.inr (.inl rfl))
  ·exact core 109 [108] h (.inr (.inl rfl)) (by rw [h]; rfl) (.inr (.inr (.inl rfl)))
  ·exact core 108 [] h (.inr (.inr rfl)) (by rw [h]; rfl) (.inr (.inr (.inr rfl)))
  ·right
   refine ⟨.inr false, fun rec => ?_, trivial⟩
   unfold BG
   dsimp only
   rw [dT hp, cT, h]; rfl
 ·right
  refine ⟨.inl a, fun rec => ?_, trivial⟩
  unfold BG
  dsimp only
  rw [dF hp, cF]
theorem Rc (w : LB) (hw : w.length ≤ 1073741824) : ∃ r, AZ w [120, 109, 108] = some r := by
 obtain ⟨o, e1, e2⟩ := ZP w [120, 109, 108] hw (by simp)
 unfold AZ
 simp only [Ar]
 rw [e1, bS]
 match o, e2 with
 | .inl _, _ => exact ⟨_, rfl⟩
 | .inr (.inr r), _ => exact ⟨_, rfl⟩
 | .inr (.inl a), e2 =>
  obtain ⟨i, g0, g1, rfl, _⟩ := e2 a rfl
  have hx : Xt (([120, 109, 108] : LB).drop i) := by
   match i, g1 with
   | 0, _ => exact .inl rfl
   | 1, _ => exact .inr (.inl rfl)
   | 2, _ => exact .inr (.inr (.inl rfl))
  dsimp only
  rw [CV (Nat.le_of_lt g0), bS, CV (Nat.le_of_lt g1), bS]
  obtain ⟨o2, f1, _⟩ := eg (w.drop i) (by rw [lD]; omega) _ hx
  rw [f1, bS]
  cases o2 with
  | inl q => exact ⟨_, rfl⟩
  | inr q => exact ⟨_, rfl⟩
theorem Wu (w v : LB) (hw : w.length ≤ 1073741824) (hv : v.length ≤ 1073741824) (h1 : ∀ b ∈ w, b.toNat < 128) (h2 : ∀ b ∈ v, b.toNat < 128) : ∃ r, AZ w v = some r := by
 obtain ⟨o, e1, e2⟩ := ZP w v hw hv
 unfold AZ
 simp only [Ar]
 rw [e1, bS]
 match o, e2 with
 | .inl _, _ => exact ⟨_, rfl⟩
 | .inr (.inr r), _ => exact ⟨_, rfl⟩
 | .inr (.inl a), e2 =>
  obtain ⟨i, g0, g1, rfl, h⟩ := e2 a rfl
  have a1 := h1 _ (List.getElem_mem g0)
  have a2 := h2 _ (List.getElem_mem g1)
  have e : ior .u8 (w[i].toNat : Int) (v[i].toNat : Int) = ((w[i].toNat ||| v[i].toNat : Nat) : Int) := u8_or_nat _ _ om om
  have := Nat.or_lt_two_pow (n := 7) a1 a2
  rw [e] at h; omega
theorem GD (l w : LB) : CZ l w = some (if w.isPrefixOf l = true then (l.drop w.length, true) else (l, false)) := by
 have hh : Dg l w = some (w.isPrefixOf l) := by
  unfold Dg
  simp only [Ar]
  rw [FI]
  by_cases h : w.length ≤ l.length
  ·rw [dT (show (w.length : Int) ≤ (l.length : Int) by omega), cT, Hh h, bS, dT h, Bool.true_and]
  ·rw [dF (show ¬ (w.length : Int) ≤ (l.length : Int) by omega), cF, dF h, Bool.false_and]
 unfold CZ D1
 rw [hh, bS]
 cases h : w.isPrefixOf l with
 | false => rfl
 | true =>
  have h2 := h
  rw [FI, Bool.and_eq_true, decide_eq_true_eq] at h2
  rw [bT, cF, CV h2.1]; rfl
theorem IF {p : UInt8 → Bool} : ∀ {l : LB}, l.dropWhile p = [] → ∀ b ∈ l, p b = true
 | [], _, b, hb => by cases hb
 | c :: l, h, b, hb => by
  rw [List.dropWhile_cons] at h
  split at h
  ·rename_i hc
   rcases List.mem_cons.1 hb with rfl | hb
   ·exact hc
   ·exact IF h b hb
  ·cases h
theorem Kd {p : UInt8 → Bool} : ∀ {l : LB}, (∀ b ∈ l.dropWhile p, p b = true) → l.dropWhile p = []
 | [], _ => rfl
 | c :: l, h => by
  rw [List.dropWhile_cons] at h ⊢
  split
  ·rename_i hc
   rw [if_pos hc] at h
   exact Kd h
  ·rename_i hc
   rw [if_neg hc] at h
   exact absurd (h c (List.mem_cons_self ..)) hc
theorem W1 {l cs : LB} (h : Lib.trimS l cs = []) : ∀ b ∈ l, cs.contains b = true := by
 unfold Lib.trimS Lib.trimLeftS Lib.trimRightS at h
 have h1 := IF h
 have h2 : l.reverse.dropWhile (cs.contains ·) = [] := Kd (fun b hb => h1 b (by rw [List.mem_reverse]; exact hb))
 have h3 := IF h2
 exact fun b hb => h3 b (by rw [List.mem_reverse]; exact hb)
theorem VI (w v : LB) (hv : v.length ≤ 1073741824) : ∃ r, FN w v = some r ∧ (w = [101, 110, 99, 111, 100, 105, 110, 103] → r = true → ∀ b ∈ v, b.toNat < 128) := by
 unfold FN
 by_cases c1 : w = [118, 101, 114, 115, 105, 111, 110]
 ·rw [show (w == ([118, 101, 114, 115, 105, 111, 110] : LB)) = true by rw [c1]; rfl, cT, GD, bS]
  have hne : w ≠ [101, 110, 99, 111, 100, 105, 110, 103] := by rw [c1]; decide
  simp only [Ar]
  generalize hx : (if ([49, 46] : LB).isPrefixOf v = true then (v.drop ([49, 46] : LB).length, true) else (v, false)) = x
  have hxl : x.1.length ≤ 1073741824 := by
   rw [← hx]; split
   ·dsimp only; rw [lD]; omega
   ·exact hv
  have ht : HW x.1 [48, 49, 50, 51, 52, 53, 54, 55, 56, 57] = some (Lib.trimS x.1 [48, 49, 50, 51, 52, 53, 54, 55, 56, 57]) := by
   unfold HW; rw [if_pos ⟨by omega, by decide, by decide⟩]
  rw [ht]
  cases x.2 && !(x.1 == []) with
  | true => exact ⟨_, rfl, fun h => absurd h hne⟩
  | false => exact ⟨_, rfl, fun h => absurd h hne⟩
 ·rw [show (w == ([118, 101, 114, 115, 105, 111, 110] : LB)) = false by simpa using c1, cF]
  by_cases c2 : w = [101, 110, 99, 111, 100, 105, 110, 103]
  ·rw [show (w == ([101, 110, 99, 111, 100, 105, 110, 103] : LB)) = true by rw [c2]; rfl, cT]
   simp only [Ar]
   by_cases c3 : v = []
   ·rw [show (v == ([] : LB)) = true by simp [c3]]
    exact ⟨false, rfl, fun _ h => by cases h⟩
   ·have hpos : 0 < v.length := List.length_pos_iff.2 c3
    rw [show (v == ([] : LB)) = false by simpa using c3, bF, cT, show (0 : Int) = ((0 : Nat) : Int) from rfl, A6 hpos, bS]
    unfold FR
    rw [Ug, bS]
    cases decide (((0 : Nat) : Int) ≤ Lib.indexByte _ v[0]) with
    | false => exact ⟨false, rfl, fun _ h => by cases h⟩
    | true =>
     rw [cT]
     unfold HW
     rw [if_pos ⟨by omega, by decide, by decide⟩, bS]
     refine ⟨_, rfl, fun _ h b hb => ?_⟩
     have h2 := W1 (eq_of_beq h) b hb
     have h3 := Y0 (p := fun c => !(([65, 66, 67, 68, 69, 70, 71, 72, 73, 74, 75, 76, 77, 78, 79, 80, 81, 82, 83, 84, 85, 86, 87, 88, 89, 90, 97, 98, 99, 100, 101, 102, 103, 104, 105, 106, 107, 108, 109, 110, 111, 112, 113, 114, 115, 116, 117, 118, 119, 120, 121, 122, 48, 49, 50, 51, 52, 53, 54, 55, 56, 57, 46, 95, 45] : LB).contains c) || decide (c.toNat < 128)) (by decide +kernel) b
     rw [h2] at h3
     simpa using h3
  ·rw [show (w == ([101, 110, 99, 111, 100, 105, 110, 103] : LB)) = false by simpa using c2, cF]
   exact ⟨_, rfl, fun h => absurd h c2⟩
theorem HJ : ∀ {s sub : LB} {n : Nat}, Lib.index s sub = (n : Int) → sub ≠ [] → sub.isPrefixOf (s.drop n) = true ∧ n + sub.length ≤ s.length
 | [], sub, n, h, hne => by
  simp only [Lib.index] at h
  split at h
  ·rename_i he
   exact absurd (by simpa using he) hne
  ·omega
 | b :: l, sub, n, h, hne => by
  simp only [Lib.index] at h
  split at h
  ·rename_i hp
   have : n = 0 := by omega
   subst this
   have h2 := hp
   rw [FI, Bool.and_eq_true, decide_eq_true_eq] at h2
   exact ⟨hp, by omega⟩
  ·split at h
   ·omega
   ·cases n with
    | zero =>
     have := Lib.index_ge l sub
     rename_i h1
     have h3 : Lib.index l sub ≠ -1 := by simpa using h1
     omega
    | succ n =>
     have := HJ (s := l) (sub := sub) (n := n) om hne
     exact ⟨this.1, by rw [lC]; omega⟩
theorem Q3 : ∀ {l : LB} {c : UInt8} {n : Nat}, Lib.indexByte l c = (n : Int) → l[n]? = some c
 | [], c, n, h => by simp [Lib.indexByte] at h
 | b :: l, c, n, h => by
  simp only [Lib.indexByte] at h
  split at h
  ·rename_i hb
   have : n = 0 := by omega
   subst this
   have : b = c := by simpa using hb
   subst this; rfl
  ·split at h
   ·omega
   ·rename_i h1
    have := Lib.indexByte_ge l c
    have h3 : Lib.indexByte l c ≠ -1 := by simpa using h1
    cases n with
    | zero => omega
    | succ n =>
     have := Q3 (l := l) (c := c) (n := n) om
     simpa using this
theorem NW (c : Int) : ∃ r, F9 c = some r := by
 unfold F9
 cases (decide ((48 : Int) ≤ c)) && (decide (c ≤ (57 : Int))) with
 | true => exact ⟨_, rfl⟩
 | false =>
  cases (decide ((97 : Int) ≤ c)) && (decide (c ≤ (102 : Int))) with
  | true => exact ⟨_, rfl⟩
  | false => cases (decide ((65 : Int) ≤ c)) && (decide (c ≤ (70 : Int))) <;> exact ⟨_, rfl⟩
theorem YH (a : LB) (k : Int) (ha : a.length ≤ 1073741824) : ∃ o, iter (B8 a k) Ay ((0 : Int), (0 : Int)) = some o ∧ True := by
 refine CC (b := B8 a k) (fun i x => ∃ n : Int, x = (n, (i : Int))) _ a.length (x0 := ((0 : Int), (0 : Int))) ⟨0, rfl⟩ ?_ ?_ (n := Ay) (by unfold Ay; omega)
 ·rintro i x rec hi ⟨n, rfl⟩
  obtain ⟨r, hr⟩ := NW (a[i].toNat : Int)
  unfold B8
  dsimp only
  rw [dT om, cT, A6 hi, bS, hr, bS]
  cases decide (k ≤ r) with
  | true => exact .inr ⟨_, rfl, trivial⟩
  | false =>
   rw [cF, w64 (x := (i : Int) + 1) om om]
   exact .inl ⟨_, rfl, _, rfl⟩
 ·rintro x rec ⟨n, rfl⟩
  unfold B8
  dsimp only
  rw [dF om, cF]
  exact ⟨_, rfl, trivial⟩
theorem UD (s : LB) (hs : s.length ≤ 1073741824) : ∃ r, EI s = some r := by
 unfold EI
 cases s == ([108, 116] : LB) with
 | true => exact ⟨_, rfl⟩
 | false =>
 cases s == ([103, 116] : LB) with
 | true => exact ⟨_, rfl⟩
 | false =>
 cases s == ([97, 109, 112] : LB) with
 | true => exact ⟨_, rfl⟩
 | false =>
 cases s == ([97, 112, 111, 115] : LB) with
 | true => exact ⟨_, rfl⟩
 | false =>
 cases s == ([113, 117, 111, 116] : LB) with
 | true => exact ⟨_, rfl⟩
 | false =>
  simp only [cF]
  rw [GD, bS]
  generalize hx : (if ([35] : LB).isPrefixOf s = true then (s.drop ([35] : LB).length, true) else (s, false)) = x
  have hxl : x.1.length ≤ 1073741824 := by
   rw [← hx]; split
   ·dsimp only; rw [lD]; omega
   ·exact hs
  simp only [Ar]
  rw [GD, bS]
  generalize hy : (if ([120] : LB).isPrefixOf x.1 = true then (x.1.drop ([120] : LB).length, true) else (x.1, false)) = y
  have hyl : y.1.length ≤ 1073741824 := by
   rw [← hy]; split
   ·dsimp only; rw [lD]; omega
   ·exact hxl
  have core : ∀ (a : LB) (k : Int), a.length ≤ 1073741824 → ∃ r : Int × Int, cond ((!x.2) || (a == ([] : LB))) (some ((0 : Int), (22 : Int))) ((iter (B8 a k) Ay ((0 : Int), (0 : Int))).bind fun o => match o with
    | .inl o1 => (Eh (IntKind.wrap .i32 o1)).bind fun x34 => cond (!x34) (some ((0 : Int), (21 : Int))) (some ((IntKind.wrap .i32 o1), (0 : Int)))
    | .inr o1 => some o1) = some r := by
   intro a k ha
   cases (!x.2) || (a == ([] : LB)) with
   | true => exact ⟨_, rfl⟩
   | false =>
    obtain ⟨o, e, _⟩ := YH a k ha
    rw [cF, e, bS]
    cases o with
    | inr q => exact ⟨_, rfl⟩
    | inl q =>
     dsimp only
     rw [OS, bS]
     cases Fu (IntKind.wrap .i32 q) <;> exact ⟨_, rfl⟩
  cases y.2 with
  | true => exact core y.1 16 hyl
  | false => exact core x.1 10 hxl
theorem PN (p : LB) (i : Nat) (hi : i < p.length) (hp : p.length ≤ 1073741824) : ∃ (r n e : Int), Dr p (i : Int) = some (r, n, e) ∧ (e = 0 → ∃ m : Nat, n = (m : Int) ∧ i < m ∧ m ≤ p.length) := by
 unfold Dr
 simp only [Ar]
 rw [dF (show ¬ (i : Int) < 0 by omega), dF (show ¬ (p.length : Int) ≤ (i : Int) by omega), show (false || false) = false from rfl, cF, A6 hi, bS]
 by_cases h38 : (p[i].toNat : Int) = 38
 ·rw [show ((p[i].toNat : Int) != 38) = false by simpa using h38, cF, CV (Nat.le_of_lt hi), bS]
  unfold Ds
  rw [bS]
  by_cases hn : Lib.indexByte (p.drop i) (59 : Int).toNat.toUInt8 < 0
  ·rw [dT hn, cT]
   exact ⟨_, _, _, rfl, fun h => by cases h⟩
  ·obtain ⟨n, e1, e2⟩ := Kr _ _ hn
   have hg := Q3 e1
   have hn0 : n ≠ 0 := by
    intro h0
    subst h0
    rw [List.getElem?_drop, Nat.add_zero, List.getElem?_eq_getElem hi] at hg
    injection hg with hg
    rw [hg] at h38
    exact absurd h38 dc
   rw [lD] at e2
   rw [dF hn, cF, e1, w64 (x := (i : Int) + 1) om om, w64 (x := (i : Int) + (n : Int)) om om]
   have hsl : slc p ((i : Int) + 1) ((i : Int) + (n : Int)) = some ((p.drop (i + 1)).take (n - 1)) := by
    unfold slc; rw [if_pos om]
    rw [show ((i : Int) + 1).toNat = i + 1 by omega, show ((i : Int) + (n : Int)).toNat - (i + 1) = n - 1 by omega]
   rw [hsl, bS]
   obtain ⟨r, hr⟩ := UD ((p.drop (i + 1)).take (n - 1)) (by rw [List.length_take, lD]; omega)
   rw [hr, bS]
   by_cases h2 : r.2 = 0
   ·rw [show (r.2 != 0) = false by simpa using h2, cF, w64 om om]
    exact ⟨_, _, _, rfl, fun _ => ⟨i + n + 1, by omega, by omega, by omega⟩⟩
   ·rw [show (r.2 != 0) = true by simpa using h2, cT]
    exact ⟨_, _, _, rfl, fun h => absurd h h2⟩
 ·rw [show ((p[i].toNat : Int) != 38) = true by simpa using h38, cT]
  exact ⟨_, _, _, rfl, fun h => by cases h⟩
theorem VB (r : Int) : (Utf8.encode r).data.toList.length ≤ 4 := by
 have h : (Utf8.encode r).data.size ≤ 4 := encode_size_le r
 rw [Array.length_toList]; exact h
theorem My (p : LB) (v : Bool) (hp : p.length ≤ 1073741824) : ∃ r, DQ p v = some r := by
 obtain ⟨o, e, _⟩ := DG (b := A7 p v) (fun x => p.length - x.2.toNat) (fun x => ∃ (l : LB) (i : Nat), x = (l, (i : Int)) ∧ i ≤ p.length ∧ l.length ≤ 4 * i) (fun _ => True) (by
  rintro _ ⟨l, i, rfl, hi, hl⟩
  by_cases hlt : i < p.length
  ·obtain ⟨d1, d2, _⟩ := DY p i hlt
   have hnext := Ko p i hlt hp
   have J : ∀ (c : Int) (m : Nat), i < m → m ≤ p.length → ∃ y : LB × Int, (∀ rec : LB × Int → Option (LB ⊕ (LB × Int × Int)), ((app 1 l (Utf8.encode c).data.toList).bind fun _ => rec ((l ++ (Utf8.encode c).data.toList), (m : Int))) = rec y) ∧ (∃ (l : LB) (i : Nat), y = (l, (i : Int)) ∧ i ≤ p.length ∧ l.length ≤ 4 * i) ∧ p.length - y.2.toNat < p.length - i := by
    intro c m h1 h2
    have := VB c
    refine ⟨(l ++ (Utf8.encode c).data.toList, (m : Int)), fun rec => ?_, ⟨_, m, rfl, h2, by rw [lA]; omega⟩, by dsimp only; omega⟩
    rw [CU om om, bS]
   have hbody : ∀ rec, A7 p v rec (l, (i : Int)) = (FH p (i : Int)).bind fun x63 => cond (x63.2.2 != (0 : Int)) (some (.inr (([] : LB), (i : Int), x63.2.2)))
     (cond (x63.1 == (60 : Int)) (some (.inr (([] : LB), (i : Int), (23 : Int)))) (cond ((!v) && ([93, 93, 62] : LB).isPrefixOf (p.drop i)) (some (.inr (([] : LB), (i : Int), (23 : Int))))
      (cond (x63.1 == (38 : Int)) ((Dr p (i : Int)).bind fun x101 => cond (x101.2.2 != (0 : Int)) (some (.inr (([] : LB), (i : Int), x101.2.2))) ((app 1 l (Utf8.encode x101.1).data.toList).bind fun _ => rec ((l ++ (Utf8.encode x101.1).data.toList), x101.2.1)))
       (cond (v && (((x63.1 == (9 : Int)) || (x63.1 == (10 : Int))) || (x63.1 == (13 : Int)))) ((app 1 l (Utf8.encode 32).data.toList).bind fun _ => rec ((l ++ (Utf8.encode 32).data.toList), x63.2.1)) ((app 1 l (Utf8.encode x63.1).data.toList).bind fun _ => rec ((l ++ (Utf8.encode x63.1).data.toList), x63.2.1)))))) := by
    intro rec
    unfold A7
    simp only [Ar]
    rw [dT om, cT]
    congr 1
    funext x63
    cases x63.2.2 != (0 : Int) with
    | true => rfl
    | false =>
     cases x63.1 == (60 : Int) with
     | true => rfl
     | false =>
      cases v with
      | true => rfl
      | false =>
       simp only [cF, bF, cT, CV hi, bS, Dv, Bool.true_and]
   simp only [hbody, hnext, bS]
   cases IC (decodeL (p.drop i)) with
   | true => exact .inr ⟨_, fun _ => rfl, trivial⟩
   | false =>
    simp only [Bool.false_eq_true, if_false]
    cases Fu ((decodeL (p.drop i)).1 : Int) with
    | false => exact .inr ⟨_, fun _ => rfl, trivial⟩
    | true =>
     simp only [if_true]
     rw [show (((0 : Int)) != 0) = false from rfl]
     simp only [cF]
     cases (((decodeL (p.drop i)).1 : Int) == (60 : Int)) with
     | true => exact .inr ⟨_, fun _ => rfl, trivial⟩
     | false =>
      cases ((!v) && ([93, 93, 62] : LB).isPrefixOf (p.drop i)) with
      | true => exact .inr ⟨_, fun _ => rfl, trivial⟩
      | false =>
       simp only [cF]
       cases (((decodeL (p.drop i)).1 : Int) == (38 : Int)) with
       | true =>
        obtain ⟨r, n, e, he, hm⟩ := PN p i hlt hp
        simp only [cT, he, bS]
        by_cases h0 : e = 0
        ·obtain ⟨m, hnm, h1, h2⟩ := hm h0
         rw [show (e != 0) = false by simpa using h0]
         simp only [cF, hnm]
         obtain ⟨y, y1, y2, y3⟩ := J r m h1 h2
         exact .inl ⟨y, y1, y2, by rw [Int.toNat_natCast]; exact y3⟩
        ·rw [show (e != 0) = true by simpa using h0]
         exact .inr ⟨_, fun _ => rfl, trivial⟩
       | false =>
        simp only [cF]
        cases (v && (((((decodeL (p.drop i)).1 : Int) == (9 : Int)) || (((decodeL (p.drop i)).1 : Int) == (10 : Int))) || (((decodeL (p.drop i)).1 : Int) == (13 : Int)))) with
        | true =>
         simp only [cT]
         obtain ⟨y, y1, y2, y3⟩ := J 32 (i + (decodeL (p.drop i)).2) om d2
         exact .inl ⟨y, y1, y2, by rw [Int.toNat_natCast]; exact y3⟩
        | false =>
         simp only [cF]
         obtain ⟨y, y1, y2, y3⟩ := J ((decodeL (p.drop i)).1 : Int) (i + (decodeL (p.drop i)).2) om d2
         exact .inl ⟨y, y1, y2, by rw [Int.toNat_natCast]; exact y3⟩
  ·right
   refine ⟨.inl l, fun rec => ?_, trivial⟩
   unfold A7
   dsimp only
   rw [dF om, cF]) Ay (([] : LB), (0 : Int)) ⟨[], 0, rfl, Nat.zero_le _, by simp⟩ (by unfold Ay; dsimp only; omega)
 unfold DQ
 simp only [Ar]
 rw [e, bS]
 cases o <;> exact ⟨_, rfl⟩
abbrev Tk := TK
def nmP (l : List TP) : List LB := l.map (·.Name)
def eD (t : Tk) : Bool := ((((t.Kind == (2 : Int)) || (t.Kind == (3 : Int))) || (t.Kind == (4 : Int))) || (t.Kind == (8 : Int)))
structure JY (b : LB) (i : Nat) (t : Tk) (j : Nat) : Prop where
 lt : i < j
 at_ : t.At = (i : Int)
 nm : eD t = !(t.Name == [])
 nd : (nmP t.Pairs).Nodup
 txt : t.Kind = 5 → b[i]? ≠ some 60 ∧ (j = b.length ∨ b[j]? = some 60)
 oth : t.Kind ≠ 5 → b[i]? = some 60
 dec : t.Kind = 1 → i = 0
 len : t.Pairs.length ≤ b.length + 3
def QO (b : LB) (i : Nat) (x : Int × TS × Tk) : Prop := ∃ (e : Int) (j : Nat) (t : Tk), x = (e, ⟨b, (j : Int)⟩, t) ∧ j ≤ b.length ∧ (e = 0 → JY b i t j)
theorem Ku (b : LB) (i k : Nat) (t : Tk) (w : LB) (hw : w ≠ []) (hi : i + k ≤ b.length) (hb : b.length ≤ 1073741824) (hwl : w.length ≤ 100) : ∃ (e : Int) (j : Nat) (x : LB), Bb ⟨b, (i : Int)⟩ t (k : Int) w = some (e, ⟨b, (j : Int)⟩, ⟨t.Kind, t.At, t.Name, t.Pairs, x, t.Refs⟩) ∧ j ≤ b.length ∧ (e = 0 → i + k < j) := by
 unfold Bb
 dsimp only
 rw [w64 (x := (i : Int) + (k : Int)) om om, show (i : Int) + (k : Int) = ((i + k : Nat) : Int) by omega, CV hi, bS]
 unfold IZ
 rw [if_pos ⟨by rw [lD]; omega, by omega, hw⟩, bS]
 by_cases hn : Lib.index (b.drop (i + k)) w < 0
 ·rw [dT hn, cT]
  exact ⟨23, i, t.Text, rfl, by omega, fun h => by cases h⟩
 ·have hge := Lib.index_ge (b.drop (i + k)) w
  obtain ⟨n, e1⟩ : ∃ n : Nat, Lib.index (b.drop (i + k)) w = (n : Int) := ⟨(Lib.index (b.drop (i + k)) w).toNat, by omega⟩
  obtain ⟨_, e2⟩ := HJ e1 hw
  have hwp : 0 < w.length := List.length_pos_iff.2 hw
  rw [lD] at e2
  rw [dF hn, cF, e1, Hh (by rw [lD]; omega), bS, w64 (x := (k : Int) + (n : Int)) om om, w64 (x := (k : Int) + (n : Int) + (w.length : Int)) om om, w64 om om]
  exact ⟨0, i + (k + n + w.length), _, rfl, by omega, fun _ => by omega⟩
theorem Li {l : LB} (h : l ≠ []) : (l == ([] : LB)) = false := by simpa using h
theorem bm (b : LB) (i : Nat) (t : Tk) (hi : i < b.length) (hb : b.length ≤ 1073741824) (h60 : BZ b i [60] = false) (ht : t.At = (i : Int)) (hn : t.Name = []) (hp : t.Pairs = []) : ∃ x, BR ⟨b, (i : Int)⟩ t = some x ∧ QO b i x := by
 have hne : b[i]? ≠ some 60 := by
  rw [PA] at h60
  intro h; rw [h] at h60; simp at h60
 have core : ∀ (a : LB) (n : Nat), a.length = n → 0 < n → i + n ≤ b.length → (i + n = b.length ∨ b[i + n]? = some 60) → ∃ x, ((Dh a).bind fun x10 =>
  (GG a ([38] : LB)).bind fun x13 =>
  some (x10.2.2, (⟨b, (IntKind.wrap .i64 ((i : Int) + (a.length : Int)))⟩ : TS), (⟨(5 : Int), t.At, t.Name, t.Pairs, x10.1, x13⟩ : TK))) = some x ∧ QO b i x := by
  intro a n ha h0 hle hend
  obtain ⟨r, hr⟩ := My a false om
  unfold Dh
  rw [hr, bS, bS]
  unfold GG
  rw [bS, ha, w64 om om]
  refine ⟨_, rfl, r.2.2, i + n, ⟨5, t.At, t.Name, t.Pairs, r.1, ((Lib.countByte a 38 : Nat) : Int)⟩, by simp, hle, fun _ => ⟨by omega, ht, ?_, ?_, fun _ => ⟨hne, hend⟩, fun h => absurd rfl h, fun h => (by cases h), by show t.Pairs.length ≤ _; rw [hp]; exact Nat.zero_le _⟩⟩
  ·show (false : Bool) = !(t.Name == []); rw [hn]; rfl
  ·show (nmP t.Pairs).Nodup; rw [hp]; exact List.nodup_nil
 unfold BR
 dsimp only
 rw [CV (Nat.le_of_lt hi), bS]
 simp only [Ar]
 unfold Ds
 rw [bS]
 by_cases hx : Lib.indexByte (b.drop i) (60 : Int).toNat.toUInt8 < 0
 ·rw [dF om, cF]
  exact core (b.drop i) (b.length - i) (by simp) om om (.inl om)
 ·obtain ⟨n, e1, e2⟩ := Kr _ _ hx
  have hg := Q3 e1
  rw [List.getElem?_drop] at hg
  have h60' : ((60 : Int).toNat.toUInt8) = 60 := by decide
  rw [h60'] at hg
  have hn0 : n ≠ 0 := fun h => by subst h; exact hne hg
  rw [lD] at e2
  rw [dT om, cT, e1, Hh (by rw [lD]; omega), bS]
  exact core ((b.drop i).take n) n (by rw [List.length_take, lD]; omega) om om (.inr hg)
theorem UQ (b : LB) (i : Nat) (t : Tk) (hi : i + 2 ≤ b.length) (hb : b.length ≤ 1073741824) (h60 : b[i]? = some 60) (ht : t.At = (i : Int)) (hp : t.Pairs = []) : ∃ x, BI ⟨b, (i : Int)⟩ t = some x ∧ QO b i x := by
 unfold BI
 dsimp only
 rw [w64 (x := (i : Int) + 2) om om, show (i : Int) + 2 = ((i + 2 : Nat) : Int) by omega]
 obtain ⟨v, e, j, h1, h2, h3, h4, h5⟩ := HF b (i + 2) hi hb
 rw [h1, bS]
 dsimp only
 by_cases he : e = 0
 ·obtain ⟨h6, h7⟩ := h5 he
  obtain ⟨s1, s2⟩ := GW wsP b j h3
  rw [show (e != 0) = false by simpa using he, cF, C5 b _ j h3 hb, bS, FX b _ _ s2 hb, bS]
  cases hh : BZ b (sk wsP b j) [62] with
  | false => exact ⟨_, rfl, 23, _, _, rfl, s2, fun h => (by cases h)⟩
  | true =>
   have := B7 hh s2
   refine ⟨_, rfl, 0, sk wsP b j + 1, ⟨3, t.At, v, t.Pairs, t.Text, t.Refs⟩, rfl, by simpa using this, fun _ => ⟨by omega, ht, ?_, ?_, fun h => (by cases h), fun _ => h60, fun h => (by cases h), by show t.Pairs.length ≤ _; rw [hp]; exact Nat.zero_le _⟩⟩
   ·show (true : Bool) = !(v == []); rw [Li h6]; rfl
   ·show (nmP t.Pairs).Nodup; rw [hp]; exact List.nodup_nil
 ·rw [show (e != 0) = true by simpa using he, cT]
  exact ⟨_, rfl, e, j, _, rfl, h3, fun h => absurd h he⟩
theorem Zm (b : LB) (i : Nat) (t : Tk) (hi : i + 2 ≤ b.length) (hb : b.length ≤ 1073741824) (h60 : b[i]? = some 60) (ht : t.At = (i : Int)) (hp : t.Pairs = []) : ∃ x, Bv ⟨b, (i : Int)⟩ t = some x ∧ QO b i x := by
 unfold Bv
 dsimp only
 rw [w64 (x := (i : Int) + 2) om om, show (i : Int) + 2 = ((i + 2 : Nat) : Int) by omega]
 obtain ⟨v, e, j, h1, h2, h3, h4, h5⟩ := HF b (i + 2) hi hb
 rw [h1, bS]
 dsimp only
 by_cases he : e = 0
 ·obtain ⟨h6, h7⟩ := h5 he
  rw [show (e != 0) = false by simpa using he, cF, Js, bS]
  cases GZ v with
  | false => exact ⟨_, rfl, 24, j, _, rfl, h3, fun h => (by cases h)⟩
  | true =>
   obtain ⟨r, hr⟩ := Rc v om
   rw [bT, cF, hr, bS]
   cases r with
   | true => exact ⟨_, rfl, 29, j, _, rfl, h3, fun h => (by cases h)⟩
   | false =>
    rw [cF, DZ b j _ h3, bS]
    have okT : ∀ (k : Nat) (tx : LB), i < k → JY b i ⟨8, t.At, v, t.Pairs, tx, t.Refs⟩ k := fun k tx hk => ⟨hk, ht, by show (true : Bool) = !(v == []); rw [Li h6]; rfl, by show (nmP t.Pairs).Nodup; rw [hp]; exact List.nodup_nil, fun h => (by cases h), fun _ => h60, fun h => (by cases h), by show t.Pairs.length ≤ _; rw [hp]; exact Nat.zero_le _⟩
    cases hh : BZ b j [63, 62] with
    | true =>
     have := B7 hh h3
     rw [cT, FX b _ _ h3 hb, hh, if_pos rfl, bS]
     exact ⟨_, rfl, 0, j + 2, _, rfl, by simpa using this, fun _ => okT _ _ om⟩
    | false =>
     obtain ⟨s1, s2⟩ := GW wsP b j h3
     rw [cF, C5 b _ j h3 hb, bS]
     cases ((sk wsP b j : Nat) : Int) == (j : Int) with
     | true => exact ⟨_, rfl, 23, j, _, rfl, h3, fun h => (by cases h)⟩
     | false =>
      obtain ⟨e2, k, x, u1, u2, u3⟩ := Ku b (sk wsP b j) 0 ⟨8, t.At, v, t.Pairs, t.Text, t.Refs⟩ [63, 62] (by simp) om hb (by simp)
      rw [cF, show (0 : Int) = ((0 : Nat) : Int) from rfl, u1, bS]
      exact ⟨_, rfl, e2, k, _, rfl, u2, fun h => okT _ _ (by have := u3 h; omega)⟩
 ·rw [show (e != 0) = true by simpa using he, cT]
  exact ⟨_, rfl, e, j, _, rfl, h3, fun h => absurd h he⟩
theorem YC (k At : Int) (Nm : LB) (ps : List TP) (Tx : LB) (rf : Int) (x27 x31 : (LB × Int) × TS) (hl : ps.length ≤ 1073741824) :
  ∃ o, iter (CI k At Nm ps Tx rf x27 x31) Ay (0 : Int) = some o ∧ ((o = .inl () ∧ ∀ p ∈ ps, p.Name ≠ x27.1.1) ∨ o = .inr ((27 : Int), x31.2, ⟨k, At, Nm, ps, Tx, rf⟩)) := by
 refine CC (b := CI k At Nm ps Tx rf x27 x31) (fun i x => x = (i : Int) ∧ ∀ p ∈ ps.take i, p.Name ≠ x27.1.1) _ ps.length (x0 := (0 : Int)) ⟨rfl, by simp⟩ ?_ ?_ (n := Ay) (by unfold Ay; omega)
 ·rintro i _ rec hi ⟨rfl, hI⟩
  unfold CI
  rw [dT om, cT, A6 hi, bS]
  by_cases h : ps[i].Name = x27.1.1
  ·rw [show (ps[i].Name == x27.1.1) = true by simpa using h, cT]
   exact .inr ⟨_, rfl, .inr rfl⟩
  ·rw [show (ps[i].Name == x27.1.1) = false by simpa using h, cF, w64 om om]
   refine .inl ⟨((i + 1 : Nat) : Int), rfl, rfl, fun p hp => ?_⟩
   rw [List.take_add_one, List.getElem?_eq_getElem hi, Option.toList_some, List.mem_append, List.mem_singleton] at hp
   rcases hp with hp | rfl
   ·exact hI p hp
   ·exact h
 ·rintro _ rec ⟨rfl, hI⟩
  unfold CI
  rw [dF om, cF]
  rw [List.take_length] at hI
  exact ⟨_, rfl, .inl ⟨rfl, hI⟩⟩
theorem eH (b : LB) (i : Nat) (t : Tk) (hi : i + 1 ≤ b.length) (hb : b.length ≤ 65536) (h60 : b[i]? = some 60) (ht : t.At = (i : Int)) (hp : t.Pairs = []) : ∃ x, Cj ⟨b, (i : Int)⟩ t = some x ∧ QO b i x := by
 have hb' : b.length ≤ 1073741824 := by omega
 unfold Cj
 dsimp only
 rw [w64 (x := (i : Int) + 1) om om, show (i : Int) + 1 = ((i + 1 : Nat) : Int) by omega]
 obtain ⟨v, e, j, h1, h2, h3, h4, h5⟩ := HF b (i + 1) hi hb'
 rw [h1, bS]
 dsimp only
 by_cases he : e = 0
 case neg =>
  rw [show (e != 0) = true by simpa using he, cT]
  exact ⟨_, rfl, e, j, _, rfl, h3, fun h => absurd h he⟩
 obtain ⟨h6, h7⟩ := h5 he
 rw [show (e != 0) = false by simpa using he, cF]
 have hh := DG (b := Az) (fun x => b.length - x.2.1.toNat) (fun x => ∃ (j : Nat) (ps : List TP) (y z : LB), x = (b, (j : Int), (2 : Int), t.At, v, ps, t.Text, t.Refs, y, z) ∧ i < j ∧ j ≤ b.length ∧ ps.length ≤ j ∧ (nmP ps).Nodup) (fun o => QO b i o) ?_ Ay
  (b, (j : Int), (2 : Int), t.At, v, t.Pairs, t.Text, t.Refs, ([] : LB), ([] : LB)) ⟨j, t.Pairs, [], [], rfl, by omega, h3, by rw [hp]; simp, by rw [hp]; exact List.nodup_nil⟩ (by unfold Ay; dsimp only; omega)
 ·obtain ⟨o, e1, e2⟩ := hh
  rw [e1]
  exact ⟨o, rfl, e2⟩
 rintro _ ⟨j, ps, y, z, rfl, g1, g2, g3, g4⟩
 have okT : ∀ (kd : Int) (k : Nat), (kd = 2 ∨ kd = 4) → i < k → JY b i ⟨kd, t.At, v, ps, t.Text, t.Refs⟩ k := fun kd k hk hik => ⟨hik, ht, by rcases hk with rfl | rfl <;> (show (true : Bool) = !(v == []); rw [Li h6]; rfl), g4, fun h => (by rcases hk with rfl | rfl <;> cases h), fun _ => h60, fun h => (by rcases hk with rfl | rfl <;> cases h), by show ps.length ≤ _; omega⟩
 obtain ⟨s1, s2⟩ := GW wsP b j g2
 have hsp := C5 b (j : Int) j g2 hb'
 have hh1 := DZ b (sk wsP b j) [47, 62] s2
 have hh2 := DZ b (sk wsP b j) [62] s2
 cases c1 : BZ b (sk wsP b j) [47, 62] with
 | true =>
  right
  have hl := B7 c1 s2
  rw [c1] at hh1
  refine ⟨(0, ⟨b, ((sk wsP b j + 2 : Nat) : Int)⟩, ⟨4, t.At, v, ps, t.Text, t.Refs⟩), fun rec => ?_, 0, sk wsP b j + 2, _, rfl, by simpa using hl, fun _ => okT 4 _ (.inr rfl) om⟩
  unfold Az
  dsimp only
  rw [hsp, bS, hh1, bS, cT, FX b _ _ s2 hb', c1, if_pos rfl, bS]
  rfl
 | false =>
 rw [c1] at hh1
 cases c2 : BZ b (sk wsP b j) [62] with
 | true =>
  right
  have hl := B7 c2 s2
  rw [c2] at hh2
  refine ⟨(0, ⟨b, ((sk wsP b j + 1 : Nat) : Int)⟩, ⟨2, t.At, v, ps, t.Text, t.Refs⟩), fun rec => ?_, 0, sk wsP b j + 1, _, rfl, by simpa using hl, fun _ => okT 2 _ (.inl rfl) om⟩
  unfold Az
  dsimp only
  rw [hsp, bS, hh1, bS, cF, hh2, bS, cT, FX b _ _ s2 hb', c2, if_pos rfl, bS]
  rfl
 | false =>
 rw [c2] at hh2
 by_cases c3 : sk wsP b j = j
 ·right
  refine ⟨(23, ⟨b, ((sk wsP b j : Nat) : Int)⟩, ⟨2, t.At, v, ps, t.Text, t.Refs⟩), fun rec => ?_, 23, sk wsP b j, _, rfl, s2, fun h => (by cases h)⟩
  unfold Az
  dsimp only
  rw [hsp, bS, hh1, bS, cF, hh2, bS, cF, show (((sk wsP b j : Nat) : Int) == (j : Int)) = true by simp [c3], cT]
 have c3' : (((sk wsP b j : Nat) : Int) == (j : Int)) = false := by
  rw [bn]; omega
 obtain ⟨nm, e1, k1, n1, n2, n3, n4, n5⟩ := HF b (sk wsP b j) s2 hb'
 by_cases ce1 : e1 = 0
 case neg =>
  right
  refine ⟨(e1, ⟨b, (k1 : Int)⟩, ⟨2, t.At, v, ps, t.Text, t.Refs⟩), fun rec => ?_, e1, k1, _, rfl, n3, fun h => absurd h ce1⟩
  unfold Az
  dsimp only
  rw [hsp, bS, hh1, bS, cF, hh2, bS, cF, c3', cF, n1, bS]
  dsimp only
  rw [show (e1 != 0) = true by simpa using ce1, cT]
 obtain ⟨n6, n7⟩ := n5 ce1
 obtain ⟨e2, k2, q1, q2, q3⟩ := KC b k1 n3 hb'
 by_cases ce2 : e2 = 0
 case neg =>
  right
  refine ⟨(e2, ⟨b, (k2 : Int)⟩, ⟨2, t.At, v, ps, t.Text, t.Refs⟩), fun rec => ?_, e2, k2, _, rfl, q3, fun h => absurd h ce2⟩
  unfold Az
  dsimp only
  rw [hsp, bS, hh1, bS, cF, hh2, bS, cF, c3', cF, n1, bS]
  dsimp only
  rw [show (e1 != 0) = false by simpa using ce1, cF, q1, bS]
  dsimp only
  rw [show (e2 != 0) = true by simpa using ce2, cT]
 obtain ⟨rv, e3, k3, w1, w2, w3, w4, w5⟩ := IL b k2 q3 hb'
 by_cases ce3 : e3 = 0
 case neg =>
  right
  refine ⟨(e3, ⟨b, (k3 : Int)⟩, ⟨2, t.At, v, ps, t.Text, t.Refs⟩), fun rec => ?_, e3, k3, _, rfl, w3, fun h => absurd h ce3⟩
  unfold Az
  dsimp only
  rw [hsp, bS, hh1, bS, cF, hh2, bS, cF, c3', cF, n1, bS]
  dsimp only
  rw [show (e1 != 0) = false by simpa using ce1, cF, q1, bS]
  dsimp only
  rw [show (e2 != 0) = false by simpa using ce2, cF, w1, bS]
  dsimp only
  rw [show (e3 != 0) = true by simpa using ce3, cT]
 obtain ⟨rd, hrd⟩ := My rv true om
 have hrv : CK rv = some (rd.1, rd.2.1, rd.2.2) := by unfold CK; rw [hrd]; rfl
 by_cases ce4 : rd.2.2 = 0
 case neg =>
  right
  refine ⟨(rd.2.2, ⟨b, (k3 : Int)⟩, ⟨2, t.At, v, ps, t.Text, t.Refs⟩), fun rec => ?_, rd.2.2, k3, _, rfl, w3, fun h => absurd h ce4⟩
  unfold Az
  dsimp only
  rw [hsp, bS, hh1, bS, cF, hh2, bS, cF, c3', cF, n1, bS]
  dsimp only
  rw [show (e1 != 0) = false by simpa using ce1, cF, q1, bS]
  dsimp only
  rw [show (e2 != 0) = false by simpa using ce2, cF, w1, bS]
  dsimp only
  rw [show (e3 != 0) = false by simpa using ce3, cF, hrv, bS]
  dsimp only
  rw [show (rd.2.2 != 0) = true by simpa using ce4, cT]
 have hbody : ∀ rec, Az rec (b, (j : Int), (2 : Int), t.At, v, ps, t.Text, t.Refs, y, z) = (iter (CI 2 t.At v ps t.Text t.Refs ((nm, e1), ⟨b, (k1 : Int)⟩) ((rv, e3), ⟨b, (k3 : Int)⟩)) Ay 0).bind fun o => match o with
   | .inl _ => (app 32 ps [(⟨nm, rd.1⟩ : TP)]).bind fun _ => (some (ps ++ [(⟨nm, rd.1⟩ : TP)])).bind fun a51 => rec (b, (k3 : Int), (2 : Int), t.At, v, a51, t.Text, t.Refs, nm, rd.1)
   | .inr o1 => some o1 := by
  intro rec
  unfold Az
  dsimp only
  rw [hsp, bS, hh1, bS, cF, hh2, bS, cF, c3', cF, n1, bS]
  dsimp only
  rw [show (e1 != 0) = false by simpa using ce1, cF, q1, bS]
  dsimp only
  rw [show (e2 != 0) = false by simpa using ce2, cF, w1, bS]
  dsimp only
  rw [show (e3 != 0) = false by simpa using ce3, cF, hrv, bS]
  dsimp only
  rw [show (rd.2.2 != 0) = false by simpa using ce4, cF]
  simp only [Ar]
  rfl
 obtain ⟨o, l1, l2⟩ := YC 2 t.At v ps t.Text t.Refs ((nm, e1), ⟨b, (k1 : Int)⟩) ((rv, e3), ⟨b, (k3 : Int)⟩) om
 rcases l2 with ⟨rfl, hno⟩ | rfl
 ·left
  have w6 := w5 ce3
  refine ⟨(b, (k3 : Int), (2 : Int), t.At, v, ps ++ [(⟨nm, rd.1⟩ : TP)], t.Text, t.Refs, nm, rd.1), fun rec => ?_, ⟨k3, _, nm, rd.1, rfl, by omega, w3, by simp; omega, ?_⟩, by dsimp only; omega⟩
  ·rw [hbody, l1, bS]
   dsimp only
   rw [CU so so, bS, bS]
  ·unfold nmP at g4 ⊢
   rw [List.map_append, List.nodup_append]
   refine ⟨g4, by simp, fun a ha c hc hac => ?_⟩
   rw [List.mem_map] at ha
   obtain ⟨p, hpm, rfl⟩ := ha
   simp at hc
   subst hc
   exact hno p hpm hac
 ·right
  exact ⟨_, fun rec => by rw [hbody, l1, bS], 27, k3, _, rfl, w3, fun h => (by cases h)⟩
abbrev DeclW : List LB := [([118, 101, 114, 115, 105, 111, 110] : LB), ([101, 110, 99, 111, 100, 105, 110, 103] : LB), ([115, 116, 97, 110, 100, 97, 108, 111, 110, 101] : LB)]
theorem Yr (k : Nat) (hk : k < 3) : ∃ w, idx DeclW (k : Int) = some w ∧ w.length ≤ 10 ∧ 1 ≤ w.length ∧ DeclW.take (k + 1) = DeclW.take k ++ [w] := by
 have h : k = 0 ∨ k = 1 ∨ k = 2 := by omega
 rcases h with rfl | rfl | rfl
 ·exact ⟨_, rfl, by decide, by decide, rfl⟩
 ·exact ⟨_, rfl, by decide, by decide, rfl⟩
 ·exact ⟨_, rfl, by decide, by decide, rfl⟩
theorem Vr (b : LB) (At : Int) (Nm Tx : LB) (rf : Int) (h5 : 5 ≤ b.length) (hb : b.length ≤ 1073741824) :
  ∃ o, iter (AC) Ay (b, (5 : Int), (1 : Int), At, Nm, ([] : List TP), Tx, rf, ([] : LB), (0 : Int)) = some o ∧
  ((∃ (j : Nat) (ps : List TP) (la : LB), o = .inl (b, (j : Int), la, (1 : Int), At, Nm, ps, Tx, rf) ∧ 5 ≤ j ∧ j ≤ b.length ∧ (nmP ps).Nodup ∧ ps.length ≤ 3 ∧ la.length ≤ 1073741824 ∧ ∀ c ∈ la, c.toNat < 128) ∨
   (∃ (j : Nat) (t' : Tk), o = .inr ((23 : Int), ⟨b, (j : Int)⟩, t') ∧ j ≤ b.length)) := by
 refine DG (b := AC) (fun x => 3 - x.2.2.2.2.2.2.2.2.2.toNat) (fun x => ∃ (j k : Nat) (ps : List TP) (la : LB), x = (b, (j : Int), (1 : Int), At, Nm, ps, Tx, rf, la, (k : Int)) ∧ 5 ≤ j ∧ j ≤ b.length ∧ k ≤ 3 ∧ (nmP ps).Sublist (DeclW.take k) ∧ ps.length ≤ k ∧ la.length ≤ 1073741824 ∧ ∀ c ∈ la, c.toNat < 128) _ ?_ Ay _ ⟨5, 0, [], [], rfl, by omega, h5, by omega, List.nil_sublist _, by simp, by simp, by simp⟩ (by unfold Ay; dsimp only; omega)
 rintro _ ⟨j, k, ps, la, rfl, g1, g2, g3, g4, g5, g6, g7⟩
 by_cases hk : k < 3
 case neg =>
  right
  refine ⟨.inl (b, (j : Int), la, (1 : Int), At, Nm, ps, Tx, rf), fun rec => ?_, .inl ⟨j, ps, la, rfl, g1, g2, ?_, by omega, g6, g7⟩⟩
  ·unfold AC
   dsimp only
   rw [show decide ((k : Int) < (DeclW.length : Int)) = false from dF (show ¬ (k : Int) < ((3 : Nat) : Int) by omega), cF]
  ·exact (g4.trans (List.take_sublist _ _)).nodup dc
 obtain ⟨w, hidx, w1, w2, w3⟩ := Yr k hk
 have hkt : decide ((k : Int) < (DeclW.length : Int)) = true := dT (show (k : Int) < ((3 : Nat) : Int) by omega)
 obtain ⟨s1, s2⟩ := GW wsP b j g2
 have hsp := C5 b (j : Int) j g2 hb
 have hk1 : IntKind.wrap .i64 ((k : Int) + 1) = ((k + 1 : Nat) : Int) := by rw [w64 om om]; omega
 have skipI : ∃ (j' k' : Nat) (ps' : List TP) (la' : LB), (b, (j : Int), (1 : Int), At, Nm, ps, Tx, rf, la, ((k + 1 : Nat) : Int)) = (b, (j' : Int), (1 : Int), At, Nm, ps', Tx, rf, la', (k' : Int)) ∧ 5 ≤ j' ∧ j' ≤ b.length ∧ k' ≤ 3 ∧ (nmP ps').Sublist (DeclW.take k') ∧ ps'.length ≤ k' ∧ la'.length ≤ 1073741824 ∧ ∀ c ∈ la', c.toNat < 128 :=
  ⟨j, k + 1, ps, la, rfl, g1, g2, by omega, by rw [w3]; exact g4.trans (List.sublist_append_left _ _), by omega, g6, g7⟩
 by_cases c3 : sk wsP b j = j
 ·have c3' : (((sk wsP b j : Nat) : Int) == (j : Int)) = true := by simp [c3]
  cases hv : w == ([118, 101, 114, 115, 105, 111, 110] : LB) with
  | true =>
   right
   refine ⟨.inr ((23 : Int), ⟨b, (j : Int)⟩, ⟨1, At, Nm, ps, Tx, rf⟩), fun rec => ?_, .inr ⟨j, _, rfl, g2⟩⟩
   unfold AC
   dsimp only
   rw [hkt, cT]
   simp only [Ar]
   rw [hidx, bS, hsp, bS, c3', cT, cT, hv, cT]
  | false =>
   left
   refine ⟨_, fun rec => ?_, skipI, by dsimp only; omega⟩
   unfold AC
   dsimp only
   rw [hkt, cT]
   simp only [Ar]
   rw [hidx, bS, hsp, bS, c3', cT, cT, hv, cF, hk1]
 have c3' : (((sk wsP b j : Nat) : Int) == (j : Int)) = false := by rw [bn]; omega
 cases hh : BZ b (sk wsP b j) w with
 | false =>
  have hh' : w.isPrefixOf (b.drop (sk wsP b j)) = false := hh
  cases hv : w == ([118, 101, 114, 115, 105, 111, 110] : LB) with
  | true =>
   right
   refine ⟨.inr ((23 : Int), ⟨b, (j : Int)⟩, ⟨1, At, Nm, ps, Tx, rf⟩), fun rec => ?_, .inr ⟨j, _, rfl, g2⟩⟩
   unfold AC
   dsimp only
   rw [hkt, cT]
   simp only [Ar]
   rw [hidx, bS, hsp, bS, c3', cF, CV s2, bS, Dv, bS, hh', bF, cT, hv, cT]
  | false =>
   left
   refine ⟨_, fun rec => ?_, skipI, by dsimp only; omega⟩
   unfold AC
   dsimp only
   rw [hkt, cT]
   simp only [Ar]
   rw [hidx, bS, hsp, bS, c3', cF, CV s2, bS, Dv, bS, hh', bF, cT, hv, cF, hk1]
 | true =>
  have hh' : w.isPrefixOf (b.drop (sk wsP b j)) = true := hh
  have hl := B7 hh s2
  have hadd : IntKind.wrap .i64 (((sk wsP b j : Nat) : Int) + (w.length : Int)) = ((sk wsP b j + w.length : Nat) : Int) := by rw [w64 om om]; omega
  obtain ⟨e2, k2, q1, q2, q3⟩ := KC b (sk wsP b j + w.length) hl hb
  have pre : ∀ rec, AC rec (b, (j : Int), (1 : Int), At, Nm, ps, Tx, rf, la, (k : Int)) = cond (e2 != 0) (some (.inr ((23 : Int), ⟨b, (k2 : Int)⟩, ⟨1, At, Nm, ps, Tx, rf⟩)))
    ((Ct ⟨b, (k2 : Int)⟩).bind fun x122 =>
    (Ar (fun v125 : Bool => cond v125
     (some (.inr ((23 : Int), x122.2, (⟨1, At, Nm, ps, Tx, rf⟩ : TK))))
     ((app 32 ps [(⟨w, x122.1.1⟩ : TP)]).bind fun _ =>
      (some (ps ++ [(⟨w, x122.1.1⟩ : TP)])).bind fun a129 =>
     cond (w == ([101, 110, 99, 111, 100, 105, 110, 103] : LB))
      (rec (x122.2.b, x122.2.at_, (1 : Int), At, Nm, a129, Tx, rf, x122.1.1, ((k + 1 : Nat) : Int)))
      (rec (x122.2.b, x122.2.at_, (1 : Int), At, Nm, a129, Tx, rf, la, ((k + 1 : Nat) : Int))))) fun J124 => cond (x122.1.2 != (0 : Int)) (J124 true) ((FN w x122.1.1).bind fun x126 =>
     J124 (!x126)))) := by
   intro rec
   unfold AC
   dsimp only
   rw [hkt, cT]
   simp only [Ar]
   rw [hidx, bS, hsp, bS, c3', cF, CV s2, bS, Dv, bS, hh', bT, cF, hadd, q1, bS]
   simp only [hk1]
  by_cases ce2 : e2 = 0
  case neg =>
   right
   refine ⟨.inr ((23 : Int), ⟨b, (k2 : Int)⟩, ⟨1, At, Nm, ps, Tx, rf⟩), fun rec => ?_, .inr ⟨k2, _, rfl, q3⟩⟩
   rw [pre, show (e2 != 0) = true by simpa using ce2, cT]
  obtain ⟨rv, e3, k3, u1, u2, u3, u4, u5⟩ := IL b k2 q3 hb
  by_cases ce3 : e3 = 0
  case neg =>
   right
   refine ⟨.inr ((23 : Int), ⟨b, (k3 : Int)⟩, ⟨1, At, Nm, ps, Tx, rf⟩), fun rec => ?_, .inr ⟨k3, _, rfl, u3⟩⟩
   rw [pre, show (e2 != 0) = false by simpa using ce2, cF, u1, bS]
   simp only [Ar]
   rw [show (e3 != 0) = true by simpa using ce3, cT, cT]
  obtain ⟨r, hr, hr2⟩ := VI w rv om
  cases r with
  | false =>
   right
   refine ⟨.inr ((23 : Int), ⟨b, (k3 : Int)⟩, ⟨1, At, Nm, ps, Tx, rf⟩), fun rec => ?_, .inr ⟨k3, _, rfl, u3⟩⟩
   rw [pre, show (e2 != 0) = false by simpa using ce2, cF, u1, bS]
   simp only [Ar]
   rw [show (e3 != 0) = false by simpa using ce3, cF, hr, bS, bF, cT]
  | true =>
   left
   have hsub : (nmP (ps ++ [(⟨w, rv⟩ : TP)])).Sublist (DeclW.take (k + 1)) := by
    rw [w3]; unfold nmP at g4 ⊢; rw [List.map_append]; exact g4.append (List.Sublist.refl _)
   cases he : w == ([101, 110, 99, 111, 100, 105, 110, 103] : LB) with
   | true =>
    refine ⟨(b, (k3 : Int), (1 : Int), At, Nm, ps ++ [(⟨w, rv⟩ : TP)], Tx, rf, rv, ((k + 1 : Nat) : Int)), fun rec => ?_, ⟨k3, k + 1, _, rv, rfl, by omega, u3, by omega, hsub, by simp; omega, by omega, hr2 (by simpa using he) rfl⟩, by dsimp only; omega⟩
    rw [pre, show (e2 != 0) = false by simpa using ce2, cF, u1, bS]
    simp only [Ar]
    rw [show (e3 != 0) = false by simpa using ce3, cF, hr, bS, bT, cF, CU so so, bS, bS, he, cT]
   | false =>
    refine ⟨(b, (k3 : Int), (1 : Int), At, Nm, ps ++ [(⟨w, rv⟩ : TP)], Tx, rf, la, ((k + 1 : Nat) : Int)), fun rec => ?_, ⟨k3, k + 1, _, la, rfl, by omega, u3, by omega, hsub, by simp; omega, g6, g7⟩, by dsimp only; omega⟩
    rw [pre, show (e2 != 0) = false by simpa using ce2, cF, u1, bS]
    simp only [Ar]
    rw [show (e3 != 0) = false by simpa using ce3, cF, hr, bS, bT, cF, CU so so, bS, bS, he, cF]
theorem bx (b : LB) (t : Tk) (h5 : 5 ≤ b.length) (hb : b.length ≤ 1073741824) (h60 : b[0]? = some 60) (ht : t.At = 0) (hn : t.Name = []) (hp : t.Pairs = []) : ∃ x, CE ⟨b, (0 : Int)⟩ t = some x ∧ QO b 0 x := by
 unfold CE
 simp only [Ar]
 rw [hp]
 obtain ⟨o, e1, e2⟩ := Vr b t.At t.Name t.Text t.Refs h5 hb
 rw [e1, bS]
 rcases e2 with ⟨j, ps, la, rfl, h1, h2, h3, h7, h4, h6⟩ | ⟨j, t', rfl, h1⟩
 ·dsimp only
  obtain ⟨s1, s2⟩ := GW wsP b j h2
  rw [C5 b _ j h2 hb, bS, FX b _ _ s2 hb]
  cases hh : BZ b (sk wsP b j) [63, 62] with
  | false =>
   rw [if_neg (by simp), bS]
   exact ⟨_, rfl, 23, sk wsP b j, _, rfl, s2, fun h => (by cases h)⟩
  | true =>
   have hl := B7 hh s2
   have okT : JY b 0 ⟨1, t.At, t.Name, ps, t.Text, t.Refs⟩ (sk wsP b j + 2) := ⟨by omega, by rw [ht]; rfl, by show (false : Bool) = !(t.Name == []); rw [hn]; rfl, h3, fun h => (by cases h), fun _ => h60, fun _ => rfl, by show ps.length ≤ _; omega⟩
   rw [if_pos rfl, bS]
   dsimp only
   rw [show ((0 : Int) != 0) = false from rfl, cF]
   cases la == ([] : LB) with
   | true =>
    rw [bT, cF, cF]
    exact ⟨_, rfl, 0, sk wsP b j + 2, _, rfl, by simpa using hl, fun _ => okT⟩
   | false =>
    obtain ⟨r, hr⟩ := Wu la [117, 116, 102, 45, 56] h4 (by simp) h6 dc
    rw [bF, cT, hr, bS]
    cases r with
    | true =>
     rw [bT, cF]
     exact ⟨_, rfl, 0, sk wsP b j + 2, _, rfl, by simpa using hl, fun _ => okT⟩
    | false =>
     rw [bF, cT]
     exact ⟨_, rfl, 25, sk wsP b j + 2, _, rfl, by simpa using hl, fun h => (by cases h)⟩
 ·dsimp only
  exact ⟨_, rfl, 23, j, t', rfl, h1, fun h => (by cases h)⟩
theorem Rz (b : LB) (i : Nat) (hi : i < b.length) (hb : b.length ≤ 65536) : ∃ x, AJ ⟨b, (i : Int)⟩ ⟨(0 : Int), (i : Int), ([] : LB), ([] : List TP), ([] : LB), (0 : Int)⟩ = some x ∧ QO b i x := by
 have hb' : b.length ≤ 1073741824 := by omega
 have hle : i ≤ b.length := Nat.le_of_lt hi
 have rest : ∃ x, ((Ap (⟨b, (i : Int)⟩ : TS) ([60, 33, 45, 45] : LB)).bind fun x12 =>
    cond x12
    ((Bb ⟨b, (i : Int)⟩ (⟨(7 : Int), (i : Int), ([] : LB), ([] : List TP), ([] : LB), (0 : Int)⟩ : TK) (4 : Int) ([45, 45] : LB)).bind fun x14 =>
    cond (x14.1 != (0 : Int))
     (some (x14.1, x14.2.1, x14.2.2))
     ((Bk x14.2.1 ([62] : LB)).bind fun x17 =>
     some (x17.1, x17.2, x14.2.2)))
    ((Ap (⟨b, (i : Int)⟩ : TS) ([60, 33, 91, 67, 68, 65, 84, 65, 91] : LB)).bind fun x18 =>
    cond x18
     ((Bb ⟨b, (i : Int)⟩ (⟨(6 : Int), (i : Int), ([] : LB), ([] : List TP), ([] : LB), (0 : Int)⟩ : TK) (9 : Int) ([93, 93, 62] : LB)).bind fun x20 =>
     some (x20.1, x20.2.1, x20.2.2))
     ((Ap (⟨b, (i : Int)⟩ : TS) ([60, 33, 68, 79, 67, 84, 89, 80, 69] : LB)).bind fun x22 =>
     cond x22
     (some ((25 : Int), (⟨b, (i : Int)⟩ : TS), (⟨(0 : Int), (i : Int), ([] : LB), ([] : List TP), ([] : LB), (0 : Int)⟩ : TK)))
     ((Ap (⟨b, (i : Int)⟩ : TS) ([60, 33] : LB)).bind fun x24 =>
     cond x24
      (some ((23 : Int), (⟨b, (i : Int)⟩ : TS), (⟨(0 : Int), (i : Int), ([] : LB), ([] : List TP), ([] : LB), (0 : Int)⟩ : TK)))
      ((Ap (⟨b, (i : Int)⟩ : TS) ([60, 63] : LB)).bind fun x26 =>
      cond x26
      ((Bv (⟨b, (i : Int)⟩ : TS) ⟨(0 : Int), (i : Int), ([] : LB), ([] : List TP), ([] : LB), (0 : Int)⟩).bind fun x28 =>
      some (x28.1, x28.2.1, x28.2.2))
      ((Ap (⟨b, (i : Int)⟩ : TS) ([60, 47] : LB)).bind fun x30 =>
      cond x30
       ((BI (⟨b, (i : Int)⟩ : TS) ⟨(0 : Int), (i : Int), ([] : LB), ([] : List TP), ([] : LB), (0 : Int)⟩).bind fun x32 =>
       some (x32.1, x32.2.1, x32.2.2))
       ((Ap (⟨b, (i : Int)⟩ : TS) ([60] : LB)).bind fun x34 =>
       cond x34
       ((Cj (⟨b, (i : Int)⟩ : TS) ⟨(0 : Int), (i : Int), ([] : LB), ([] : List TP), ([] : LB), (0 : Int)⟩).bind fun x36 =>
       some (x36.1, x36.2.1, x36.2.2))
       ((BR (⟨b, (i : Int)⟩ : TS) ⟨(0 : Int), (i : Int), ([] : LB), ([] : List TP), ([] : LB), (0 : Int)⟩).bind fun x38 =>
       some (x38.1, x38.2.1, x38.2.2))))))))) = some x ∧ QO b i x := by
  rw [DZ b i _ hle, bS]
  cases c1 : BZ b i [60, 33, 45, 45] with
  | true =>
   have hl := B7 c1 hle
   obtain ⟨e, j, x, u1, u2, u3⟩ := Ku b i 4 ⟨(7 : Int), (i : Int), [], [], [], 0⟩ [45, 45] (by simp) (by simpa using hl) hb' (by simp)
   rw [cT, show (4 : Int) = ((4 : Nat) : Int) from rfl, u1, bS]
   dsimp only
   by_cases he : e = 0
   case neg =>
    rw [show (e != 0) = true by simpa using he, cT]
    exact ⟨_, rfl, e, j, _, rfl, u2, fun h => absurd h he⟩
   rw [show (e != 0) = false by simpa using he, cF, FX b j _ u2 hb']
   have := u3 he
   cases hh : BZ b j [62] with
   | false =>
    rw [if_neg (by simp), bS]
    exact ⟨_, rfl, 23, j, _, rfl, u2, fun h => (by cases h)⟩
   | true =>
    have hl2 := B7 hh u2
    rw [if_pos rfl, bS]
    exact ⟨_, rfl, 0, j + 1, _, rfl, by simpa using hl2, fun _ => ⟨by omega, rfl, rfl, List.nodup_nil, fun h => (by cases h), fun _ => Ez c1, fun h => (by cases h), Nat.zero_le _⟩⟩
  | false =>
  rw [cF, DZ b i _ hle, bS]
  cases c2 : BZ b i [60, 33, 91, 67, 68, 65, 84, 65, 91] with
  | true =>
   have hl := B7 c2 hle
   obtain ⟨e, j, x, u1, u2, u3⟩ := Ku b i 9 ⟨(6 : Int), (i : Int), [], [], [], 0⟩ [93, 93, 62] (by simp) (by simpa using hl) hb' (by simp)
   rw [cT, show (9 : Int) = ((9 : Nat) : Int) from rfl, u1, bS]
   exact ⟨_, rfl, e, j, _, rfl, u2, fun h => ⟨by have := u3 h; omega, rfl, rfl, List.nodup_nil, fun h => (by cases h), fun _ => Ez c2, fun h => (by cases h), Nat.zero_le _⟩⟩
  | false =>
  rw [cF, DZ b i _ hle, bS]
  cases c3 : BZ b i [60, 33, 68, 79, 67, 84, 89, 80, 69] with
  | true => exact ⟨_, rfl, 25, i, _, rfl, hle, fun h => (by cases h)⟩
  | false =>
  rw [cF, DZ b i _ hle, bS]
  cases c4 : BZ b i [60, 33] with
  | true => exact ⟨_, rfl, 23, i, _, rfl, hle, fun h => (by cases h)⟩
  | false =>
  rw [cF, DZ b i _ hle, bS]
  cases c5 : BZ b i [60, 63] with
  | true =>
   have hl := B7 c5 hle
   obtain ⟨x, h1, h2⟩ := Zm b i ⟨(0 : Int), (i : Int), [], [], [], 0⟩ (by simpa using hl) hb' (Ez c5) rfl rfl
   rw [cT, h1, bS]
   exact ⟨_, rfl, h2⟩
  | false =>
  rw [cF, DZ b i _ hle, bS]
  cases c6 : BZ b i [60, 47] with
  | true =>
   have hl := B7 c6 hle
   obtain ⟨x, h1, h2⟩ := UQ b i ⟨(0 : Int), (i : Int), [], [], [], 0⟩ (by simpa using hl) hb' (Ez c6) rfl rfl
   rw [cT, h1, bS]
   exact ⟨_, rfl, h2⟩
  | false =>
  rw [cF, DZ b i _ hle, bS]
  cases c7 : BZ b i [60] with
  | true =>
   obtain ⟨x, h1, h2⟩ := eH b i ⟨(0 : Int), (i : Int), [], [], [], 0⟩ hi hb (Ez c7) rfl rfl
   rw [cT, h1, bS]
   exact ⟨_, rfl, h2⟩
  | false =>
   obtain ⟨x, h1, h2⟩ := bm b i ⟨(0 : Int), (i : Int), [], [], [], 0⟩ hi hb' c7 rfl rfl rfl
   rw [cF, h1, bS]
   exact ⟨_, rfl, h2⟩
 unfold AJ
 simp only [Ar]
 by_cases h0 : i = 0
 ·subst h0
  rw [show (((0 : Nat) : Int) == (0 : Int)) = true from rfl, cT, DZ b 0 _ hle, bS]
  cases c0 : BZ b 0 [60, 63, 120, 109, 108] with
  | false => rw [cF, cF]; exact rest
  | true =>
   have hl := B7 c0 hle
   have h5 : 5 ≤ b.length := by simpa using hl
   rw [cT, show (5 : Int) = ((5 : Nat) : Int) from rfl, C5 b _ 5 h5 hb', bS]
   cases decide (((5 : Nat) : Int) < ((sk wsP b 5 : Nat) : Int)) with
   | false => rw [cF]; exact rest
   | true =>
    obtain ⟨x, h1, h2⟩ := bx b ⟨(0 : Int), ((0 : Nat) : Int), [], [], [], 0⟩ h5 hb' (Ez c0) rfl rfl rfl
    rw [cT, show (((0 : Nat) : Int)) = (0 : Int) from rfl] at *
    rw [h1, bS]
    exact ⟨_, rfl, h2⟩
 ·rw [show ((i : Int) == (0 : Int)) = false by rw [bn]; omega, cF, cF]
  exact rest
theorem MF (c : UInt8) : u8 (c.toNat : Int) = some c := by
 unfold u8
 have := c.toNat_lt
 rw [if_pos om, Int.toNat_natCast]
 simp
def lnP (p : LB) (i : Nat) : LB := if p.getD i 0 = 13 then [10] else if p.getD i 0 = 10 ∧ 0 < i ∧ p.getD (i - 1) 0 = 13 then [] else [p.getD i 0]
theorem Jt (c : UInt8) (n : Nat) (hn : n < 256) : ((c.toNat : Int) == (n : Int)) = decide (c = UInt8.ofNat n) := by
 rw [Bool.eq_iff_iff, beq_iff_eq, decide_eq_true_eq]
 have h2 : (UInt8.ofNat n).toNat = n := by show n % 256 = n; omega
 constructor
 ·intro h; apply UInt8.toNat_inj.1; rw [h2]; omega
 ·rintro rfl; rw [h2]
theorem MN (p : LB) (i : Nat) (l : LB) (hi : i < p.length) (hl : l.length ≤ i) (hp : p.length ≤ 1073741824) (rec) : DA p rec (l, (i : Int)) = rec (l ++ lnP p i, ((i + 1 : Nat) : Int)) := by
 have hk1 : IntKind.wrap .i64 ((i : Int) + 1) = ((i + 1 : Nat) : Int) := by rw [w64 om om]; omega
 have hg : p.getD i 0 = p[i] := by simp [List.getD, hi]
 unfold DA
 dsimp only
 rw [dT om, cT]
 simp only [Ar]
 rw [A6 hi, bS, hk1, show (10 : Int) = ((10 : Nat) : Int) from rfl, show (13 : Int) = ((13 : Nat) : Int) from rfl, Jt _ 10 om, Jt _ 13 om]
 have app1 : ∀ c : UInt8, app 1 l [c] = some (l ++ [c]) := fun c => CU so so
 unfold lnP
 rw [hg]
 by_cases c10 : p[i] = 10
 ·by_cases h0 : 0 < i
  ·have hi1 : i - 1 < p.length := by omega
   have hg1 : p.getD (i - 1) 0 = p[i - 1] := by simp [List.getD, hi1]
   have hk2 : IntKind.wrap .i64 ((i : Int) - 1) = ((i - 1 : Nat) : Int) := by rw [w64 om om]; omega
   rw [dT (show p[i] = UInt8.ofNat 10 from c10), dT (show (0 : Int) < (i : Int) by omega), Bool.and_self, cT, hk2, A6 hi1, bS, Jt _ 13 om, hg1, c10]
   by_cases c13 : p[i - 1] = 13
   ·rw [dT (show p[i - 1] = UInt8.ofNat 13 from c13), cT, if_neg dc, if_pos ⟨rfl, h0, c13⟩, List.append_nil]
   ·rw [dF (show ¬ p[i - 1] = UInt8.ofNat 13 from c13), cF, dF dc, cF, if_neg dc, if_neg (fun h => c13 h.2.2), MF, bS, app1, bS, bS]
  ·rw [dF (show ¬ (0 : Int) < (i : Int) by omega), Bool.and_false, cF, cF, c10, dF dc, cF, if_neg dc, if_neg (fun h => h0 h.2.1), MF, bS, app1, bS, bS]
 ·rw [dF (show ¬ p[i] = UInt8.ofNat 10 from c10), Bool.false_and, cF, cF]
  by_cases c13 : p[i] = 13
  ·rw [dT (show p[i] = UInt8.ofNat 13 from c13), cT, if_pos c13, show u8 ((10 : Nat) : Int) = some 10 from rfl, bS, app1, bS, bS]
  ·rw [dF (show ¬ p[i] = UInt8.ofNat 13 from c13), cF, if_neg c13, if_neg (fun h => c10 h.1), MF, bS, app1, bS, bS]
theorem Sv (p : LB) (i : Nat) (l : LB) (hi : i < p.length) (hl : l.length ≤ i) (hp : p.length ≤ 1073741824) (rec) : Dk p rec (l, (i : Int)) = rec (l ++ lnP p i, ((i + 1 : Nat) : Int)) := by
 have hk1 : IntKind.wrap .i64 ((i : Int) + 1) = ((i + 1 : Nat) : Int) := by rw [w64 om om]; omega
 have hg : p.getD i 0 = p[i] := by simp [List.getD, hi]
 unfold Dk
 dsimp only
 rw [dT om, cT]
 simp only [Ar, bne]
 rw [A6 hi, bS, bS, hk1, show u8 (10 : Int) = some 10 from rfl, show (10 : Int) = ((10 : Nat) : Int) from rfl, show (13 : Int) = ((13 : Nat) : Int) from rfl, Jt _ 10 om, Jt _ 13 om]
 have app1 : ∀ c : UInt8, app 1 l [c] = some (l ++ [c]) := fun c => CU so so
 unfold lnP
 rw [hg]
 by_cases c13 : p[i] = 13
 ·rw [dT (show p[i] = UInt8.ofNat 13 from c13), cT, if_pos c13, bS, app1, bS]
 ·rw [dF (show ¬ p[i] = UInt8.ofNat 13 from c13), cF, if_neg c13]
  by_cases c10 : p[i] = 10
  ·rw [dT (show p[i] = UInt8.ofNat 10 from c10), bT, Bool.false_or]
   by_cases h0 : 0 < i
   ·have hi1 : i - 1 < p.length := by omega
    have hg1 : p.getD (i - 1) 0 = p[i - 1] := by simp [List.getD, hi1]
    have hk2 : IntKind.wrap .i64 ((i : Int) - 1) = ((i - 1 : Nat) : Int) := by rw [w64 om om]; omega
    rw [show ((i : Int) == (0 : Int)) = false by rw [bn]; omega, cF, hk2, A6 hi1, bS, Jt _ 13 om, hg1, c10]
    by_cases c13' : p[i - 1] = 13
    ·rw [dT (show p[i - 1] = UInt8.ofNat 13 from c13'), bT, cF, if_pos ⟨rfl, h0, c13'⟩, List.append_nil]
    ·rw [dF (show ¬ p[i - 1] = UInt8.ofNat 13 from c13'), bF, cT, if_neg (fun h => c13' h.2.2), bS, MF, bS, app1, bS]
   ·rw [show ((i : Int) == (0 : Int)) = true by rw [beq_iff_eq]; omega, cT, cT, if_neg (fun h => h0 h.2.1), bS, MF, bS, app1, bS]
  ·rw [dF (show ¬ p[i] = UInt8.ofNat 10 from c10), bF, Bool.true_or, cT, cT, if_neg (fun h => c10 h.1), bS, MF, bS, app1, bS]
theorem Vm (p : LB) (i : Nat) : (lnP p i).length ≤ 1 := by
 unfold lnP; split
 ·simp
 ·split <;> simp
theorem WJ (p : LB) (hp : p.length ≤ 1073741824) : ∃ r, E1 p = some r ∧ Cc p = some r ∧ r.length ≤ p.length := by
 obtain ⟨o, q, e1, e2, h1, h2⟩ := Ss (b := DA p) (c := Dk p) (fun x => p.length - x.2.toNat) (fun x y => x = y ∧ ∃ (l : LB) (i : Nat), x = (l, (i : Int)) ∧ i ≤ p.length ∧ l.length ≤ i) (fun o q => o = q ∧ o.length ≤ p.length) (by
  rintro _ _ ⟨rfl, l, i, rfl, hi, hl⟩
  by_cases hlt : i < p.length
  ·left
   have := Vm p i
   exact ⟨_, _, fun rec => MN p i l hlt hl hp rec, fun rec => Sv p i l hlt hl hp rec, ⟨rfl, _, i + 1, rfl, by omega, by rw [lA]; omega⟩, by dsimp only; omega⟩
  ·right
   refine ⟨l, l, fun rec => ?_, fun rec => ?_, rfl, by omega⟩
   ·unfold DA; dsimp only; rw [dF om, cF]
   ·unfold Dk; dsimp only; rw [dF om, cF]) Ay Ay (([] : LB), (0 : Int)) (([] : LB), (0 : Int)) ⟨rfl, [], 0, rfl, Nat.zero_le _, Nat.le_refl _⟩ (by unfold Ay; dsimp only; omega) (by unfold Ay; dsimp only; omega)
 subst h1
 refine ⟨o, ?_, ?_, h2⟩
 ·unfold E1
  simp only [Ar]
  rw [show mkG 1 (0 : Int) (p.length : Int) = some () by unfold mkG; rw [if_pos om], bS, bS, show (List.replicate (Int.toNat (0 : Int)) (0 : UInt8)) = [] from rfl, e1, bS]
 ·unfold Cc
  simp only [Ar]
  rw [e2, bS]
theorem Xq (p : LB) (hp : p.length ≤ 1073741824) : ∃ r, CA p = some r ∧ BQ p = some r ∧ r.length ≤ p.length := by
 have key : ∀ a : LB, a.length ≤ p.length → (Dd p [239, 187, 191] = some a) → (∀ r, Cc a = some r → BQ p = some r) → ∃ r, CA p = some r ∧ BQ p = some r ∧ r.length ≤ p.length := by
  intro a ha h1 h2
  obtain ⟨r, r1, r2, r3⟩ := WJ a om
  refine ⟨r, ?_, h2 r r2, by omega⟩
  unfold CA
  rw [show u8 (239 : Int) = some 239 from rfl, show u8 (187 : Int) = some 187 from rfl, show u8 (191 : Int) = some 191 from rfl, bS, bS, bS, h1, bS, r1, bS]
 have no : ([239, 187, 191] : LB).isPrefixOf p = false → (∀ r, Cc p = some r → BQ p = some r) → ∃ r, CA p = some r ∧ BQ p = some r ∧ r.length ≤ p.length := by
  intro h h2
  refine key p (Nat.le_refl _) ?_ h2
  unfold Dd
  rw [Dv, bS, h, cF]
 rcases p with _ | ⟨a, _ | ⟨b, _ | ⟨c, q⟩⟩⟩
 ·exact no rfl fun r hr => (by
   unfold BQ; simp only [Ar]
   rw [dF (by simp), cF, cF, cF, cF, hr, bS])
 ·exact no (by simp [List.isPrefixOf]) fun r hr => (by
   unfold BQ; simp only [Ar]
   rw [dF (by simp), cF, cF, cF, cF, hr, bS])
 ·exact no (by simp [List.isPrefixOf]) fun r hr => (by
   unfold BQ; simp only [Ar]
   rw [dF (by simp), cF, cF, cF, cF, hr, bS])
 ·have hd : decide ((3 : Int) ≤ ((a :: b :: c :: q).length : Int)) = true := dT (by simp only [lC]; omega)
  have i0 : idx (a :: b :: c :: q) (0 : Int) = some a := A6 (i := 0) (by simp)
  have i1 : idx (a :: b :: c :: q) (1 : Int) = some b := A6 (i := 1) (by simp)
  have i2 : idx (a :: b :: c :: q) (2 : Int) = some c := A6 (i := 2) (by simp)
  have ba := Jt a 239 om
  have bb := Jt b 187 om
  have bc := Jt c 191 om
  have hT : BQ (a :: b :: c :: q) = cond (decide (a = 239)) (cond (decide (b = 187)) (cond (decide (c = 191)) (Cc q) (Cc (a :: b :: c :: q))) (Cc (a :: b :: c :: q))) (Cc (a :: b :: c :: q)) := by
   unfold BQ
   simp only [Ar]
   rw [hd, cT, i0, bS, i1, bS, i2, bS]
   rw [show (239 : Int) = ((239 : Nat) : Int) from rfl, show (187 : Int) = ((187 : Nat) : Int) from rfl, show (191 : Int) = ((191 : Nat) : Int) from rfl, ba, bb, bc]
   have hs : slc (a :: b :: c :: q) (3 : Int) ((a :: b :: c :: q).length : Int) = some q := CV (n := 3) (l := a :: b :: c :: q) (by simp)
   have hbind : ∀ o : Option LB, (o.bind fun x => some x) = o := fun o => by cases o <;> rfl
   rw [hs, bS, hbind, hbind]
   show cond (decide (a = 239)) _ _ = _
   cases decide (a = 239) with
   | false => rfl
   | true =>
    show cond (decide (b = 187)) _ _ = cond (decide (b = 187)) _ _
    cases decide (b = 187) with
    | false => rfl
    | true =>
     show cond (decide (c = 191)) _ _ = cond (decide (c = 191)) _ _
     cases decide (c = 191) <;> rfl
  by_cases hall : a = 239 ∧ b = 187 ∧ c = 191
  ·obtain ⟨rfl, rfl, rfl⟩ := hall
   refine key q (by simp only [lC]; omega) ?_ fun r hr => by rw [hT]; exact hr
   unfold Dd
   rw [Dv, bS, show ([239, 187, 191] : LB).isPrefixOf (239 :: 187 :: 191 :: q) = true by simp [List.isPrefixOf], cT]
   have hs : slc (239 :: 187 :: 191 :: q : LB) ((([239, 187, 191] : LB).length : Nat) : Int) ((239 :: 187 :: 191 :: q : LB).length : Int) = some q := CV (n := 3) (l := 239 :: 187 :: 191 :: q) (by simp)
   rw [hs, bS]
  ·refine no ?_ fun r hr => ?_
   ·rw [Bool.eq_false_iff]
    intro h
    simp only [List.isPrefixOf, Bool.and_true, Bool.and_eq_true, beq_iff_eq] at h
    exact hall ⟨h.1.symm, h.2.1.symm, h.2.2.symm⟩
   ·rw [hT]
    by_cases ha : a = 239
    ·rw [dT ha, cT]
     by_cases hb : b = 187
     ·rw [dT hb, cT, dF (fun h => hall ⟨ha, hb, h⟩), cF, hr]
     ·rw [dF hb, cF, hr]
    ·rw [dF ha, cF, hr]
theorem Zz (b : LB) (hb : b.length ≤ 1073741824) : ∃ (a e : Int), DL b = some (a, e) ∧ (e ≠ 0 → 0 ≤ a ∧ a ≤ b.length) := by
 obtain ⟨o, e, h⟩ := DG (b := C9 b) (fun x => b.length - x.toNat) (fun x => ∃ i : Nat, x = (i : Int) ∧ i ≤ b.length) (fun o => o = .inl () ∨ ∃ (i : Nat) (f : Int), o = .inr ((i : Int), f) ∧ i ≤ b.length) (by
  rintro _ ⟨i, rfl, hi⟩
  by_cases hlt : i < b.length
  ·obtain ⟨d1, d2, _⟩ := DY b i hlt
   have hn := Ko b i hlt hb
   unfold C9
   rw [hn]
   simp only [bS]
   rw [dT (show (i : Int) < (b.length : Int) by omega)]
   simp only [cT]
   cases IC (decodeL (b.drop i)) with
   | true => exact .inr ⟨_, fun _ => rfl, .inr ⟨i, 20, rfl, hi⟩⟩
   | false =>
    simp only [Bool.false_eq_true, if_false]
    cases Fu ((decodeL (b.drop i)).1 : Int) with
    | false => exact .inr ⟨_, fun _ => rfl, .inr ⟨i, 21, rfl, hi⟩⟩
    | true => exact .inl ⟨_, fun _ => rfl, ⟨i + (decodeL (b.drop i)).2, rfl, d2⟩, by rw [Int.toNat_natCast]; simp only [if_true]; rw [Int.toNat_natCast]; omega⟩
  ·right
   refine ⟨.inl (), fun rec => ?_, .inl rfl⟩
   unfold C9
   rw [dF om, cF]) Ay (0 : Int) ⟨0, rfl, Nat.zero_le _⟩ (by unfold Ay; omega)
 unfold DL
 simp only [Ar]
 rw [e, bS]
 rcases h with rfl | ⟨i, f, rfl, hi⟩
 ·exact ⟨0, 0, rfl, fun h => absurd rfl h⟩
 ·exact ⟨_, _, rfl, fun _ => ⟨by omega, by omega⟩⟩
def Pos (b : LB) (L : List Tk) (j : Nat) : Prop := (∀ k t, L[k]? = some t → ∃ i j', JY b i t j' ∧ i < b.length ∧ (k = 0 → i = 0) ∧ (∀ t', 0 < k → L[k - 1]? = some t' → ∃ i', JY b i' t' i)) ∧ (L = [] → j = 0) ∧ (∀ t, 0 < L.length → L[L.length - 1]? = some t → ∃ i, JY b i t j)
theorem ZM {b : LB} {L : List Tk} {i j : Nat} {t : Tk} (h : Pos b L i) (hi : i < b.length) (ht : JY b i t j) : Pos b (L ++ [t]) j := by
 obtain ⟨h1, h2, h3⟩ := h
 refine ⟨fun k u hu => ?_, fun h => by simp at h, fun u _ hu => ?_⟩
 ·by_cases hk : k < L.length
  ·rw [List.getElem?_append_left hk] at hu
   obtain ⟨i1, j1, a1, a2, a3, a4⟩ := h1 k u hu
   refine ⟨i1, j1, a1, a2, a3, fun t' h0 ht' => a4 t' h0 ?_⟩
   rwa [List.getElem?_append_left om] at ht'
  ·have hk' : k = L.length := by
    have := (List.getElem?_eq_some_iff.1 hu).1
    rw [lA, List.length_singleton] at this
    omega
   subst hk'
   rw [List.getElem?_append_right (Nat.le_refl _), Nat.sub_self] at hu
   injection hu with hu
   subst hu
   refine ⟨i, j, ht, hi, fun h0 => h2 (List.length_eq_zero_iff.1 h0), fun t' h0 ht' => h3 t' h0 ?_⟩
   rwa [List.getElem?_append_left om] at ht'
 ·rw [lA, List.length_singleton, Nat.add_sub_cancel, List.getElem?_append_right (Nat.le_refl _), Nat.sub_self] at hu
  injection hu with hu
  subst hu
  exact ⟨i, ht⟩
theorem Th (p : LB) (hp : p.length ≤ 1073741824) : ∃ (L : List Tk) (a e : Int), DH p = some (L, a, e) ∧ (e ≠ 0 → L = [] ∧ 0 ≤ a ∧ a ≤ p.length) ∧ (e = 0 → ∃ b, CA p = some b ∧ BQ p = some b ∧ b.length ≤ p.length ∧ a = 0 ∧ Pos b L b.length ∧ L.length ≤ b.length) := by
 unfold DH
 by_cases hl : 65536 < p.length
 ·rw [dT om, cT]
  exact ⟨_, _, _, rfl, fun _ => ⟨rfl, by omega, by omega⟩, fun h => by cases h⟩
 rw [dF om, cF]
 obtain ⟨b, r1, r2, r3⟩ := Xq p hp
 rw [r1, bS]
 obtain ⟨fa, fe, f1, f2⟩ := Zz b om
 dsimp only
 rw [f1, bS]
 by_cases hf : fe = 0
 case neg =>
  rw [show (fe != 0) = true by simpa using hf, cT]
  have := f2 hf
  exact ⟨_, _, _, rfl, fun _ => ⟨rfl, this.1, by omega⟩, fun h => absurd h hf⟩
 rw [show (fe != 0) = false by simpa using hf, cF]
 obtain ⟨o, e1, e2⟩ := DG (b := B4) (fun x => b.length - x.2.1.toNat) (fun x => ∃ (j : Nat) (L : List Tk), x = (b, (j : Int), L) ∧ j ≤ b.length ∧ L.length ≤ j ∧ Pos b L j) (fun o => (∃ L : List Tk, o = (L, 0, 0) ∧ Pos b L b.length ∧ L.length ≤ b.length) ∨ ∃ (j : Nat) (e : Int), o = ([], (j : Int), e) ∧ e ≠ 0 ∧ j ≤ b.length) (by
  rintro _ ⟨j, L, rfl, g1, g2, g3⟩
  by_cases hj : j = b.length
  ·right
   subst hj
   refine ⟨(L, 0, 0), fun rec => ?_, .inl ⟨L, rfl, g3, g2⟩⟩
   unfold B4
   dsimp only
   rw [show ((b.length : Int) == (b.length : Int)) = true by simp, cT]
  ·obtain ⟨_, t1, e, j2, t, rfl, t2, t3⟩ := Rz b j om om
   have hne : ((j : Int) == (b.length : Int)) = false := by rw [bn]; omega
   by_cases he : e = 0
   ·left
    have t4 := t3 he
    refine ⟨(b, (j2 : Int), L ++ [t]), fun rec => ?_, ⟨j2, _, rfl, t2, by have := t4.lt; simp; omega, ZM g3 om t4⟩, by have := t4.lt; dsimp only; omega⟩
    unfold B4
    dsimp only
    rw [hne, cF, t1, bS]
    dsimp only
    rw [show (e != 0) = false by simpa using he, cF, CU so so, bS, bS]
   ·right
    refine ⟨([], (j : Int), e), fun rec => ?_, .inr ⟨j, e, rfl, he, g1⟩⟩
    unfold B4
    dsimp only
    rw [hne, cF, t1, bS]
    dsimp only
    rw [show (e != 0) = true by simpa using he, cT]) Ay (b, (0 : Int), ([] : List TK)) ⟨0, [], rfl, Nat.zero_le _, Nat.le_refl _, ⟨fun k t h => by simp at h, fun _ => rfl, fun t h => by simp at h⟩⟩ (by unfold Ay; dsimp only; omega)
 rw [e1, bS]
 rcases e2 with ⟨L, rfl, h1, h2⟩ | ⟨j, e, rfl, h1, h2⟩
 ·exact ⟨_, _, _, rfl, fun h => absurd rfl h, fun _ => ⟨b, rfl, r2, r3, rfl, h1, h2⟩⟩
 ·exact ⟨_, _, _, rfl, fun _ => ⟨rfl, by omega, by omega⟩, fun h => absurd h h1⟩
structure Agr (U V : LB) (n : Nat) : Prop where
 tk : U.take n = V.take n
 u : n ≤ U.length
 v : n ≤ V.length
 dec : ∀ j, j < n → decodeL (U.drop j) = decodeL (V.drop j)
theorem Agr.get {U V : LB} {n : Nat} (A : Agr U V n) {j : Nat} (h : j < n) : U[j]? = V[j]? := by
 have := congrArg (fun l : LB => l[j]?) A.tk
 simpa [List.getElem?_take, h] using this
def Zi (i k r : Int) : Bool := (r != 58) && (!Ot r || ((k == i) && !G2 r))
theorem Qd (b : LB) (i k : Nat) (hk : k < b.length) (hb : b.length ≤ 1073741824) (rec : Int → Option Int) : AW ⟨b, (i : Int)⟩ rec (k : Int) = cond (Zi i k ((decodeL (b.drop k)).1 : Int)) (some (k : Int)) (rec ((k + (decodeL (b.drop k)).2 : Nat) : Int)) := by
 obtain ⟨d1, d2, _⟩ := DY b k hk
 unfold AW
 dsimp only
 rw [dT om, cT, CV (Nat.le_of_lt hk), bS, KR b k hk, bS]
 simp only [Ar, NL, Kz, bS]
 have hgo : IntKind.wrap .i64 ((k : Int) + ((decodeL (b.drop k)).2 : Int)) = ((k + (decodeL (b.drop k)).2 : Nat) : Int) := by rw [w64 om om]; omega
 rw [hgo]
 unfold Zi
 cases ((decodeL (b.drop k)).1 : Int) != 58 with
 | false => rfl
 | true =>
  cases Ot ((decodeL (b.drop k)).1 : Int) with
  | false => rfl
  | true =>
   cases ((k : Int) == (i : Int)) with
   | false => rfl
   | true => cases G2 ((decodeL (b.drop k)).1 : Int) <;> rfl
theorem Z3 (b : LB) (i : Nat) (rec : Int → Option Int) : AW ⟨b, (i : Int)⟩ rec (b.length : Int) = some (b.length : Int) := by
 unfold AW
 dsimp only
 rw [dF om, cF]
theorem Wz (b : LB) (i : Nat) (hi : i ≤ b.length) (hb : b.length ≤ 1073741824) : ∃ j : Nat, iter (AW ⟨b, (i : Int)⟩) Ay (i : Int) = some (j : Int) ∧ i ≤ j ∧ j ≤ b.length := by
 obtain ⟨o, h, j, rfl, h1, h2⟩ := DG (b := AW ⟨b, (i : Int)⟩) (fun x => b.length - x.toNat) (fun x => ∃ k : Nat, x = (k : Int) ∧ i ≤ k ∧ k ≤ b.length) (fun o => ∃ j : Nat, o = (j : Int) ∧ i ≤ j ∧ j ≤ b.length) (by
  rintro _ ⟨k, rfl, g1, g2⟩
  by_cases hk : k < b.length
  ·obtain ⟨d1, d2, _⟩ := DY b k hk
   cases hs : Zi i k ((decodeL (b.drop k)).1 : Int) with
   | true => exact .inr ⟨(k : Int), fun rec => by rw [Qd b i k hk hb, hs, cT], k, rfl, g1, g2⟩
   | false => exact .inl ⟨_, fun rec => by rw [Qd b i k hk hb, hs, cF], ⟨_, rfl, by omega, d2⟩, by rw [Int.toNat_natCast, Int.toNat_natCast]; omega⟩
  ·have : k = b.length := by omega
   subst this
   exact .inr ⟨_, fun rec => Z3 b i rec, _, rfl, g1, g2⟩) Ay (i : Int) ⟨i, rfl, Nat.le_refl _, hi⟩ (by unfold Ay; omega)
 exact ⟨j, h, h1, h2⟩
theorem aO (b : LB) (i j : Nat) (h : iter (AW ⟨b, (i : Int)⟩) Ay (i : Int) = some (j : Int)) (h1 : i ≤ j) (h2 : j ≤ b.length) :
  Bl ⟨b, (i : Int)⟩ = cond ((b.drop i).take (j - i) == ([] : LB)) (some (([], 23), ⟨b, (i : Int)⟩)) ((CT ((b.drop i).take (j - i))).bind fun x => cond (!x.2.2) (some (([], 24), ⟨b, (i : Int)⟩)) (some (((b.drop i).take (j - i), 0), ⟨b, (j : Int)⟩))) := by
 unfold Bl
 simp only [Ar]
 rw [h, bS]
 have hsl : slc b (i : Int) (j : Int) = some ((b.drop i).take (j - i)) := by
  unfold slc; rw [if_pos om]; simp only [Int.toNat_natCast]
 rw [hsl, bS]
theorem aR {b : LB} {i : Nat} (hi : i ≤ b.length) (hb : b.length ≤ 1073741824) {v : LB} {s : TS} (h : Bl ⟨b, (i : Int)⟩ = some ((v, 0), s)) :
  ∃ j : Nat, s = ⟨b, (j : Int)⟩ ∧ i < j ∧ j ≤ b.length ∧ v = (b.drop i).take (j - i) ∧ iter (AW ⟨b, (i : Int)⟩) Ay (i : Int) = some (j : Int) := by
 obtain ⟨j, h1, h2, h3⟩ := Wz b i hi hb
 rw [aO b i j h1 h2 h3] at h
 cases hw : ((b.drop i).take (j - i) == ([] : LB)) with
 | true => rw [hw, cT] at h; cases h
 | false =>
  rw [hw, cF] at h
  cases hs : CT ((b.drop i).take (j - i)) with
  | none => rw [hs] at h; cases h
  | some x =>
   rw [hs, bS] at h
   cases hx : x.2.2 with
   | false => rw [hx, bF, cT] at h; cases h
   | true =>
    rw [hx, bT, cF] at h
    cases h
    refine ⟨j, rfl, ?_, h3, rfl, h1⟩
    by_cases hij : i = j
    ·subst hij
     rw [Nat.sub_self, List.take_zero] at hw
     cases hw
    ·omega
theorem dz {l : LB} {c : UInt8} {m : Nat} (h1 : l[m]? = some c) (h2 : ∀ k, k < m → l[k]? ≠ some c) : Lib.indexByte l c = (m : Int) := by
 by_cases hn : Lib.indexByte l c < 0
 ·have hge := Lib.indexByte_ge l c
  exact absurd h1 (Lib.indexByte_none om m)
 ·obtain ⟨o, e1, e2⟩ := Kr l c hn
  obtain ⟨g1, g2⟩ := Lib.indexByte_some e1
  rw [e1]
  rcases Nat.lt_trichotomy o m with h | h | h
  ·exact absurd g1 (h2 o h)
  ·rw [h]
  ·exact absurd h1 (g2 m h)
def quo (b : LB) (i : Nat) : (LB × Int) × TS :=
 if (BZ b i [39] = true ∨ BZ b i [34] = true) ∧ 0 ≤ Lib.indexByte (b.drop (i + 1)) (b.getD i 0) then (((b.drop (i + 1)).take (Lib.indexByte (b.drop (i + 1)) (b.getD i 0)).toNat, 0), ⟨b, ((i + ((Lib.indexByte (b.drop (i + 1)) (b.getD i 0)).toNat + 2) : Nat) : Int)⟩) else (([], 23), ⟨b, (i : Int)⟩)
theorem Ws (b : LB) (i : Nat) (hi : i ≤ b.length) (hb : b.length ≤ 1073741824) : BO ⟨b, (i : Int)⟩ = some (if BZ b (sk wsP b i) [61] = true then (0, ⟨b, ((sk wsP b (sk wsP b i + 1) : Nat) : Int)⟩) else (23, ⟨b, ((sk wsP b (sk wsP b i) : Nat) : Int)⟩)) := by
 obtain ⟨s1, s2⟩ := GW wsP b i hi
 unfold BO
 rw [C5 b _ i hi hb, bS]
 dsimp only
 rw [FX b _ _ s2 hb, bS]
 cases h : BZ b (sk wsP b i) [61] with
 | false =>
  rw [if_neg (by simp), if_neg (by simp)]
  dsimp only
  rw [C5 b _ _ s2 hb, bS]
 | true =>
  have hl := B7 h s2
  rw [if_pos rfl, if_pos rfl]
  dsimp only
  rw [C5 b _ _ hl hb, bS]
  rfl
theorem VY {b : LB} {i : Nat} (hi : i ≤ b.length) (hb : b.length ≤ 1073741824) {s : TS} (h : BO ⟨b, (i : Int)⟩ = some (0, s)) : ∃ j : Nat, s = ⟨b, (j : Int)⟩ ∧ j = sk wsP b (sk wsP b i + 1) ∧ BZ b (sk wsP b i) [61] = true ∧ sk wsP b i < j ∧ j ≤ b.length := by
 rw [Ws b i hi hb] at h
 split at h
 ·rename_i hc
  obtain ⟨s1, s2⟩ := GW wsP b i hi
  have hl := B7 hc s2
  obtain ⟨t1, t2⟩ := GW wsP b _ hl
  have h := sj h
  injection h with _ h
  exact ⟨_, h.symm, rfl, hc, by simp at t1; omega, t2⟩
 ·have h := sj h
  injection h with h _
  cases h
theorem HD {b b' : LB} {e e' : Int} {j f : Nat} {t t' : Tk} (h : some (e, (⟨b, (j : Int)⟩ : TS), t) = some (e', ⟨b', (f : Int)⟩, t')) : e = e' ∧ j = f ∧ t = t' := by
 have h := sj h
 injection h with h1 h
 injection h with h2 h3
 injection h2 with _ h2
 exact ⟨h1, by omega, h3⟩
theorem KG : ∀ {w : LB} {b : LB} {i : Nat} (k : Nat), BZ b i w = true → k < w.length → b[i + k]? = w[k]?
 | w, b, i, k, h, hk => by
  unfold BZ at h
  rw [List.isPrefixOf_iff_prefix] at h
  obtain ⟨r, hr⟩ := h
  rw [← List.getElem?_drop, ← hr, List.getElem?_append_left hk]
def HdP (k : Nat) (c : UInt8) : Prop := c = 63 ∨ (k ≤ 0 ∧ c = 118) ∨ (k ≤ 1 ∧ c = 101) ∨ (k ≤ 2 ∧ c = 115)
theorem XR (k : Nat) (hk : k < 3) : ∃ w c, idx DeclW (k : Int) = some w ∧ w.length ≤ 10 ∧ 1 ≤ w.length ∧ w[0]? = some c ∧ HdP k c ∧ ¬ HdP (k + 1) c := by
 have h : k = 0 ∨ k = 1 ∨ k = 2 := by omega
 rcases h with rfl | rfl | rfl
 ·exact ⟨_, _, rfl, by decide, by decide, rfl, .inr (.inl ⟨by omega, rfl⟩), by unfold HdP; simp⟩
 ·exact ⟨_, _, rfl, by decide, by decide, rfl, .inr (.inr (.inl ⟨by omega, rfl⟩)), by unfold HdP; simp⟩
 ·exact ⟨_, _, rfl, by decide, by decide, rfl, .inr (.inr (.inr ⟨by omega, rfl⟩)), by unfold HdP; simp⟩
abbrev Iy (i : Int) : Tk := ⟨(0 : Int), i, ([] : LB), ([] : List TP), ([] : LB), (0 : Int)⟩
abbrev df (k i : Int) : Tk := ⟨k, i, ([] : LB), ([] : List TP), ([] : LB), (0 : Int)⟩
def Nr (b : LB) (i : Nat) : Option (Int × TS × Tk) :=
 cond (BZ b i [60, 33, 45, 45])
  ((Bb ⟨b, (i : Int)⟩ (df 7 i) (4 : Int) ([45, 45] : LB)).bind fun x14 => cond (x14.1 != (0 : Int)) (some x14) ((Bk x14.2.1 ([62] : LB)).bind fun x17 => some (x17.1, x17.2, x14.2.2)))
 (cond (BZ b i [60, 33, 91, 67, 68, 65, 84, 65, 91]) (Bb ⟨b, (i : Int)⟩ (df 6 i) (9 : Int) ([93, 93, 62] : LB))
 (cond (BZ b i [60, 33, 68, 79, 67, 84, 89, 80, 69]) (some (25, ⟨b, (i : Int)⟩, Iy i))
 (cond (BZ b i [60, 33]) (some (23, ⟨b, (i : Int)⟩, Iy i))
 (cond (BZ b i [60, 63]) (Bv ⟨b, (i : Int)⟩ (Iy i))
 (cond (BZ b i [60, 47]) (BI ⟨b, (i : Int)⟩ (Iy i))
 (cond (BZ b i [60]) (Cj ⟨b, (i : Int)⟩ (Iy i)) (BR ⟨b, (i : Int)⟩ (Iy i))))))))
def Qc (b : LB) (i : Nat) : Bool := decide (i = 0) && (BZ b 0 [60, 63, 120, 109, 108] && decide (5 < sk wsP b 5))
theorem SM (o : Option (Int × TS × TK)) : (o.bind fun x => some (x.1, x.2.1, x.2.2)) = o := by cases o <;> rfl
theorem ST (b : LB) (i : Nat) (hi : i ≤ b.length) (hb : b.length ≤ 1073741824) : AJ ⟨b, (i : Int)⟩ (Iy i) = cond (Qc b i) (CE ⟨b, (0 : Int)⟩ (Iy 0)) (Nr b i) := by
 have rest : ((Ap (⟨b, (i : Int)⟩ : TS) ([60, 33, 45, 45] : LB)).bind fun x12 =>
    cond x12
    ((Bb ⟨b, (i : Int)⟩ (⟨(7 : Int), (i : Int), ([] : LB), ([] : List TP), ([] : LB), (0 : Int)⟩ : TK) (4 : Int) ([45, 45] : LB)).bind fun x14 =>
    cond (x14.1 != (0 : Int))
     (some (x14.1, x14.2.1, x14.2.2))
     ((Bk x14.2.1 ([62] : LB)).bind fun x17 =>
     some (x17.1, x17.2, x14.2.2)))
    ((Ap (⟨b, (i : Int)⟩ : TS) ([60, 33, 91, 67, 68, 65, 84, 65, 91] : LB)).bind fun x18 =>
    cond x18
     ((Bb ⟨b, (i : Int)⟩ (⟨(6 : Int), (i : Int), ([] : LB), ([] : List TP), ([] : LB), (0 : Int)⟩ : TK) (9 : Int) ([93, 93, 62] : LB)).bind fun x20 =>
     some (x20.1, x20.2.1, x20.2.2))
     ((Ap (⟨b, (i : Int)⟩ : TS) ([60, 33, 68, 79, 67, 84, 89, 80, 69] : LB)).bind fun x22 =>
     cond x22
     (some ((25 : Int), (⟨b, (i : Int)⟩ : TS), (⟨(0 : Int), (i : Int), ([] : LB), ([] : List TP), ([] : LB), (0 : Int)⟩ : TK)))
     ((Ap (⟨b, (i : Int)⟩ : TS) ([60, 33] : LB)).bind fun x24 =>
     cond x24
      (some ((23 : Int), (⟨b, (i : Int)⟩ : TS), (⟨(0 : Int), (i : Int), ([] : LB), ([] : List TP), ([] : LB), (0 : Int)⟩ : TK)))
      ((Ap (⟨b, (i : Int)⟩ : TS) ([60, 63] : LB)).bind fun x26 =>
      cond x26
      ((Bv (⟨b, (i : Int)⟩ : TS) ⟨(0 : Int), (i : Int), ([] : LB), ([] : List TP), ([] : LB), (0 : Int)⟩).bind fun x28 =>
      some (x28.1, x28.2.1, x28.2.2))
      ((Ap (⟨b, (i : Int)⟩ : TS) ([60, 47] : LB)).bind fun x30 =>
      cond x30
       ((BI (⟨b, (i : Int)⟩ : TS) ⟨(0 : Int), (i : Int), ([] : LB), ([] : List TP), ([] : LB), (0 : Int)⟩).bind fun x32 =>
       some (x32.1, x32.2.1, x32.2.2))
       ((Ap (⟨b, (i : Int)⟩ : TS) ([60] : LB)).bind fun x34 =>
       cond x34
       ((Cj (⟨b, (i : Int)⟩ : TS) ⟨(0 : Int), (i : Int), ([] : LB), ([] : List TP), ([] : LB), (0 : Int)⟩).bind fun x36 =>
       some (x36.1, x36.2.1, x36.2.2))
       ((BR (⟨b, (i : Int)⟩ : TS) ⟨(0 : Int), (i : Int), ([] : LB), ([] : List TP), ([] : LB), (0 : Int)⟩).bind fun x38 =>
       some (x38.1, x38.2.1, x38.2.2))))))))) = Nr b i := by
  simp only [DZ b i _ hi, bS, SM]
  rfl
 unfold AJ
 simp only [Ar]
 unfold Qc
 by_cases h0 : i = 0
 ·subst h0
  rw [show (((0 : Nat) : Int) == (0 : Int)) = true from rfl, cT, DZ b 0 _ hi, bS, dT (rfl : (0 : Nat) = 0), Bool.true_and]
  cases c0 : BZ b 0 [60, 63, 120, 109, 108] with
  | false => rw [cF, cF, Bool.false_and, cF]; exact rest
  | true =>
   have hl := B7 c0 hi
   have h5 : 5 ≤ b.length := by simpa using hl
   rw [cT, show (5 : Int) = ((5 : Nat) : Int) from rfl, C5 b _ 5 h5 hb, bS, Bool.true_and]
   by_cases h5' : 5 < sk wsP b 5
   ·rw [dT (show (((5 : Nat) : Int) < ((sk wsP b 5 : Nat) : Int)) by omega), dT h5', cT, cT, SM]; rfl
   ·rw [dF (show ¬ (((5 : Nat) : Int) < ((sk wsP b 5 : Nat) : Int)) by omega), dF h5', cF, cF]; exact rest
 ·rw [show ((i : Int) == (0 : Int)) = false by rw [bn]; omega, cF, cF, dF h0, Bool.false_and, cF]
  exact rest
theorem We {n m b0 b1 b2 b3 c1 c2 c3 : Nat} (h : IC (decodeN n b0 b1 b2 b3) = false) (hnm : n ≤ m) (h1 : 1 < n → c1 = b1) (h2 : 2 < n → c2 = b2) (h3 : 3 < n → c3 = b3) : decodeN m b0 c1 c2 c3 = decodeN n b0 b1 b2 b3 := by
 have hb : ¬ ((decodeN n b0 b1 b2 b3).1 = 65533 ∧ (decodeN n b0 b1 b2 b3).2 = 1) := by
  unfold IC at h; simpa using h
 unfold decodeN at hb ⊢
 by_cases a0 : b0 < 128
 ·rw [if_pos a0, if_pos a0]
 rw [if_neg a0] at hb
 rw [if_neg a0, if_neg a0]
 by_cases a1 : b0 / 32 = 6 ∧ (1 < n ∧ b1 / 64 = 2)
 ·have e1 := h1 a1.2.1
  rw [if_pos a1, if_pos ⟨a1.1, by omega, by rw [e1]; exact a1.2.2⟩, e1]
 rw [if_neg a1] at hb
 rw [if_neg a1]
 by_cases a2 : b0 / 16 = 14 ∧ (1 < n ∧ b1 / 64 = 2) ∧ (2 < n ∧ b2 / 64 = 2)
 ·have e1 := h1 a2.2.1.1
  have e2 := h2 a2.2.2.1
  rw [if_pos a2, if_neg om, if_pos ⟨a2.1, ⟨by omega, by rw [e1]; exact a2.2.1.2⟩, by omega, by rw [e2]; exact a2.2.2.2⟩, e1, e2]
 rw [if_neg a2] at hb
 rw [if_neg a2]
 by_cases a3 : b0 / 8 = 30 ∧ (1 < n ∧ b1 / 64 = 2) ∧ (2 < n ∧ b2 / 64 = 2) ∧ (3 < n ∧ b3 / 64 = 2)
 ·have e1 := h1 a3.2.1.1
  have e2 := h2 a3.2.2.1.1
  have e3 := h3 a3.2.2.2.1
  rw [if_pos a3, if_neg om, if_neg om, if_pos ⟨a3.1, ⟨by omega, by rw [e1]; exact a3.2.1.2⟩, ⟨by omega, by rw [e2]; exact a3.2.2.1.2⟩, by omega, by rw [e3]; exact a3.2.2.2.2⟩, e1, e2, e3]
 rw [if_neg a3] at hb
 exact absurd ⟨rfl, rfl⟩ hb
theorem Gs {x y : LB} {k : Nat} (h : k < x.length) : (x ++ y).getD k 0 = x.getD k 0 := by
 simp [List.getD, List.getElem?_append_left h]
theorem aJ {x y : LB} (hx : x ≠ []) (h : IC (decodeL x) = false) : decodeL (x ++ y) = decodeL x := by
 have hp : 0 < x.length := List.length_pos_iff.2 hx
 rw [Lib.decodeL_N x] at h ⊢
 rw [Lib.decodeL_N (x ++ y), Gs hp]
 exact We h (by rw [lA]; omega) (fun g => by rw [Gs g]) (fun g => by rw [Gs g]) (fun g => by rw [Gs g])
theorem VT {n m b0 b1 b2 b3 c1 c2 c3 : Nat} (hn : 1 ≤ n) (hnm : n ≤ m) (h1 : 1 < n → c1 = b1) (h2 : 2 < n → c2 = b2) (h3 : 3 < n → c3 = b3) (s1 : n = 1 → c1 < 128) (s2 : n = 2 → c2 < 128) (s3 : n = 3 → c3 < 128) : decodeN m b0 c1 c2 c3 = decodeN n b0 b1 b2 b3 := by
 have q1 : (1 < m ∧ c1 / 64 = 2) ↔ (1 < n ∧ b1 / 64 = 2) := by
  by_cases g : 1 < n
  ·have := h1 g; subst this; constructor <;> rintro ⟨_, q⟩ <;> exact ⟨by omega, q⟩
  ·have := s1 om; constructor <;> rintro ⟨_, q⟩ <;> omega
 have q2 : (1 < n ∧ b1 / 64 = 2) → ((2 < m ∧ c2 / 64 = 2) ↔ (2 < n ∧ b2 / 64 = 2)) := by
  rintro ⟨g1, _⟩
  by_cases g : 2 < n
  ·have := h2 g; subst this; constructor <;> rintro ⟨_, q⟩ <;> exact ⟨by omega, q⟩
  ·have := s2 om; constructor <;> rintro ⟨_, q⟩ <;> omega
 have q3 : (2 < n ∧ b2 / 64 = 2) → ((3 < m ∧ c3 / 64 = 2) ↔ (3 < n ∧ b3 / 64 = 2)) := by
  rintro ⟨g1, _⟩
  by_cases g : 3 < n
  ·have := h3 g; subst this; constructor <;> rintro ⟨_, q⟩ <;> exact ⟨by omega, q⟩
  ·have := s3 om; constructor <;> rintro ⟨_, q⟩ <;> omega
 unfold decodeN
 by_cases a0 : b0 < 128
 ·rw [if_pos a0, if_pos a0]
 rw [if_neg a0, if_neg a0]
 by_cases a1 : b0 / 32 = 6 ∧ (1 < n ∧ b1 / 64 = 2)
 ·rw [if_pos a1, if_pos ⟨a1.1, q1.2 a1.2⟩, h1 a1.2.1]
 rw [if_neg a1, if_neg (fun h => a1 ⟨h.1, q1.1 h.2⟩)]
 by_cases a2 : b0 / 16 = 14 ∧ (1 < n ∧ b1 / 64 = 2) ∧ (2 < n ∧ b2 / 64 = 2)
 ·rw [if_pos a2, if_pos ⟨a2.1, q1.2 a2.2.1, (q2 a2.2.1).2 a2.2.2⟩, h1 a2.2.1.1, h2 a2.2.2.1]
 rw [if_neg a2, if_neg (fun h => a2 ⟨h.1, q1.1 h.2.1, (q2 (q1.1 h.2.1)).1 h.2.2⟩)]
 by_cases a3 : b0 / 8 = 30 ∧ (1 < n ∧ b1 / 64 = 2) ∧ (2 < n ∧ b2 / 64 = 2) ∧ (3 < n ∧ b3 / 64 = 2)
 ·rw [if_pos a3, if_pos ⟨a3.1, q1.2 a3.2.1, (q2 a3.2.1).2 a3.2.2.1, (q3 a3.2.2.1).2 a3.2.2.2⟩, h1 a3.2.1.1, h2 a3.2.2.1.1, h3 a3.2.2.2.1]
 rw [if_neg a3, if_neg (fun h => a3 ⟨h.1, q1.1 h.2.1, (q2 (q1.1 h.2.1)).1 h.2.2.1, (q3 ((q2 (q1.1 h.2.1)).1 h.2.2.1)).1 h.2.2.2⟩)]
theorem MJ {x y : LB} {c : UInt8} {k : Nat} (h : x.length = k) : (x ++ c :: y).getD k 0 = c := by
 subst h; simp [List.getD]
theorem XI {x y : LB} {c : UInt8} (hx : x ≠ []) (hc : c.toNat < 128) : decodeL (x ++ c :: y) = decodeL x := by
 have hp : 0 < x.length := List.length_pos_iff.2 hx
 rw [Lib.decodeL_N x, Lib.decodeL_N (x ++ c :: y), Gs hp]
 exact VT hp (by rw [lA]; omega) (fun g => by rw [Gs g]) (fun g => by rw [Gs g]) (fun g => by rw [Gs g]) (fun g => by rw [MJ g]; exact hc) (fun g => by rw [MJ g]; exact hc) (fun g => by rw [MJ g]; exact hc)
theorem MM (c : UInt8) (y : LB) (hc : c.toNat < 128) : decodeL (c :: y) = (c.toNat, 1) := by
 have := (DY (c :: y) 0 (by simp)).2.2.1
 simpa using this hc
inductive OkT : LB → Prop
 | nil : OkT []
 | cons {l : LB} : l ≠ [] → IC (decodeL l) = false → Fu ((decodeL l).1 : Int) = true → OkT (l.drop (decodeL l).2) → OkT l
theorem Nv {l : LB} (h : OkT l) (hl : l ≠ []) : IC (decodeL l) = false ∧ Fu ((decodeL l).1 : Int) = true ∧ OkT (l.drop (decodeL l).2) := by
 cases h with
 | nil => exact absurd rfl hl
 | cons _ a b c => exact ⟨a, b, c⟩
theorem QE {l : LB} (h : l ≠ []) : 1 ≤ (decodeL l).2 ∧ (decodeL l).2 ≤ l.length := by
 have := DY l 0 (List.length_pos_iff.2 h)
 simp only [List.drop_zero, Nat.zero_add] at this
 exact ⟨this.1, this.2.1⟩
theorem Rg {x y : LB} (hx : OkT x) (hy : OkT y) : OkT (x ++ y) := by
 induction hx with
 | nil => exact hy
 | @cons l h1 h2 h3 h4 ih =>
  have e := aJ (y := y) h1 h2
  refine .cons (by simp [h1]) (by rw [e]; exact h2) (by rw [e]; exact h3) ?_
  rw [e, List.drop_append_of_le_length (QE h1).2]
  exact ih
theorem Xm (c : UInt8) (y : LB) (hc : c.toNat < 128) (hp : Fu (c.toNat : Int) = true) (hy : OkT y) : OkT (c :: y) := by
 have e := MM c y hc
 refine .cons (by simp) (by rw [e]; unfold IC; simp; omega) (by rw [e]; exact hp) (by rw [e]; exact hy)
theorem TC (b : LB) (i : Nat) (hi : i < b.length) (hb : b.length ≤ 1073741824) (rec) : C9 b rec (i : Int) = if IC (decodeL (b.drop i)) then some (.inr ((i : Int), (20 : Int))) else if Fu ((decodeL (b.drop i)).1 : Int) then rec ((i + (decodeL (b.drop i)).2 : Nat) : Int) else some (.inr ((i : Int), (21 : Int))) := by
 unfold C9
 rw [dT (show (i : Int) < (b.length : Int) by omega), cT, Ko b i hi hb, bS]
 cases IC (decodeL (b.drop i)) with
 | true => rfl
 | false => cases Fu ((decodeL (b.drop i)).1 : Int) <;> rfl
theorem VO {α : Type} {l : List α} {i : Nat} (h : i < l.length) : l.drop i ≠ [] := fun g => by
 have := congrArg List.length g; simp at this; omega
theorem P5 (b : LB) (hb : b.length ≤ 1073741824) : (DL b = some (0, 0) ∧ OkT b) ∨ (∃ (i : Nat) (e : Int), DL b = some ((i : Int), e) ∧ e ≠ 0 ∧ ¬ OkT b ∧ i ≤ b.length) := by
 obtain ⟨o, e, h⟩ := DG (b := C9 b) (fun x => b.length - x.toNat) (fun x => ∃ i : Nat, x = (i : Int) ∧ i ≤ b.length ∧ (OkT b ↔ OkT (b.drop i))) (fun o => (o = .inl () ∧ OkT b) ∨ ∃ (i : Nat) (f : Int), o = .inr ((i : Int), f) ∧ f ≠ 0 ∧ ¬ OkT b ∧ i ≤ b.length) (by
  rintro _ ⟨i, rfl, hi, hiff⟩
  by_cases hlt : i < b.length
  ·obtain ⟨d1, d2, _⟩ := DY b i hlt
   have hne := VO hlt
   simp only [TC b i hlt hb]
   cases hbad : IC (decodeL (b.drop i)) with
   | true =>
    right
    exact ⟨_, fun _ => rfl, .inr ⟨i, 20, rfl, by decide, fun h => (by have := (Nv (hiff.1 h) hne).1; rw [hbad] at this; cases this), hi⟩⟩
   | false =>
    cases hc : Fu ((decodeL (b.drop i)).1 : Int) with
    | false =>
     right
     exact ⟨_, fun _ => rfl, .inr ⟨i, 21, rfl, by decide, fun h => (by have := (Nv (hiff.1 h) hne).2.1; rw [hc] at this; cases this), hi⟩⟩
    | true =>
     left
     refine ⟨_, fun _ => rfl, ⟨i + (decodeL (b.drop i)).2, rfl, d2, hiff.trans ?_⟩, by rw [Int.toNat_natCast, Int.toNat_natCast]; omega⟩
     rw [← List.drop_drop]
     exact ⟨fun h => (Nv h hne).2.2, fun h => .cons hne hbad hc h⟩
  ·right
   refine ⟨.inl (), fun rec => ?_, .inl ⟨rfl, ?_⟩⟩
   ·unfold C9
    rw [dF om, cF]
   ·rw [hiff, List.drop_eq_nil_of_le om]; exact .nil) Ay (0 : Int) ⟨0, rfl, Nat.zero_le _, by rw [List.drop_zero]⟩ (by unfold Ay; omega)
 unfold DL
 simp only [Ar]
 rw [e, bS]
 rcases h with ⟨rfl, h⟩ | ⟨i, f, rfl, hf, hn, hi⟩
 ·exact .inl ⟨rfl, h⟩
 ·exact .inr ⟨i, f, rfl, hf, hn, hi⟩
def lnR : Bool → LB → LB
 | _, [] => []
 | pc, c :: l => if c = 13 then 10 :: lnR true l else if c = 10 ∧ pc = true then lnR false l else c :: lnR false l
theorem QF : ∀ (pc : Bool) (l : LB), (lnR pc l).length ≤ l.length
 | _, [] => Nat.le_refl _
 | pc, c :: l => by
  have h1 := QF true l
  have h2 := QF false l
  simp only [lnR]
  split
  ·simp; omega
  ·split
   ·simp; omega
   ·simp; omega
theorem Zq (p : LB) (i : Nat) (hi : i < p.length) : lnR (decide (0 < i ∧ p.getD (i - 1) 0 = 13)) (p.drop i) = lnP p i ++ lnR (decide (0 < i + 1 ∧ p.getD (i + 1 - 1) 0 = 13)) (p.drop (i + 1)) := by
 have hg : p.getD i 0 = p[i] := by simp [List.getD, hi]
 rw [List.drop_eq_getElem_cons hi, Nat.add_sub_cancel]
 simp only [lnR]
 unfold lnP
 rw [hg]
 by_cases h13 : p[i] = 13
 ·rw [if_pos h13, if_pos h13, dT (by exact ⟨by omega, h13⟩)]; rfl
 ·rw [if_neg h13, if_neg h13, dF (show ¬ (0 < i + 1 ∧ p[i] = 13) from fun h => h13 h.2)]
  by_cases h10 : p[i] = 10 ∧ 0 < i ∧ p.getD (i - 1) 0 = 13
  ·rw [if_pos ⟨h10.1, dT h10.2⟩, if_pos h10]; rfl
  ·rw [if_neg (fun h => h10 ⟨h.1, of_decide_eq_true h.2⟩), if_neg h10]; rfl
theorem SW (p : LB) (hp : p.length ≤ 1073741824) : E1 p = some (lnR false p) := by
 obtain ⟨o, e, h⟩ := DG (b := DA p) (fun x => p.length - x.2.toNat) (fun x => ∃ (l : LB) (i : Nat), x = (l, (i : Int)) ∧ i ≤ p.length ∧ l.length ≤ i ∧ l ++ lnR (decide (0 < i ∧ p.getD (i - 1) 0 = 13)) (p.drop i) = lnR false p) (fun o => o = lnR false p) (by
  rintro _ ⟨l, i, rfl, hi, hl, hE⟩
  by_cases hlt : i < p.length
  ·left
   have := Vm p i
   rw [Zq p i hlt, ← List.append_assoc] at hE
   exact ⟨_, fun rec => MN p i l hlt hl hp rec, ⟨_, i + 1, rfl, by omega, by rw [lA]; omega, hE⟩, by dsimp only; omega⟩
  ·right
   rw [List.drop_eq_nil_of_le om] at hE
   refine ⟨l, fun rec => ?_, by rw [← hE]; simp [lnR]⟩
   unfold DA; dsimp only; rw [dF om, cF]) Ay (([] : LB), (0 : Int)) ⟨[], 0, rfl, Nat.zero_le _, Nat.le_refl _, by simp⟩ (by unfold Ay; dsimp only; omega)
 unfold E1
 simp only [Ar]
 rw [show mkG 1 (0 : Int) (p.length : Int) = some () by unfold mkG; rw [if_pos om], bS, bS, show (List.replicate (Int.toNat (0 : Int)) (0 : UInt8)) = [] from rfl, e, bS, h]
def RT (p : LB) : LB := if ([239, 187, 191] : LB).isPrefixOf p = true then p.drop 3 else p
theorem Xd (p : LB) : (RT p).length ≤ p.length := by
 unfold RT; split
 ·rw [lD]; omega
 ·exact Nat.le_refl _
def pln (p : LB) : LB := lnR false (RT p)
theorem Qo (p : LB) : (pln p).length ≤ p.length := Nat.le_trans (QF _ _) (Xd p)
theorem NS (p : LB) (hp : p.length ≤ 1073741824) : CA p = some (pln p) := by
 unfold CA Dd
 rw [show u8 (239 : Int) = some 239 from rfl, show u8 (187 : Int) = some 187 from rfl, show u8 (191 : Int) = some 191 from rfl, bS, bS, bS, Dv, bS]
 unfold pln RT
 cases h : ([239, 187, 191] : LB).isPrefixOf p with
 | true =>
  have h' := h
  rw [FI, Bool.and_eq_true, decide_eq_true_eq] at h'
  rw [cT, if_pos rfl, show slc p ((([239, 187, 191] : LB).length : Nat) : Int) (p.length : Int) = some (p.drop 3) from CV (n := 3) (by simpa using h'.1), bS, bS, SW _ (by rw [lD]; omega), bS]
 | false => rw [cF, if_neg (by simp), bS, SW p hp, bS]
def XK (b : LB) (i f : Nat) : Option (Int × TS × Tk) :=
 (Dh ((b.drop i).take (f - i))).bind fun x => (GG ((b.drop i).take (f - i)) ([38] : LB)).bind fun y => some (x.2.2, (⟨b, (f : Int)⟩ : TS), (⟨(5 : Int), (i : Int), [], [], x.1, y⟩ : Tk))
structure bX (b : LB) (i f : Nat) : Prop where
 lt : i < f
 le : f ≤ b.length
 no : ∀ x, i ≤ x → x < f → b[x]? ≠ some 60
 ed : f = b.length ∨ b[f]? = some 60
theorem aI {b : LB} {i f : Nat} (hb : b.length ≤ 1073741824) (h : bX b i f) : BR ⟨b, (i : Int)⟩ (Iy i) = XK b i f := by
 obtain ⟨h1, h2, h3, h4⟩ := h
 have core : ∀ a : LB, a = (b.drop i).take (f - i) → ((Dh a).bind fun x10 =>
  (GG a ([38] : LB)).bind fun x13 =>
  some (x10.2.2, (⟨b, (IntKind.wrap .i64 ((i : Int) + (a.length : Int)))⟩ : TS), (⟨(5 : Int), (i : Int), ([] : LB), ([] : List TP), x10.1, x13⟩ : TK))) = XK b i f := by
  intro a ha
  have hal : a.length = f - i := by rw [ha, List.length_take, lD]; omega
  rw [hal, w64 om om, show (i : Int) + ((f - i : Nat) : Int) = (f : Int) by omega, ha]
  rfl
 unfold BR
 dsimp only
 rw [CV om, bS]
 simp only [Ar]
 unfold Ds
 rw [bS]
 have h60' : ((60 : Int).toNat.toUInt8) = 60 := by decide
 rw [h60']
 by_cases hf : f = b.length
 ·have hno : Lib.indexByte (b.drop i) 60 < 0 := by
   apply Classical.byContradiction; intro hn
   obtain ⟨m, e1, e2⟩ := Kr (b.drop i) 60 hn
   have := (Lib.indexByte_some e1).1
   rw [List.getElem?_drop] at this
   rw [lD] at e2
   exact h3 (i + m) om om this
  rw [dF om, cF]
  exact core _ (by rw [List.take_of_length_le (by rw [lD]; omega)])
 ·have hx : Lib.indexByte (b.drop i) 60 = ((f - i : Nat) : Int) := by
   refine dz ?_ fun k hk => ?_
   ·rw [List.getElem?_drop, show i + (f - i) = f by omega]
    rcases h4 with h4 | h4
    ·exact absurd h4 hf
    ·exact h4
   ·rw [List.getElem?_drop]; exact h3 (i + k) om om
  rw [hx, dT om, cT, Hh (by rw [lD]; omega), bS]
  exact core _ rfl
theorem aZ {b : LB} {i : Nat} (hi : i < b.length) (h60 : b[i]? ≠ some 60) : ∃ f, bX b i f := by
 by_cases hn : Lib.indexByte (b.drop i) 60 < 0
 ·refine ⟨b.length, hi, Nat.le_refl _, fun x h1 h2 => ?_, .inl rfl⟩
  have hge := Lib.indexByte_ge (b.drop i) 60
  have := Lib.indexByte_none (show Lib.indexByte (b.drop i) 60 = -1 by omega) (x - i)
  rwa [List.getElem?_drop, show i + (x - i) = x by omega] at this
 ·obtain ⟨m, e1, e2⟩ := Kr (b.drop i) 60 hn
  obtain ⟨g1, g2⟩ := Lib.indexByte_some e1
  rw [List.getElem?_drop] at g1
  rw [lD] at e2
  refine ⟨i + m, ?_, by omega, fun x h1 h2 => ?_, .inr g1⟩
  ·rcases Nat.eq_zero_or_pos m with rfl | h
   ·exact absurd g1 h60
   ·omega
  ·have := g2 (x - i) om
   rwa [List.getElem?_drop, show i + (x - i) = x by omega] at this
theorem Hm {b : LB} {i : Nat} {w : LB} (h : b[i]? ≠ some 60) : BZ b i (60 :: w) = false := by
 rw [Bool.eq_false_iff]; intro hc; exact h (Ez hc)
theorem TQ {b : LB} {i : Nat} (hi : i ≤ b.length) (hb : b.length ≤ 1073741824) (h60 : b[i]? ≠ some 60) : AJ ⟨b, (i : Int)⟩ (Iy i) = BR ⟨b, (i : Int)⟩ (Iy i) := by
 have hd : Qc b i = false := by
  unfold Qc
  by_cases h0 : i = 0
  ·subst h0; rw [Hm h60, Bool.false_and, Bool.and_false]
  ·rw [dF h0, Bool.false_and]
 rw [ST b i hi hb, hd, cF]
 unfold Nr
 rw [Hm h60, Hm h60, Hm h60, Hm h60, Hm h60, Hm h60, Hm h60]
 rfl
inductive Tr (b : LB) : List Tk → Nat → Prop
 | nil : Tr b [] 0
 | snoc {L : List Tk} {j k : Nat} {t : Tk} : Tr b L j → j < b.length → AJ ⟨b, (j : Int)⟩ (Iy j) = some (0, ⟨b, (k : Int)⟩, t) → JY b j t k → k ≤ b.length → Tr b (L ++ [t]) k
theorem bZ {b : LB} {L : List Tk} {j : Nat} (h : Tr b L j) : j ≤ b.length ∧ L.length ≤ j := by
 induction h with
 | nil => exact ⟨Nat.zero_le _, Nat.le_refl _⟩
 | snoc h1 h2 h3 h4 h5 ih => have := h4.lt; exact ⟨h5, by simp; omega⟩
theorem XH {b : LB} {L : List Tk} {j k : Nat} {t : Tk} (hL : L.length ≤ 65536) (hj : j < b.length) (h : AJ ⟨b, (j : Int)⟩ (Iy j) = some (0, ⟨b, (k : Int)⟩, t)) (rec) : B4 rec (b, (j : Int), L) = rec (b, (k : Int), L ++ [t]) := by
 have hne : ((j : Int) == (b.length : Int)) = false := by rw [bn]; omega
 have h' : AJ ⟨b, (j : Int)⟩ ⟨(0 : Int), (j : Int), ([] : LB), ([] : List TP), ([] : LB), (0 : Int)⟩ = some (0, ⟨b, (k : Int)⟩, t) := h
 unfold B4
 dsimp only
 rw [hne, cF, h', bS]
 dsimp only
 rw [show ((0 : Int) != 0) = false from rfl, cF, CU so so, bS, bS]
theorem bz {b : LB} {L : List Tk} {j : Nat} {e : Int} {s : TS} {t : Tk} (hj : j < b.length) (he : e ≠ 0) (h : AJ ⟨b, (j : Int)⟩ (Iy j) = some (e, s, t)) (rec) : B4 rec (b, (j : Int), L) = some ([], (j : Int), e) := by
 have hne : ((j : Int) == (b.length : Int)) = false := by rw [bn]; omega
 have h' : AJ ⟨b, (j : Int)⟩ ⟨(0 : Int), (j : Int), ([] : LB), ([] : List TP), ([] : LB), (0 : Int)⟩ = some (e, s, t) := h
 unfold B4
 dsimp only
 rw [hne, cF, h', bS]
 dsimp only
 rw [show (e != 0) = true by simpa using he, cT]
theorem aj (b : LB) (L : List Tk) (rec) : B4 rec (b, (b.length : Int), L) = some (L, (0 : Int), (0 : Int)) := by
 unfold B4
 dsimp only
 rw [show ((b.length : Int) == (b.length : Int)) = true by simp, cT]
theorem Yl (b : LB) (hb : b.length ≤ 65536) : (∃ L, iter B4 Ay (b, (0 : Int), ([] : List TK)) = some (L, 0, 0) ∧ Tr b L b.length) ∨
  (∃ L j e s t, iter B4 Ay (b, (0 : Int), ([] : List TK)) = some ([], ((j : Nat) : Int), e) ∧ e ≠ 0 ∧ Tr b L j ∧ j < b.length ∧ AJ ⟨b, (j : Int)⟩ (Iy j) = some (e, s, t)) := by
 obtain ⟨o, e1, e2⟩ := DG (b := B4) (fun x => b.length - x.2.1.toNat) (fun x => ∃ (j : Nat) (L : List Tk), x = (b, (j : Int), L) ∧ j ≤ b.length ∧ Tr b L j) (fun o => (∃ L, o = (L, 0, 0) ∧ Tr b L b.length) ∨ (∃ L j e s t, o = ([], ((j : Nat) : Int), e) ∧ e ≠ 0 ∧ Tr b L j ∧ j < b.length ∧ AJ ⟨b, (j : Int)⟩ (Iy j) = some (e, s, t))) (by
  rintro _ ⟨j, L, rfl, g1, g2⟩
  have g3 := bZ g2
  by_cases hj : j = b.length
  ·right
   subst hj
   exact ⟨(L, 0, 0), fun rec => aj b L rec, .inl ⟨L, rfl, g2⟩⟩
  ·obtain ⟨_, t1, e, j2, t, rfl, t2, t3⟩ := Rz b j om om
   by_cases he : e = 0
   ·left
    subst he
    have t4 := t3 rfl
    exact ⟨(b, (j2 : Int), L ++ [t]), fun rec => XH om om t1 rec, ⟨j2, _, rfl, t2, .snoc g2 om t1 t4 t2⟩, by have := t4.lt; dsimp only; omega⟩
   ·right
    exact ⟨_, fun rec => bz om he t1 rec, .inr ⟨L, j, e, _, t, rfl, he, g2, by omega, t1⟩⟩) Ay (b, (0 : Int), ([] : List TK)) ⟨0, [], rfl, Nat.zero_le _, .nil⟩ (by unfold Ay; dsimp only; omega)
 rcases e2 with ⟨L, rfl, h⟩ | ⟨L, j, e, s, t, rfl, h⟩
 ·exact .inl ⟨L, e1, h⟩
 ·exact .inr ⟨L, j, e, s, t, e1, h⟩
theorem cd (p : LB) (hp : p.length ≤ 65536) : DH p = (DL (pln p)).bind fun x4 => cond (x4.2 != (0 : Int)) (some ([], x4.1, x4.2)) (iter B4 Ay (pln p, (0 : Int), ([] : List TK))) := by
 have hbind : ∀ o : Option (List TK × Int × Int), (o.bind fun x => some x) = o := fun o => by cases o <;> rfl
 unfold DH
 rw [dF om, cF, NS p om, bS]
 dsimp only
 rw [hbind]
theorem cL {p : LB} {L : List Tk} {a : Int} (hp : p.length ≤ 65536) (h : DH p = some (L, a, 0)) : OkT (pln p) ∧ Tr (pln p) L (pln p).length ∧ a = 0 := by
 have hl := Qo p
 rw [cd p hp] at h
 rcases P5 (pln p) om with ⟨f1, f2⟩ | ⟨i, e, f1, f2, _⟩
 ·rw [f1, bS] at h
  dsimp only at h
  rw [show ((0 : Int) != 0) = false from rfl, cF] at h
  rcases Yl (pln p) om with ⟨L', g1, g2⟩ | ⟨L', j, e, s, t, g1, g2, _⟩
  ·rw [g1] at h
   have h := sj h
   injection h with h1 h2
   injection h2 with h2 _
   subst h1
   exact ⟨f2, g2, h2.symm⟩
  ·rw [g1] at h
   have h := sj h
   injection h with _ h2
   injection h2 with _ h2
   exact absurd h2 g2
 ·rw [f1, bS] at h
  dsimp only at h
  rw [show (e != 0) = true by simpa using f2, cT] at h
  have h := sj h
  injection h with _ h2
  injection h2 with _ h2
  exact absurd h2 f2


theorem NJ : ∀ (l : LB) (pc : Bool), (13 : UInt8) ∉ lnR pc l
 | [], _ => by simp [lnR]
 | c :: l, pc => by
  have h1 := NJ l true
  have h2 := NJ l false
  simp only [lnR]
  split
  ·simp [h1]
  ·split
   ·exact h2
   ·rename_i h _
    simp only [List.mem_cons, not_or]
    exact ⟨fun e => h e.symm, h2⟩
theorem P0 {c : UInt8} {y : LB} (hc : c.toNat < 128) {l : LB} (h : OkT l) : ∀ x, l = x ++ c :: y → OkT x ∧ OkT (c :: y) := by
 induction h with
 | nil => intro x h; simp at h
 | @cons l h1 h2 h3 h4 ih =>
  intro x h
  subst h
  by_cases hx : x = []
  ·subst hx; exact ⟨.nil, .cons h1 h2 h3 h4⟩
  ·have hd := XI (x := x) (y := y) hx hc
   have hp := QE hx
   rw [hd] at h2 h3 ih
   obtain ⟨g1, g2⟩ := ih _ (List.drop_append_of_le_length hp.2)
   exact ⟨.cons hx h2 h3 g1, g2⟩
theorem YU {c : UInt8} {y : LB} (hc : c.toNat < 128) (h : OkT (c :: y)) : OkT y := by
 have h4 := (Nv h (by simp)).2.2
 rw [MM c y hc] at h4
 exact h4
theorem Ru (c : UInt8) (h : wsP c = true) : c.toNat < 128 := by
 have : ∀ c : UInt8, (!wsP c || decide (c.toNat < 128)) = true := Y0 (by decide +kernel)
 have h1 := this c
 rw [h, bT, Bool.false_or] at h1
 exact of_decide_eq_true h1
theorem Fg {α : Type} {b : Bool} {x y : Option α} {z : α} (h : cond b x y = some z) : x = some z ∨ y = some z := by
 cases b
 ·exact .inr h
 ·exact .inl h
theorem Dx {α β : Type} {o : Option α} {f : α → Option β} {z : β} (h : o.bind f = some z) : ∃ a, o = some a ∧ f a = some z := by
 cases o with
 | none => cases h
 | some a => exact ⟨a, rfl, h⟩
theorem QU {U : LB} (hU : U.length ≤ 1073741824) (At : Int) (Nm Tx : LB) (rf : Int) (f : Nat) (t' : Tk) (m j : Nat) (ps : List TP) (y z : LB) (g2 : j ≤ U.length) (g3 : ps.length ≤ j)
  (h : iter Az (m + 1) (U, (j : Int), (2 : Int), At, Nm, ps, Tx, rf, y, z) = some (0, ⟨U, (f : Int)⟩, t')) :
  (BZ U (sk wsP U j) [47, 62] = true ∧ f = sk wsP U j + 2 ∧ t' = ⟨4, At, Nm, ps, Tx, rf⟩) ∨
  (BZ U (sk wsP U j) [62] = true ∧ t' = ⟨2, At, Nm, ps, Tx, rf⟩) ∨
  (∃ (nm rv val : LB) (n : Int) (k1 k2 k3 : Nat), j < sk wsP U j ∧ Bl ⟨U, ((sk wsP U j : Nat) : Int)⟩ = some ((nm, 0), ⟨U, (k1 : Int)⟩) ∧ nm ≠ [] ∧ k1 ≤ U.length ∧
   BO ⟨U, (k1 : Int)⟩ = some (0, ⟨U, (k2 : Int)⟩) ∧ k2 ≤ U.length ∧ Ct ⟨U, (k2 : Int)⟩ = some ((rv, 0), ⟨U, (k3 : Int)⟩) ∧ k3 ≤ U.length ∧ ps.length + 1 ≤ k3 ∧
   CK rv = some (val, n, 0) ∧ iter Az m (U, (k3 : Int), (2 : Int), At, Nm, ps ++ [⟨nm, val⟩], Tx, rf, nm, val) = some (0, ⟨U, (f : Int)⟩, t')) := by
  rw [show iter Az (m + 1) (U, (j : Int), (2 : Int), At, Nm, ps, Tx, rf, y, z) = Az (iter Az m) (U, (j : Int), (2 : Int), At, Nm, ps, Tx, rf, y, z) from rfl] at h
  generalize hI : iter Az m = I at h
  unfold Az at h
  dsimp only at h
  obtain ⟨s1, s2⟩ := GW wsP U j g2
  rw [C5 U (j : Int) j g2 hU, bS, DZ U _ _ s2, bS] at h
  cases c1 : BZ U (sk wsP U j) [47, 62] with
  | true =>
   rw [c1, cT, FX U _ _ s2 hU, c1, if_pos rfl, bS] at h
   obtain ⟨_, q2, q3⟩ := HD h
   exact .inl ⟨rfl, q2.symm, q3.symm⟩
  | false =>
  rw [c1, cF, DZ U _ _ s2, bS] at h
  cases c2 : BZ U (sk wsP U j) [62] with
  | true =>
   rw [c2, cT, FX U _ _ s2 hU, c2, if_pos rfl, bS] at h
   obtain ⟨_, q2, q3⟩ := HD h
   exact .inr (.inl ⟨rfl, q3.symm⟩)
  | false =>
  rw [c2, cF] at h
  by_cases c3 : sk wsP U j = j
  ·rw [show (((sk wsP U j : Nat) : Int) == (j : Int)) = true by simp [c3], cT] at h
   exact absurd (HD h).1 dc
  have c3' : (((sk wsP U j : Nat) : Int) == (j : Int)) = false := by rw [bn]; omega
  obtain ⟨nm, e1, k1, n1, n2, n3, n4, n5⟩ := HF U (sk wsP U j) s2 hU
  rw [c3', cF, n1, bS] at h
  dsimp only at h
  by_cases ce1 : e1 = 0
  case neg =>
   rw [show (e1 != 0) = true by simpa using ce1, cT] at h
   exact absurd (HD h).1 ce1
  subst ce1
  have n6 := (n5 rfl).2
  rw [show ((0 : Int) != 0) = false from rfl, cF] at h
  obtain ⟨e2, k2, r1, r2, r3⟩ := KC U k1 n3 hU
  rw [r1, bS] at h
  dsimp only at h
  by_cases ce2 : e2 = 0
  case neg =>
   rw [show (e2 != 0) = true by simpa using ce2, cT] at h
   exact absurd (HD h).1 ce2
  subst ce2
  obtain ⟨rv, e3, k3, w1, w2, w3, w4, w5⟩ := IL U k2 r3 hU
  rw [show ((0 : Int) != 0) = false from rfl, cF, w1, bS] at h
  dsimp only at h
  by_cases ce3 : e3 = 0
  case neg =>
   rw [show (e3 != 0) = true by simpa using ce3, cT] at h
   exact absurd (HD h).1 ce3
  subst ce3
  have w6 := w5 rfl
  obtain ⟨rd, hrd⟩ := My rv true om
  have hrv : CK rv = some (rd.1, rd.2.1, rd.2.2) := by unfold CK; rw [hrd]; rfl
  rw [show ((0 : Int) != 0) = false from rfl, cF, hrv, bS] at h
  dsimp only at h
  by_cases ce4 : rd.2.2 = 0
  case neg =>
   rw [show (rd.2.2 != 0) = true by simpa using ce4, cT] at h
   exact absurd (HD h).1 ce4
  rw [show (rd.2.2 != 0) = false by simpa using ce4, cF] at h
  simp only [Ar] at h
  obtain ⟨o, l1, l2⟩ := YC 2 At Nm ps Tx rf ((nm, 0), ⟨U, (k1 : Int)⟩) ((rv, 0), ⟨U, (k3 : Int)⟩) om
  rw [l1, bS] at h
  rcases l2 with ⟨rfl, hno⟩ | rfl
  case inr => exact absurd (HD h).1 dc
  dsimp only at h
  rw [CU so so, bS, bS, ← hI] at h
  exact .inr (.inr ⟨nm, rv, rd.1, rd.2.1, k1, k2, k3, by omega, n1, (n5 rfl).1, n3, r1, r3, w1, w3, by omega, by rw [hrv, ce4], by rw [← hI]; exact h⟩)
theorem Su {b r : LB} {c : UInt8} {i : Nat} (h : b.drop i = c :: r) : b[i]? = some c := by
 have : (b.drop i)[0]? = some c := by rw [h]; rfl
 rw [List.getElem?_drop, Nat.add_zero] at this
 exact this
theorem aD {b r : LB} {c : UInt8} {i : Nat} (h : b.drop i = c :: r) : i < b.length := (List.getElem?_eq_some_iff.1 (Su h)).1
theorem MC {P : UInt8 → Bool} : ∀ (n : Nat) {s : LB} {i k : Nat}, k = i + n → k < sk P s i → ∃ c, s[k]? = some c ∧ P c = true
 | n, s, i, k, hk, h => by
  have hlt : i < s.length := by
   rcases Nat.lt_or_ge i s.length with h' | h'
   ·exact h'
   ·exfalso
    unfold sk at h
    rw [List.drop_of_length_le h'] at h
    simp at h; omega
  rw [Nt hlt] at h
  split at h
  ·rename_i hp
   cases n with
   | zero => subst hk; exact ⟨_, List.getElem?_eq_getElem hlt, hp⟩
   | succ n => exact MC n (i := i + 1) om h
  ·omega
def Hz (r : Int) : LB := (Utf8.encode r).data.toList
theorem eG (r : Nat) (c1 : r < 128) : Hz (r : Int) = [UInt8.ofNat r] := by
 have v : Utf8.valid (r : Int) = true := by simp [Utf8.valid]; omega
 simp [Hz, Utf8.encode, v, c1]
theorem en (r : Nat) (c1 : ¬ r < 128) (c2 : r < 2048) : Hz (r : Int) = [UInt8.ofNat (192 + r / 64), UInt8.ofNat (128 + r % 64)] := by
 have v : Utf8.valid (r : Int) = true := by simp [Utf8.valid]; omega
 simp [Hz, Utf8.encode, v, c1, c2]
theorem Yd (r : Nat) (c2 : ¬ r < 2048) (c3 : r < 65536) (hv : r < 55296 ∨ 57344 ≤ r) : Hz (r : Int) = [UInt8.ofNat (224 + r / 4096), UInt8.ofNat (128 + r / 64 % 64), UInt8.ofNat (128 + r % 64)] := by
 have v : Utf8.valid (r : Int) = true := by simp [Utf8.valid]; omega
 have c1 : ¬ r < 128 := by omega
 simp [Hz, Utf8.encode, v, c1, c2, c3]
theorem dr (r : Nat) (c3 : ¬ r < 65536) (c4 : r ≤ 1114111) : Hz (r : Int) = [UInt8.ofNat (240 + r / 262144), UInt8.ofNat (128 + r / 4096 % 64), UInt8.ofNat (128 + r / 64 % 64), UInt8.ofNat (128 + r % 64)] := by
 have v : Utf8.valid (r : Int) = true := by simp [Utf8.valid]; omega
 have c1 : ¬ r < 128 := by omega
 have c2 : ¬ r < 2048 := by omega
 simp [Hz, Utf8.encode, v, c1, c2, c3]
theorem ofN {n : Nat} (h : n < 256) : (UInt8.ofNat n).toNat = n := by
 show n % 256 = n; omega
theorem dY (l : LB) : decodeL l = decodeN l.length (l.getD 0 0).toNat (l.getD 1 0).toNat (l.getD 2 0).toNat (l.getD 3 0).toNat := Lib.decodeL_N l
theorem Vh (r : Nat) (hv : r < 55296 ∨ (57344 ≤ r ∧ r ≤ 1114111)) (y : LB) : Hz (r : Int) ≠ [] ∧ decodeL (Hz (r : Int) ++ y) = (r, (Hz (r : Int)).length) := by
 by_cases c1 : r < 128
 ·rw [eG r c1]
  refine ⟨by simp, ?_⟩
  rw [List.singleton_append, MM _ _ (by rw [ofN om]; exact c1), ofN om]; rfl
 by_cases c2 : r < 2048
 ·rw [en r c1 c2]
  refine ⟨by simp, ?_⟩
  rw [dY]
  simp only [List.cons_append, List.nil_append, lC, List.getD_cons_zero, List.getD_cons_succ, lN]
  rw [ofN (show 192 + r / 64 < 256 by omega), ofN (show 128 + r % 64 < 256 by omega)]
  unfold decodeN
  rw [if_neg om, if_pos om, if_pos om]
  refine Prod.ext (by dsimp only; omega) rfl
 by_cases c3 : r < 65536
 ·rw [Yd r c2 c3 om]
  refine ⟨by simp, ?_⟩
  rw [dY]
  simp only [List.cons_append, List.nil_append, lC, List.getD_cons_zero, List.getD_cons_succ, lN]
  rw [ofN (show 224 + r / 4096 < 256 by omega), ofN (show 128 + r / 64 % 64 < 256 by omega), ofN (show 128 + r % 64 < 256 by omega)]
  unfold decodeN
  rw [if_neg om, if_neg om, if_pos om, if_pos om]
  refine Prod.ext (by dsimp only; omega) rfl
 ·rw [dr r c3 om]
  refine ⟨by simp, ?_⟩
  rw [dY]
  simp only [List.cons_append, List.nil_append, lC, List.getD_cons_zero, List.getD_cons_succ, lN]
  rw [ofN (show 240 + r / 262144 < 256 by omega), ofN (show 128 + r / 4096 % 64 < 256 by omega), ofN (show 128 + r / 64 % 64 < 256 by omega), ofN (show 128 + r % 64 < 256 by omega)]
  unfold decodeN
  rw [if_neg om, if_neg om, if_neg om, if_pos om, if_pos om]
  refine Prod.ext (by dsimp only; omega) rfl
theorem Z6 (c : Int) (hc : Fu c = true) (y : LB) (hy : OkT y) : OkT (Hz c ++ y) := by
 have h := of_decide_eq_true hc
 obtain ⟨r, rfl⟩ : ∃ r : Nat, c = (r : Int) := ⟨c.toNat, by omega⟩
 obtain ⟨e1, e2⟩ := Vh r om y
 refine .cons (by simp [e1]) ?_ ?_ ?_
 ·rw [e2]
  generalize hn : (Hz (r : Int)).length = n
  have hno : ¬ (r = 65533 ∧ n = 1) := by
   rintro ⟨q1, q2⟩
   rw [← hn, Yd r om om om] at q2
   simp at q2
  exact Bool.eq_false_iff.2 fun hh => hno (of_decide_eq_true hh)
 ·rw [e2]; exact hc
 ·rw [e2]; dsimp only; rw [List.drop_left]; exact hy
theorem Xe {p : LB} {v : Bool} {i : Nat} {l : LB} (hi : i < p.length) (hp : p.length ≤ 1073741824) (hb : IC (decodeL (p.drop i)) = false) (hc : Fu ((decodeL (p.drop i)).1 : Int) = true)
  (h60 : (decodeL (p.drop i)).1 ≠ 60) (hx : v = true ∨ ([93, 93, 62] : LB).isPrefixOf (p.drop i) = false) (rec) :
  A7 p v rec (l, (i : Int)) = cond (((decodeL (p.drop i)).1 : Int) == (38 : Int)) ((Dr p (i : Int)).bind fun x101 => cond (x101.2.2 != (0 : Int)) (some (.inr (([] : LB), (i : Int), x101.2.2))) ((app 1 l (Hz x101.1)).bind fun _ => rec ((l ++ Hz x101.1), x101.2.1)))
   (cond (v && (((((decodeL (p.drop i)).1 : Int) == (9 : Int)) || (((decodeL (p.drop i)).1 : Int) == (10 : Int))) || (((decodeL (p.drop i)).1 : Int) == (13 : Int)))) ((app 1 l (Hz 32)).bind fun _ => rec ((l ++ Hz 32), ((i + (decodeL (p.drop i)).2 : Nat) : Int))) ((app 1 l (Hz ((decodeL (p.drop i)).1 : Int))).bind fun _ => rec ((l ++ Hz ((decodeL (p.drop i)).1 : Int)), ((i + (decodeL (p.drop i)).2 : Nat) : Int)))) := by
 unfold A7
 simp only [Ar]
 rw [dT om, cT, Ko p i hi hp, hb, hc, if_neg (by simp), if_pos rfl, bS]
 dsimp only
 rw [show (((0 : Int)) != 0) = false from rfl, cF, show (((decodeL (p.drop i)).1 : Int) == (60 : Int)) = false by rw [bn]; omega, cF]
 rcases hx with rfl | hx
 ·rfl
 ·cases v with
  | true => rfl
  | false =>
   simp only [bF, cT, CV (Nat.le_of_lt hi), bS, Dv, hx, cF]
   rfl
theorem ZH {a b : LB} (h : a.length + b.length ≤ 9223372036854775807) : cat a b = some (a ++ b) := by unfold cat; rw [if_pos h]
def txE (c : UInt8) : LB := if c = 38 then [38, 97, 109, 112, 59] else if c = 60 then [38, 108, 116, 59] else if c = 62 then [38, 103, 116, 59] else if c = 13 then [38, 35, 49, 51, 59] else [c]
theorem WM (a : LB) (k : Int) (ha : a.length ≤ 1073741824) : ∃ o, iter (B8 a k) Ay ((0 : Int), (0 : Int)) = some o ∧ ∀ q, o = .inr q → q.2 ≠ 0 := by
 refine CC (b := B8 a k) (fun i x => ∃ n : Int, x = (n, (i : Int))) _ a.length (x0 := ((0 : Int), (0 : Int))) ⟨0, rfl⟩ ?_ ?_ (n := Ay) (by unfold Ay; omega)
 ·rintro i x rec hi ⟨n, rfl⟩
  obtain ⟨r, hr⟩ := NW (a[i].toNat : Int)
  unfold B8
  dsimp only
  rw [dT om, cT, A6 hi, bS, hr, bS]
  cases decide (k ≤ r) with
  | true => exact .inr ⟨_, rfl, fun q hq => by injection hq with hq; rw [← hq]; decide⟩
  | false =>
   rw [cF, w64 (x := (i : Int) + 1) om om]
   exact .inl ⟨_, rfl, _, rfl⟩
 ·rintro x rec ⟨n, rfl⟩
  unfold B8
  dsimp only
  rw [dF om, cF]
  exact ⟨_, rfl, fun q hq => by cases hq⟩
theorem Tj {s : LB} (hs : s.length ≤ 1073741824) {r : Int} (h : EI s = some (r, 0)) : Fu r = true := by
 unfold EI at h
 rcases Fg h with h | h
 ·injection sj h with h _; rw [← h]; decide
 rcases Fg h with h | h
 ·injection sj h with h _; rw [← h]; decide
 rcases Fg h with h | h
 ·injection sj h with h _; rw [← h]; decide
 rcases Fg h with h | h
 ·injection sj h with h _; rw [← h]; decide
 rcases Fg h with h | h
 ·injection sj h with h _; rw [← h]; decide
 rw [GD, bS] at h
 generalize hx : (if ([35] : LB).isPrefixOf s = true then (s.drop ([35] : LB).length, true) else (s, false)) = x at h
 have hxl : x.1.length ≤ 1073741824 := by
  rw [← hx]; split
  ·dsimp only; rw [lD]; omega
  ·exact hs
 simp only [Ar] at h
 rw [GD, bS] at h
 generalize hy : (if ([120] : LB).isPrefixOf x.1 = true then (x.1.drop ([120] : LB).length, true) else (x.1, false)) = y at h
 have hyl : y.1.length ≤ 1073741824 := by
  rw [← hy]; split
  ·dsimp only; rw [lD]; omega
  ·exact hxl
 have core : ∀ (a : LB) (k : Int), a.length ≤ 1073741824 → cond ((!x.2) || (a == ([] : LB))) (some ((0 : Int), (22 : Int))) ((iter (B8 a k) Ay ((0 : Int), (0 : Int))).bind fun o => match o with
   | .inl o1 => (Eh (IntKind.wrap .i32 o1)).bind fun x34 => cond (!x34) (some ((0 : Int), (21 : Int))) (some ((IntKind.wrap .i32 o1), (0 : Int)))
   | .inr o1 => some o1) = some (r, 0) → Fu r = true := by
  intro a k ha h
  rcases Fg h with h | h
  ·injection sj h with _ h; exact absurd h dc
  obtain ⟨o, e, ho⟩ := WM a k ha
  rw [e, bS] at h
  cases o with
  | inr q => exact absurd (by have := sj h; rw [this]) (ho q rfl)
  | inl q =>
   dsimp only at h
   rw [OS, bS] at h
   cases hc : Fu (IntKind.wrap .i32 q) with
   | false =>
    rw [hc, bF, cT] at h
    injection sj h with _ h; exact absurd h dc
   | true =>
    rw [hc, bT, cF] at h
    injection sj h with h _
    rw [← h]; exact hc
 rcases Fg h with h | h
 ·exact core y.1 16 hyl h
 ·exact core x.1 10 hxl h
theorem SE {p : LB} {i : Nat} (hi : i < p.length) (hp : p.length ≤ 1073741824) {r n : Int} (h : Dr p (i : Int) = some (r, n, 0)) : Fu r = true := by
 unfold Dr at h
 simp only [Ar] at h
 rw [dF (show ¬ (i : Int) < 0 by omega), dF (show ¬ (p.length : Int) ≤ (i : Int) by omega), show (false || false) = false from rfl, cF, A6 hi, bS] at h
 rcases Fg h with h | h
 ·injection sj h with _ h; injection h with _ h; exact absurd h dc
 obtain ⟨_, _, h⟩ := Dx h
 obtain ⟨_, _, h⟩ := Dx h
 rcases Fg h with h | h
 ·injection sj h with _ h; injection h with _ h; exact absurd h dc
 obtain ⟨w, hw, h⟩ := Dx h
 obtain ⟨y, hy, h⟩ := Dx h
 have hwl : w.length ≤ 1073741824 := by
  unfold slc at hw
  split at hw
  ·rw [← sj hw, List.length_take, lD]; omega
  ·cases hw
 cases hz : y.2 != (0 : Int) with
 | true =>
  rw [hz, cT] at h
  injection sj h with _ h; injection h with _ h
  rw [h] at hz; exact absurd hz dc
 | false =>
  rw [hz, cF] at h
  injection sj h with h _
  have h0 : y.2 = 0 := by simpa using hz
  rw [← h]
  exact Tj hwl (r := y.1) (by rw [hy, ← h0])
theorem PI {p : LB} {v : Bool} (hp : p.length ≤ 1073741824) {t : LB} {n : Int} (h : DQ p v = some (t, n, 0)) : OkT t ∧ (p ≠ [] → t ≠ []) ∧ t.length ≤ 4 * p.length := by
 have okA : ∀ {l : LB} {c : Int}, OkT l → Fu c = true → OkT (l ++ Hz c) := fun {l c} hl hc => by
  have := Z6 c hc [] .nil
  rw [List.append_nil] at this
  exact Rg hl this
 have encne : ∀ {c : Int}, Fu c = true → Hz c ≠ [] := fun {c} hc => by
  have h := of_decide_eq_true hc
  obtain ⟨r, rfl⟩ : ∃ r : Nat, c = (r : Int) := ⟨c.toNat, by omega⟩
  exact (Vh r om []).1
 obtain ⟨o, e, ho⟩ := DG (b := A7 p v) (fun x => p.length - x.2.toNat) (fun x => ∃ (l : LB) (i : Nat), x = (l, (i : Int)) ∧ i ≤ p.length ∧ l.length ≤ 4 * i ∧ OkT l ∧ (0 < i → l ≠ [])) (fun o => (∀ t, o = .inl t → OkT t ∧ (p ≠ [] → t ≠ []) ∧ t.length ≤ 4 * p.length) ∧ ∀ q, o = .inr q → q.2.2 ≠ 0) (by
  rintro _ ⟨l, i, rfl, hi, hl, hok, hne0⟩
  by_cases hlt : i < p.length
  case neg =>
   right
   refine ⟨.inl l, fun rec => ?_, fun t ht => by injection ht with ht; rw [← ht]; exact ⟨hok, fun hpn => hne0 (by have := List.length_pos_iff.2 hpn; omega), by omega⟩, fun q hq => by cases hq⟩
   unfold A7
   dsimp only
   rw [dF om, cF]
  have bad : ∀ (q : LB × Int × Int), q.2.2 ≠ 0 → (∀ rec, A7 p v rec (l, (i : Int)) = some (.inr q)) → (∃ y, (∀ rec, A7 p v rec (l, (i : Int)) = rec y) ∧ (∃ (l : LB) (i : Nat), y = (l, (i : Int)) ∧ i ≤ p.length ∧ l.length ≤ 4 * i ∧ OkT l ∧ (0 < i → l ≠ [])) ∧ p.length - y.2.toNat < p.length - ((l, (i : Int)) : LB × Int).2.toNat) ∨ (∃ o, (∀ rec, A7 p v rec (l, (i : Int)) = some o) ∧ ((∀ t, o = .inl t → OkT t ∧ (p ≠ [] → t ≠ []) ∧ t.length ≤ 4 * p.length) ∧ ∀ q, o = .inr q → q.2.2 ≠ 0)) :=
   fun q hq hr => .inr ⟨.inr q, hr, fun t ht => (by cases ht), fun q' hq' => by injection hq' with hq'; rw [← hq']; exact hq⟩
  have good : ∀ (c : Int) (m : Nat), Fu c = true → i < m → m ≤ p.length → (∀ rec, A7 p v rec (l, (i : Int)) = (app 1 l (Hz c)).bind fun _ => rec (l ++ Hz c, (m : Int))) → (∃ y, (∀ rec, A7 p v rec (l, (i : Int)) = rec y) ∧ (∃ (l : LB) (i : Nat), y = (l, (i : Int)) ∧ i ≤ p.length ∧ l.length ≤ 4 * i ∧ OkT l ∧ (0 < i → l ≠ [])) ∧ p.length - y.2.toNat < p.length - ((l, (i : Int)) : LB × Int).2.toNat) ∨ (∃ o, (∀ rec, A7 p v rec (l, (i : Int)) = some o) ∧ ((∀ t, o = .inl t → OkT t ∧ (p ≠ [] → t ≠ []) ∧ t.length ≤ 4 * p.length) ∧ ∀ q, o = .inr q → q.2.2 ≠ 0)) := by
   intro c m hc h1 h2 hr
   have e4 : (Hz c).length ≤ 4 := VB c
   refine .inl ⟨(l ++ Hz c, (m : Int)), fun rec => ?_, ⟨_, m, rfl, h2, by rw [lA]; omega, okA hok hc, fun _ hnil => encne hc (List.append_eq_nil_iff.1 hnil).2⟩, by dsimp only; omega⟩
   rw [hr, CU om om, bS]
  have hne := VO hlt
  have hpos := QE hne
  have hdl : i + (decodeL (p.drop i)).2 ≤ p.length := (DY p i hlt).2.1
  cases hb : IC (decodeL (p.drop i)) with
  | true =>
   refine bad ([], (i : Int), 20) (show (20 : Int) ≠ 0 by decide) fun rec => ?_
   unfold A7
   simp only [Ar]
   rw [dT om, cT, Ko p i hlt hp, hb, if_pos rfl, bS]
   rfl
  | false =>
  cases hc : Fu ((decodeL (p.drop i)).1 : Int) with
  | false =>
   refine bad ([], (i : Int), 21) (show (21 : Int) ≠ 0 by decide) fun rec => ?_
   unfold A7
   simp only [Ar]
   rw [dT om, cT, Ko p i hlt hp, hb, hc, if_neg (by simp), if_neg (by simp), bS]
   rfl
  | true =>
  by_cases h60 : (decodeL (p.drop i)).1 = 60
  ·refine bad ([], (i : Int), 23) (show (23 : Int) ≠ 0 by decide) fun rec => ?_
   unfold A7
   simp only [Ar]
   rw [dT om, cT, Ko p i hlt hp, hb, hc, if_neg (by simp), if_pos rfl, bS, h60]
   rfl
  by_cases hx : v = true ∨ ([93, 93, 62] : LB).isPrefixOf (p.drop i) = false
  case neg =>
   have hv : v = false := by cases v with
    | false => rfl
    | true => exact absurd (.inl rfl) hx
   subst hv
   have hx' : ([93, 93, 62] : LB).isPrefixOf (p.drop i) = true := by
    cases hh : ([93, 93, 62] : LB).isPrefixOf (p.drop i) with
    | true => rfl
    | false => exact absurd (.inr hh) hx
   refine bad ([], (i : Int), 23) (show (23 : Int) ≠ 0 by decide) fun rec => ?_
   unfold A7
   simp only [Ar]
   rw [dT om, cT, Ko p i hlt hp, hb, hc, if_neg (by simp), if_pos rfl, bS]
   dsimp only
   rw [show (((0 : Int)) != 0) = false from rfl, cF, show (((decodeL (p.drop i)).1 : Int) == (60 : Int)) = false by rw [bn]; omega, cF]
   simp only [bF, cT, CV (Nat.le_of_lt hlt), bS, Dv, hx', cF]
  have hg := fun rec => Xe (v := v) (l := l) hlt hp hb hc h60 hx rec
  cases h38 : ((decodeL (p.drop i)).1 : Int) == (38 : Int) with
  | true =>
   obtain ⟨r, n, e, he, hm⟩ := PN p i hlt hp
   by_cases h0 : e = 0
   ·subst h0
    obtain ⟨m, rfl, m1, m2⟩ := hm rfl
    refine good r m (SE hlt hp he) m1 m2 fun rec => ?_
    rw [hg, h38, cT, he, bS]
    rfl
   ·refine bad ([], (i : Int), e) h0 fun rec => ?_
    rw [hg, h38, cT, he, bS]
    dsimp only
    rw [show (e != 0) = true by simpa using h0, cT]
  | false =>
  cases hw : (v && (((((decodeL (p.drop i)).1 : Int) == (9 : Int)) || (((decodeL (p.drop i)).1 : Int) == (10 : Int))) || (((decodeL (p.drop i)).1 : Int) == (13 : Int)))) with
  | true => exact good 32 _ dc om hdl fun rec => by rw [hg, h38, cF, hw, cT]
  | false => exact good _ _ hc om hdl fun rec => by rw [hg, h38, cF, hw, cF]) Ay (([] : LB), (0 : Int)) ⟨[], 0, rfl, Nat.zero_le _, Nat.zero_le _, .nil, fun h => absurd h (Nat.lt_irrefl 0)⟩ (by unfold Ay; show p.length - _ < _; omega)
 unfold DQ at h
 simp only [Ar] at h
 rw [e, bS] at h
 cases o with
 | inl q =>
  injection sj h with h _
  exact ho.1 t (by rw [h])
 | inr q =>
  have := sj h
  exact absurd (by rw [this]) (ho.2 q rfl)
theorem Np {U x y : LB} {i : Nat} {a c : UInt8} (h : OkT U) (hi : 0 < i) (ha : U[i - 1]? = some a) (ha1 : a.toNat < 128) (hc : c.toNat < 128) (e : U.drop i = x ++ c :: y) : OkT x := by
 obtain ⟨hlt, hg⟩ := List.getElem?_eq_some_iff.1 ha
 have e2 : U = U.take (i - 1) ++ a :: (x ++ c :: y) := by
  conv => lhs; rw [← List.take_append_drop (i - 1) U]
  rw [Rl hlt, hg, show i - 1 + 1 = i by omega, e]
 have h1 := YU ha1 (P0 ha1 h _ e2).2
 exact (P0 hc h1 _ rfl).1
theorem U6 {U x y : LB} {i : Nat} (h : (13 : UInt8) ∉ U) (e : U.drop i = x ++ y) : (13 : UInt8) ∉ x := fun hm => h (List.mem_of_mem_drop (e ▸ List.mem_append_left y hm))
def IG (x : LB) : Prop := ∃ (U : LB) (i : Nat) (c : UInt8) (y : LB) (s : TS), U.length ≤ 65536 ∧ U.drop i = x ++ c :: y ∧ c.toNat < 128 ∧ Bl ⟨U, (i : Int)⟩ = some ((x, 0), s) ∧ OkT x ∧ (13 : UInt8) ∉ x
theorem IT {U : LB} {i j : Nat} (hU : U.length ≤ 65536) (hok : OkT U) (h13 : (13 : UInt8) ∉ U) (hi : i ≤ U.length) {x : LB} {c : UInt8} (h : Bl ⟨U, (i : Int)⟩ = some ((x, 0), ⟨U, (j : Int)⟩)) (hc : U[j]? = some c) (h128 : c.toNat < 128)
  {a : UInt8} (hi0 : 0 < i) (ha : U[i - 1]? = some a) (ha1 : a.toNat < 128) : IG x := by
 obtain ⟨j', e1, h1, h2, h3, _⟩ := aR hi om h
 have : j' = j := by injection e1 with _ e1; omega
 subst this
 obtain ⟨hlt, hg⟩ := List.getElem?_eq_some_iff.1 hc
 have e : U.drop i = x ++ c :: U.drop (j' + 1) := by
  rw [h3]
  conv => lhs; rw [← List.take_append_drop (j' - i) (U.drop i)]
  rw [List.drop_drop, show i + (j' - i) = j' by omega, Rl hlt, hg]
 exact ⟨U, i, c, U.drop (j' + 1), _, hU, e, h128, h, Np hok hi0 ha ha1 h128 e, U6 h13 e⟩
theorem UB {x : LB} (h : IG x) : x.length ≤ 65536 := by
 obtain ⟨U, i, c, y, s, hU, e, _⟩ := h
 have := congrArg List.length e
 rw [lD, lA] at this; omega
def Kw (ps : List TP) : Prop := ∀ p ∈ ps, IG p.Name ∧ OkT p.Value ∧ p.Value.length ≤ 262144
theorem Ny {U : LB} {j : Nat} (hj : j ≤ U.length) {c : UInt8} (h : U[sk wsP U j]? = some c) (hc : c.toNat < 128) : ∃ d, U[j]? = some d ∧ d.toNat < 128 := by
 obtain ⟨s1, s2⟩ := GW wsP U j hj
 by_cases he : sk wsP U j = j
 ·exact ⟨c, by rw [he] at h; exact h, hc⟩
 ·obtain ⟨d, d1, d2⟩ := MC (P := wsP) (s := U) (i := j) (k := j) 0 rfl om
  exact ⟨d, d1, Ru d d2⟩
theorem MP {U : LB} (hU' : U.length ≤ 65536) (hok : OkT U) (h13 : (13 : UInt8) ∉ U) (At : Int) (Nm Tx : LB) (rf : Int) (f : Nat) (t' : Tk) :
  ∀ (m j : Nat) (ps : List TP) (y z : LB), j ≤ U.length → ps.length ≤ j → Kw ps → iter Az m (U, (j : Int), (2 : Int), At, Nm, ps, Tx, rf, y, z) = some (0, ⟨U, (f : Int)⟩, t') →
   Kw t'.Pairs ∧ (t' = ⟨2, At, Nm, t'.Pairs, Tx, rf⟩ ∨ t' = ⟨4, At, Nm, t'.Pairs, Tx, rf⟩) ∧ ∃ c, U[j]? = some c ∧ c.toNat < 128
 | 0, j, ps, y, z, _, _, _, h => by cases h
 | m + 1, j, ps, y, z, g2, g3, hp, h => by
  have hU : U.length ≤ 1073741824 := by omega
  rcases QU hU At Nm Tx rf f t' m j ps y z g2 g3 h with ⟨c1, _, rfl⟩ | ⟨c1, rfl⟩ | ⟨nm, rv, val, n, k1, k2, k3, s1, s2, s3, s4, s5, s6, s7, s8, s9, s10, h⟩
  ·exact ⟨hp, .inr rfl, Ny g2 (Ez c1) dc⟩
  ·exact ⟨hp, .inl rfl, Ny g2 (Ez c1) dc⟩
  ·obtain ⟨sl1, sl2⟩ := GW wsP U j g2
   obtain ⟨d, d1, d2⟩ := MC (P := wsP) (s := U) (i := j) (k := j) 0 rfl s1
   obtain ⟨_, _, _, e61, _, _⟩ := VY s4 hU s5
   obtain ⟨c, c1, c2⟩ := Ny s4 (Ez e61) dc
   obtain ⟨a, a1, a2⟩ := MC (P := wsP) (s := U) (i := j) (k := sk wsP U j - 1) (sk wsP U j - 1 - j) om om
   have hnm := IT hU' hok h13 sl2 s2 c1 c2 om a1 (Ru a a2)
   obtain ⟨v, e3, k4, w1, _, _, w4, _⟩ := IL U k2 s6 hU
   have hrv : rv.length ≤ 65536 := by
    rw [w1] at s7
    have s7 := sj s7
    injection s7 with s7 _
    injection s7 with s7 _
    rw [← s7]; omega
   have hval : OkT val ∧ val.length ≤ 262144 := by
    unfold CK at s10
    obtain ⟨r, r1, r2⟩ := Dx s10
    have r2 := sj r2
    injection r2 with r2 r3
    injection r3 with r3 r4
    have hb := PI om (t := val) (n := n) (show DQ rv true = _ by rw [r1, ← r2, ← r3, ← r4])
    exact ⟨hb.1, by have := hb.2.2; omega⟩
   have hp' : Kw (ps ++ [⟨nm, val⟩]) := by
    intro p hmem
    rcases List.mem_append.1 hmem with hmem | hmem
    ·exact hp p hmem
    ·rw [List.mem_singleton.1 hmem]; exact ⟨hnm, hval⟩
   obtain ⟨q1, q2, _⟩ := MP hU' hok h13 At Nm Tx rf f t' m k3 _ nm val s8 (by simpa using s9) hp' h
   exact ⟨q1, q2, d, d1, Ru d d2⟩
theorem Zw {U : LB} (hU' : U.length ≤ 65536) (hok : OkT U) (h13 : (13 : UInt8) ∉ U) {i f : Nat} {t t' : Tk} (hi : i + 1 ≤ U.length) (h60 : U[i]? = some 60) (hp : t.Pairs = []) (h : Cj ⟨U, (i : Int)⟩ t = some (0, ⟨U, (f : Int)⟩, t')) :
  IG t'.Name ∧ Kw t'.Pairs ∧ (t' = ⟨2, t.At, t'.Name, t'.Pairs, t.Text, t.Refs⟩ ∨ t' = ⟨4, t.At, t'.Name, t'.Pairs, t.Text, t.Refs⟩) := by
 have hU : U.length ≤ 1073741824 := by omega
 unfold Cj at h
 dsimp only at h
 rw [w64 (x := (i : Int) + 1) om om, show (i : Int) + 1 = ((i + 1 : Nat) : Int) by omega] at h
 obtain ⟨v, e, j, h1, h2, h3, h4, h5⟩ := HF U (i + 1) hi hU
 rw [h1, bS] at h
 dsimp only at h
 by_cases he : e = 0
 case neg =>
  rw [show (e != 0) = true by simpa using he, cT] at h
  exact absurd (HD h).1 he
 subst he
 have hbind : ∀ o : Option (Int × TS × TK), (o.bind fun x => some x) = o := fun o => by cases o <;> rfl
 rw [show ((0 : Int) != 0) = false from rfl, cF, hbind] at h
 obtain ⟨q1, q2, c, c1, c2⟩ := MP hU' hok h13 t.At v t.Text t.Refs f t' Ay j t.Pairs [] [] h3 (by rw [hp]; exact Nat.zero_le _) (by rw [hp]; intro p hp; cases hp) h
 have hv : t'.Name = v := by rcases q2 with q2 | q2 <;> rw [q2]
 rw [hv]
 exact ⟨IT hU' hok h13 hi h1 c1 c2 om (a := 60) (by simpa using h60) dc, q1, q2⟩
theorem Vw : ∀ (w : LB), (∀ c ∈ w, c.toNat < 128 ∧ Fu (c.toNat : Int) = true) → OkT w
 | [], _ => .nil
 | c :: w, h => Xm c _ (h c List.mem_cons_self).1 (h c List.mem_cons_self).2 (Vw w fun d hd => h d (List.mem_cons_of_mem _ hd))
def MW (x w : LB) : Prop := ∀ R, Lib.index (x ++ (w ++ R)) w = (x.length : Int)
theorem YS {s w : LB} {m : Nat} (hw : w ≠ []) (h : Lib.index s w = (m : Int)) : MW (s.take m) w ∧ ∃ R, s = s.take m ++ (w ++ R) := by
 obtain ⟨o1, o2⟩ := HJ h hw
 have hml : (s.take m).length = m := by rw [List.length_take]; omega
 have hx : ∃ R, s = s.take m ++ (w ++ R) := by
  rw [List.isPrefixOf_iff_prefix] at o1
  obtain ⟨R, hR⟩ := o1
  exact ⟨R, by rw [hR, List.take_append_drop]⟩
 refine ⟨fun R => ?_, hx⟩
 obtain ⟨R0, hs⟩ := hx
 have oc : ∀ k, k ≤ m → Lib.occAt (s.take m ++ (w ++ R)) w k = Lib.occAt s w k := by
  intro k hk
  have e : ∀ R, ((s.take m ++ (w ++ R)).drop k).take w.length = ((s.take m ++ w).drop k).take w.length := fun R => by
   rw [← List.append_assoc, List.drop_append_of_le_length (by rw [lA, hml]; omega), List.take_append_of_le_length (by rw [lD, lA, hml]; omega)]
  show w.isPrefixOf _ = w.isPrefixOf _
  rw [FI, FI]
  have hl1 : w.length ≤ ((s.take m ++ (w ++ R)).drop k).length := by rw [lD, lA, lA, hml]; omega
  have hl2 : w.length ≤ (s.drop k).length := by rw [lD]; omega
  rw [dT hl1, dT hl2, e R]
  conv => rhs; rw [hs, e R0]
 rw [hml]
 rcases Lib.index_spec s w with ⟨g, _⟩ | ⟨i, g1, g2, g3, g4⟩
 ·omega
 ·have : i = m := by omega
  subst this
  refine Lib.index_first (by rw [lA, hml]; omega) (by rw [oc i (Nat.le_refl _)]; exact g3) fun k hk => ?_
  rw [oc k om]
  exact g4 k hk
theorem KE {U : LB} (hU : U.length ≤ 1073741824) {i k j : Nat} {t t' : Tk} {w : LB} (hw : w ≠ []) (hwl : w.length ≤ 100) (hi : i + k ≤ U.length) (h : Bb ⟨U, (i : Int)⟩ t (k : Int) w = some (0, ⟨U, (j : Int)⟩, t')) :
  ∃ x R, U.drop (i + k) = x ++ (w ++ R) ∧ MW x w ∧ j = i + k + x.length + w.length ∧ t' = ⟨t.Kind, t.At, t.Name, t.Pairs, x, t.Refs⟩ := by
 unfold Bb at h
 dsimp only at h
 rw [w64 (x := (i : Int) + (k : Int)) om om, show (i : Int) + (k : Int) = ((i + k : Nat) : Int) by omega, CV om, bS] at h
 unfold IZ at h
 rw [if_pos ⟨by rw [lD]; omega, by omega, hw⟩, bS] at h
 by_cases hn : Lib.index (U.drop (i + k)) w < 0
 ·rw [dT hn, cT] at h
  have h := sj h
  injection h with h _
  cases h
 ·obtain ⟨m, e1⟩ : ∃ m : Nat, Lib.index (U.drop (i + k)) w = (m : Int) := ⟨(Lib.index (U.drop (i + k)) w).toNat, by omega⟩
  obtain ⟨_, e2⟩ := HJ e1 hw
  have hwp : 0 < w.length := List.length_pos_iff.2 hw
  rw [lD] at e2
  rw [dF hn, cF, e1, Hh (by rw [lD]; omega), bS, w64 (x := (k : Int) + (m : Int)) om om, w64 (x := (k : Int) + (m : Int) + (w.length : Int)) om om, w64 om om] at h
  have h := sj h
  injection h with _ h
  injection h with h3 h4
  injection h3 with _ h3
  obtain ⟨f1, R, f2⟩ := YS hw e1
  have hml : ((U.drop (i + k)).take m).length = m := by rw [List.length_take, lD]; omega
  exact ⟨_, R, f2, f1, by rw [hml]; omega, h4.symm⟩
theorem Qg {U : LB} (hU' : U.length ≤ 65536) (hok : OkT U) (h13 : (13 : UInt8) ∉ U) {i f : Nat} {t t' : Tk} (hi : i + 2 ≤ U.length) (h47 : BZ U i [60, 47] = true) (h : BI ⟨U, (i : Int)⟩ t = some (0, ⟨U, (f : Int)⟩, t')) :
  IG t'.Name ∧ t' = ⟨3, t.At, t'.Name, t.Pairs, t.Text, t.Refs⟩ := by
 have hU : U.length ≤ 1073741824 := by omega
 unfold BI at h
 dsimp only at h
 rw [w64 (x := (i : Int) + 2) om om, show (i : Int) + 2 = ((i + 2 : Nat) : Int) by omega] at h
 obtain ⟨v, e, j, h1, h2, h3, h4, h5⟩ := HF U (i + 2) hi hU
 rw [h1, bS] at h
 dsimp only at h
 by_cases he : e = 0
 case neg =>
  rw [show (e != 0) = true by simpa using he, cT] at h
  exact absurd (HD h).1 he
 subst he
 obtain ⟨s1, s2⟩ := GW wsP U j h3
 rw [show ((0 : Int) != 0) = false from rfl, cF, C5 U _ j h3 hU, bS, FX U _ _ s2 hU, bS] at h
 cases hh : BZ U (sk wsP U j) [62] with
 | false =>
  rw [hh, if_neg (by simp)] at h
  exact absurd (HD h).1 (by show ¬ (23 : Int) = 0; decide)
 | true =>
  rw [hh, if_pos rfl] at h
  obtain ⟨_, _, g3⟩ := HD h
  obtain ⟨c, c1, c2⟩ := Ny h3 (Ez hh) dc
  have ha : U[i + 2 - 1]? = some 47 := by
   have := KG 1 h47 dc
   simpa using this
  rw [← g3]
  exact ⟨IT hU' hok h13 hi h1 c1 c2 om ha dc, rfl⟩
theorem Ta {U : LB} (hU' : U.length ≤ 65536) (hok : OkT U) (h13 : (13 : UInt8) ∉ U) {i f : Nat} {t t' : Tk} (hi : i + 2 ≤ U.length) (h63 : BZ U i [60, 63] = true) (ht : t.Text = []) (h : Bv ⟨U, (i : Int)⟩ t = some (0, ⟨U, (f : Int)⟩, t')) :
  IG t'.Name ∧ GZ t'.Name = true ∧ AZ t'.Name [120, 109, 108] = some false ∧ t' = ⟨8, t.At, t'.Name, t.Pairs, t'.Text, t.Refs⟩ ∧ (t'.Text = [] ∨ (MW t'.Text [63, 62] ∧ OkT t'.Text ∧ (13 : UInt8) ∉ t'.Text ∧ ∀ c x, t'.Text = c :: x → wsP c = false)) := by
 have hU : U.length ≤ 1073741824 := by omega
 unfold Bv at h
 dsimp only at h
 rw [w64 (x := (i : Int) + 2) om om, show (i : Int) + 2 = ((i + 2 : Nat) : Int) by omega] at h
 obtain ⟨v, e, j, h1, h2, h3, h4, h5⟩ := HF U (i + 2) hi hU
 rw [h1, bS] at h
 dsimp only at h
 by_cases he : e = 0
 case neg =>
  rw [show (e != 0) = true by simpa using he, cT] at h
  exact absurd (HD h).1 he
 subst he
 have ha : U[i + 2 - 1]? = some 63 := by
  have := KG 1 h63 dc
  simpa using this
 rw [show ((0 : Int) != 0) = false from rfl, cF, Js, bS] at h
 cases hnm : GZ v with
 | false => rw [hnm, bF, cT] at h; exact absurd (HD h).1 dc
 | true =>
 obtain ⟨r, hr⟩ := Rc v om
 rw [hnm, bT, cF, hr, bS] at h
 cases r with
 | true => rw [cT] at h; exact absurd (HD h).1 dc
 | false =>
 rw [cF, DZ U j _ h3, bS] at h
 cases hh : BZ U j [63, 62] with
 | true =>
  rw [hh, cT, FX U _ _ h3 hU, hh, if_pos rfl, bS] at h
  obtain ⟨_, _, g3⟩ := HD h
  rw [← g3]
  exact ⟨IT hU' hok h13 hi h1 (Ez hh) dc om ha dc, hnm, hr, rfl, .inl ht⟩
 | false =>
  obtain ⟨s1, s2⟩ := GW wsP U j h3
  rw [hh, cF, C5 U _ j h3 hU, bS] at h
  by_cases hs : sk wsP U j = j
  ·rw [show (((sk wsP U j : Nat) : Int) == (j : Int)) = true by simp [hs], cT] at h
   exact absurd (HD h).1 dc
  rw [show (((sk wsP U j : Nat) : Int) == (j : Int)) = false by rw [bn]; omega, cF] at h
  obtain ⟨d, d1, d2⟩ := MC (P := wsP) (s := U) (i := j) (k := j) 0 rfl om
  obtain ⟨a, a1, a2⟩ := MC (P := wsP) (s := U) (i := j) (k := sk wsP U j - 1) (sk wsP U j - 1 - j) om om
  obtain ⟨e2, k, x, u1, u2, u3⟩ := Ku U (sk wsP U j) 0 ⟨8, t.At, v, t.Pairs, t.Text, t.Refs⟩ [63, 62] (by simp) om hU (by simp)
  rw [show (0 : Int) = ((0 : Nat) : Int) from rfl, u1, bS] at h
  obtain ⟨g1, g2, g3⟩ := HD h
  subst g1
  obtain ⟨x', R, v1, v2, v3, v4⟩ := KE hU (by simp) (by simp) om u1
  have hx : x = x' := by injection v4
  subst hx
  rw [Nat.add_zero] at v1
  rw [← g3]
  refine ⟨IT hU' hok h13 hi h1 d1 (Ru d d2) om ha dc, hnm, hr, rfl, .inr ⟨v2, Np hok om a1 (Ru a a2) (by decide : (63 : UInt8).toNat < 128) v1, U6 h13 v1, fun c y hc => ?_⟩⟩
  have hc' : x = c :: y := hc
  rw [hc'] at v1
  have hlt := aD v1
  have := VP (P := wsP) (s := U) (U.length - j) j om hlt
  have hg := Su v1
  rw [List.getElem?_eq_getElem hlt] at hg
  rw [sj hg] at this
  exact this
theorem WN {U : LB} (hU : U.length ≤ 1073741824) {i f : Nat} {t t' : Tk} (hi : i + 2 ≤ U.length) (ht : t.Text = []) (h : Bv ⟨U, (i : Int)⟩ t = some (0, ⟨U, (f : Int)⟩, t')) : t'.Text.length ≤ U.length := by
 unfold Bv at h
 dsimp only at h
 rw [w64 (x := (i : Int) + 2) om om, show (i : Int) + 2 = ((i + 2 : Nat) : Int) by omega] at h
 obtain ⟨v, e, j, h1, h2, h3, h4, h5⟩ := HF U (i + 2) hi hU
 rw [h1, bS] at h
 dsimp only at h
 by_cases he : e = 0
 case neg =>
  rw [show (e != 0) = true by simpa using he, cT] at h
  exact absurd (HD h).1 he
 subst he
 rw [show ((0 : Int) != 0) = false from rfl, cF, Js, bS] at h
 cases hnm : GZ v with
 | false => rw [hnm, bF, cT] at h; exact absurd (HD h).1 dc
 | true =>
 obtain ⟨r, hr⟩ := Rc v om
 rw [hnm, bT, cF, hr, bS] at h
 cases r with
 | true => rw [cT] at h; exact absurd (HD h).1 dc
 | false =>
 rw [cF, DZ U j _ h3, bS] at h
 cases hh : BZ U j [63, 62] with
 | true =>
  rw [hh, cT, FX U _ _ h3 hU, hh, if_pos rfl, bS] at h
  obtain ⟨_, _, g3⟩ := HD h
  rw [← g3]
  show t.Text.length ≤ _
  rw [ht]; exact Nat.zero_le _
 | false =>
  obtain ⟨s1, s2⟩ := GW wsP U j h3
  rw [hh, cF, C5 U _ j h3 hU, bS] at h
  rcases Fg h with h | h
  ·exact absurd (HD h).1 dc
  obtain ⟨e2, k, x, u1, u2, u3⟩ := Ku U (sk wsP U j) 0 ⟨8, t.At, v, t.Pairs, t.Text, t.Refs⟩ [63, 62] (by simp) om hU (by simp)
  rw [show (0 : Int) = ((0 : Nat) : Int) from rfl, u1, bS] at h
  obtain ⟨g1, g2, g3⟩ := HD h
  subst g1
  obtain ⟨x', R, v1, v2, v3, v4⟩ := KE hU (by simp) (by simp) om u1
  have hx : x = x' := by injection v4
  subst hx
  have := congrArg List.length v1
  rw [lD, lA] at this
  rw [← g3]
  show x.length ≤ _
  omega
theorem VS {U : LB} (hU' : U.length ≤ 65536) {i : Nat} (hi : i < U.length) (h60 : U[i]? ≠ some 60) {s : TS} {t : Tk} (h : AJ ⟨U, (i : Int)⟩ (Iy i) = some (0, s, t)) :
    t = ⟨5, (i : Int), [], [], t.Text, t.Refs⟩ ∧ OkT t.Text ∧ t.Text ≠ [] ∧ t.Text.length ≤ 262144 := by
  have hU : U.length ≤ 1073741824 := by omega
  obtain ⟨f, hf⟩ := aZ hi h60
  rw [TQ (Nat.le_of_lt hi) hU h60, aI hU hf] at h
  unfold XK at h
  obtain ⟨x, x1, h⟩ := Dx h
  obtain ⟨y, y1, h⟩ := Dx h
  injection sj h with g1 h
  injection h with g2 g3
  rw [← g3]
  unfold Dh at x1
  obtain ⟨r, r1, r2⟩ := Dx x1
  have r2 := sj r2
  have hl : ((U.drop i).take (f - i)).length ≤ 65536 := by rw [List.length_take, lD]; omega
  have hne : (U.drop i).take (f - i) ≠ [] := fun hh => by
    have := congrArg List.length hh
    rw [List.length_take, lD, lN] at this
    have := hf.lt; omega
  have := PI om (t := x.1) (n := x.2.1) (show DQ ((U.drop i).take (f - i)) false = _ by rw [r1, ← g1, ← r2])
  exact ⟨rfl, this.1, this.2.1 hne, by have := this.2.2; show x.1.length ≤ _; omega⟩
inductive DOk : Nat → List TP → LB → LB → Prop
  | done {la} : DOk 3 [] la la
  | skip {k : Nat} {ps la la'} : k < 3 → 0 < k → DOk (k + 1) ps la la' → DOk k ps la la'
  | take {k : Nat} {w v ps la la'} : k < 3 → idx DeclW (k : Int) = some w → FN w v = some true → v.length ≤ 65536 → DOk (k + 1) ps (if w = [101, 110, 99, 111, 100, 105, 110, 103] then v else la) la' → DOk k (⟨w, v⟩ :: ps) la la'
theorem aA {k : Nat} {w : LB} (h : idx DeclW (k : Int) = some w) (hw : w ≠ [118, 101, 114, 115, 105, 111, 110]) : 0 < k := by
  rcases Nat.eq_zero_or_pos k with rfl | h'
  · have : idx DeclW ((0 : Nat) : Int) = some [118, 101, 114, 115, 105, 111, 110] := rfl
    rw [this] at h
    exact absurd (sj h).symm hw
  · exact h'
theorem I9 {U : LB} (hU : U.length ≤ 65536) (At : Int) (Nm Tx : LB) (rf : Int) (jl : Nat) (la' : LB) (ps' : List TP) :
    ∀ (m j k : Nat) (ps : List TP) (la : LB), j ≤ U.length → k ≤ 3 → ps.length ≤ k → iter AC m (U, (j : Int), (1 : Int), At, Nm, ps, Tx, rf, la, (k : Int)) = some (.inl (U, (jl : Int), la', (1 : Int), At, Nm, ps', Tx, rf)) →
      ∃ rest, ps' = ps ++ rest ∧ DOk k rest la la'
  | 0, j, k, ps, la, _, _, _, h => by cases h
  | m + 1, j, k, ps, la, g2, g3, g5, h => by
    have hUb : U.length ≤ 1073741824 := by omega
    rw [show iter AC (m + 1) (U, (j : Int), (1 : Int), At, Nm, ps, Tx, rf, la, (k : Int)) = AC (iter AC m) (U, (j : Int), (1 : Int), At, Nm, ps, Tx, rf, la, (k : Int)) from rfl] at h
    generalize hI : iter AC m = I at h
    by_cases hk : k < 3
    case neg =>
      have hkf : decide ((k : Int) < (DeclW.length : Int)) = false := dF (show ¬ (k : Int) < ((3 : Nat) : Int) by omega)
      unfold AC at h
      dsimp only at h
      rw [hkf, cF] at h
      have h' := Sum.inl.inj (sj h)
      have q2 : la = la' := congrArg (fun x => x.2.2.1) h'
      have q3 : ps = ps' := congrArg (fun x => x.2.2.2.2.2.2.1) h'
      have : k = 3 := by omega
      subst this q2 q3
      exact ⟨[], by rw [List.append_nil], .done⟩
    have hkt : decide ((k : Int) < (DeclW.length : Int)) = true := dT (show (k : Int) < ((3 : Nat) : Int) by omega)
    have hk1 : IntKind.wrap .i64 ((k : Int) + 1) = ((k + 1 : Nat) : Int) := by rw [w64 om om]; omega
    obtain ⟨w, c, hidx, w1, w2, wc, wh, wn⟩ := XR k hk
    obtain ⟨s1, s2⟩ := GW wsP U j g2
    unfold AC at h
    dsimp only at h
    rw [hkt, cT] at h
    simp only [Ar] at h
    rw [hidx, bS] at h
    rw [C5 U _ j g2 hUb, bS] at h
    have skip : cond (w == ([118, 101, 114, 115, 105, 111, 110] : LB))
         (some (.inr ((23 : Int), (⟨U, (j : Int)⟩ : TS), (⟨1, At, Nm, ps, Tx, rf⟩ : TK))))
         (I (U, (j : Int), (1 : Int), At, Nm, ps, Tx, rf, la, IntKind.wrap .i64 ((k : Int) + 1))) = some (.inl (U, (jl : Int), la', (1 : Int), At, Nm, ps', Tx, rf)) →
        ∃ rest, ps' = ps ++ rest ∧ DOk k rest la la' := by
      intro hh
      cases hv : w == ([118, 101, 114, 115, 105, 111, 110] : LB) with
      | true => rw [hv, cT] at hh; cases hh
      | false =>
        rw [hv, cF, hk1, ← hI] at hh
        obtain ⟨rest, p1, p2⟩ := I9 hU At Nm Tx rf jl la' ps' m j (k + 1) ps la g2 om om hh
        exact ⟨rest, p1, .skip hk (aA hidx (by simpa using hv)) p2⟩
    by_cases c3 : sk wsP U j = j
    · have c3' : (((sk wsP U j : Nat) : Int) == (j : Int)) = true := by simp [c3]
      rw [c3', cT, cT] at h
      exact skip h
    have c3' : (((sk wsP U j : Nat) : Int) == (j : Int)) = false := by rw [bn]; omega
    rw [c3', cF, CV s2, bS, Dv, bS] at h
    cases hh : BZ U (sk wsP U j) w with
    | false =>
      have hh' : w.isPrefixOf (U.drop (sk wsP U j)) = false := hh
      rw [hh', bF, cT] at h
      exact skip h
    | true =>
      have hh' : w.isPrefixOf (U.drop (sk wsP U j)) = true := hh
      have hl := B7 hh s2
      have hadd : IntKind.wrap .i64 (((sk wsP U j : Nat) : Int) + (w.length : Int)) = ((sk wsP U j + w.length : Nat) : Int) := by rw [w64 om om]; omega
      obtain ⟨e2, k2, q1, q2, q3⟩ := KC U (sk wsP U j + w.length) hl hUb
      rw [hh', bT, cF, hadd, q1, bS] at h
      dsimp only at h
      by_cases ce2 : e2 = 0
      case neg => rw [show (e2 != 0) = true by simpa using ce2, cT] at h; cases h
      subst ce2
      obtain ⟨rv, e3, k3, u1, u2, u3, u4, u5⟩ := IL U k2 q3 hUb
      rw [show ((0 : Int) != 0) = false from rfl, cF, u1, bS] at h
      dsimp only at h
      by_cases ce3 : e3 = 0
      case neg => rw [show (e3 != 0) = true by simpa using ce3, cT, cT] at h; cases h
      subst ce3
      obtain ⟨r, hr, _⟩ := VI w rv om
      rw [show ((0 : Int) != 0) = false from rfl, cF, hr, bS] at h
      cases r with
      | false => rw [bF, cT] at h; cases h
      | true =>
      rw [bT, cF, CU so so, bS, bS, hk1] at h
      have go : ∀ la2, I (U, (k3 : Int), (1 : Int), At, Nm, ps ++ [(⟨w, rv⟩ : TP)], Tx, rf, la2, ((k + 1 : Nat) : Int)) = some (.inl (U, (jl : Int), la', (1 : Int), At, Nm, ps', Tx, rf)) → (la2 = if w = [101, 110, 99, 111, 100, 105, 110, 103] then rv else la) →
          ∃ rest, ps' = ps ++ rest ∧ DOk k rest la la' := by
        intro la2 hg hla
        rw [← hI] at hg
        obtain ⟨rest, p1, p3⟩ := I9 hU At Nm Tx rf jl la' ps' m k3 (k + 1) _ la2 u3 om so hg
        exact ⟨⟨w, rv⟩ :: rest, by rw [p1]; simp, .take hk hidx hr om (hla ▸ p3)⟩
      cases he : w == ([101, 110, 99, 111, 100, 105, 110, 103] : LB) with
      | true =>
        rw [he, cT] at h
        exact go rv h (by rw [if_pos (eq_of_beq he)])
      | false =>
        rw [he, cF] at h
        exact go la h (by rw [if_neg (by simpa using he)])
abbrev b5 : LB := [117, 116, 102, 45, 56]
theorem WR {U : LB} (hU' : U.length ≤ 65536) (h5 : 5 ≤ U.length) {s : TS} {t : Tk} (h : CE ⟨U, (0 : Int)⟩ (Iy 0) = some (0, s, t)) :
  t = ⟨1, 0, [], t.Pairs, [], 0⟩ ∧ ∃ la, DOk 0 t.Pairs [] la ∧ (la = [] ∨ AZ la b5 = some true) := by
 have hU : U.length ≤ 1073741824 := by omega
 unfold CE at h
 simp only [Ar] at h
 obtain ⟨o, e1, e2⟩ := Vr U 0 [] [] 0 h5 hU
 rw [e1, bS] at h
 rcases e2 with ⟨j, ps, la, rfl, h1, h2, h3, h7, h4, h6⟩ | ⟨j, t'', rfl, h1⟩
 case inr => injection sj h with h _; exact absurd h dc
 obtain ⟨rest, r1, r2⟩ := I9 hU' 0 [] [] 0 j la ps Ay 5 0 [] [] h5 om (Nat.le_refl _) e1
 rw [List.nil_append] at r1
 subst r1
 dsimp only at h
 obtain ⟨x, x1, h⟩ := Dx h
 obtain ⟨y, y1, h⟩ := Dx h
 cases hy : y.1 != (0 : Int) with
 | true =>
  rw [hy, cT] at h
  injection sj h with h _
  rw [h] at hy; exact absurd hy dc
 | false =>
 rw [hy, cF] at h
 cases hla : la == ([] : LB) with
 | true =>
  rw [hla, bT, cF, cF] at h
  injection sj h with _ h
  injection h with _ h
  rw [← h]
  exact ⟨rfl, la, r2, .inl (eq_of_beq hla)⟩
 | false =>
  rw [hla, bF, cT] at h
  obtain ⟨r, hr, h⟩ := Dx h
  cases r with
  | false => rw [bF, cT] at h; injection sj h with h _; exact absurd h dc
  | true =>
   rw [bT, cF] at h
   injection sj h with _ h
   injection h with _ h
   rw [← h]
   exact ⟨rfl, la, r2, .inr hr⟩
def Yj (t : Tk) : Prop :=
 (t.Kind = 1 ∧ t.Name = [] ∧ t.Text = [] ∧ ∃ la, DOk 0 t.Pairs [] la ∧ (la = [] ∨ AZ la b5 = some true)) ∨
 ((t.Kind = 2 ∨ t.Kind = 4) ∧ IG t.Name ∧ Kw t.Pairs ∧ (nmP t.Pairs).Nodup ∧ t.Text = []) ∨
 (t.Kind = 3 ∧ IG t.Name ∧ t.Pairs = [] ∧ t.Text = []) ∨
 (t.Kind = 5 ∧ t.Name = [] ∧ t.Pairs = [] ∧ OkT t.Text ∧ t.Text ≠ [] ∧ t.Text.length ≤ 262144) ∨
 (t.Kind = 6 ∧ t.Name = [] ∧ t.Pairs = [] ∧ MW t.Text [93, 93, 62] ∧ OkT t.Text ∧ (13 : UInt8) ∉ t.Text ∧ t.Text.length ≤ 65536) ∨
 (t.Kind = 7 ∧ t.Name = [] ∧ t.Pairs = [] ∧ MW t.Text [45, 45] ∧ OkT t.Text ∧ (13 : UInt8) ∉ t.Text ∧ t.Text.length ≤ 65536) ∨
 (t.Kind = 8 ∧ IG t.Name ∧ t.Pairs = [] ∧ GZ t.Name = true ∧ AZ t.Name [120, 109, 108] = some false ∧ t.Text.length ≤ 65536 ∧ (t.Text = [] ∨ (MW t.Text [63, 62] ∧ OkT t.Text ∧ (13 : UInt8) ∉ t.Text ∧ ∀ c x, t.Text = c :: x → wsP c = false)))
theorem NR {U : LB} (hU : U.length ≤ 65536) (hok : OkT U) (h13 : (13 : UInt8) ∉ U) {i f : Nat} {t : Tk} (hi : i < U.length) (h : AJ ⟨U, (i : Int)⟩ (Iy i) = some (0, ⟨U, (f : Int)⟩, t)) (hT : JY U i t f) (hf : f ≤ U.length) : Yj t ∧ (t.Kind = 1 → i = 0) ∧ (t.Kind = 5 → U[i]? ≠ some 60) ∧ (t.Kind ≠ 5 → U[i]? = some 60) := by
 have hUb : U.length ≤ 1073741824 := by omega
 refine ⟨?_, hT.dec, fun h => (hT.txt h).1, hT.oth⟩
 by_cases h60 : U[i]? = some 60
 case neg =>
  obtain ⟨g1, g2, g3, g4⟩ := VS hU hi h60 h
  refine .inr (.inr (.inr (.inl ⟨?_, ?_, ?_, g2, g3, g4⟩))) <;> rw [g1]
 have he := ST U i (Nat.le_of_lt hi) hUb
 rw [he] at h
 cases hd : Qc U i with
 | true =>
  rw [hd, cT] at h
  unfold Qc at hd
  rw [Bool.and_eq_true, Bool.and_eq_true] at hd
  have h5 := B7 hd.2.1 (Nat.zero_le _)
  obtain ⟨g1, la, g2, g3⟩ := WR hU (by simpa using h5) h
  refine .inl ⟨?_, ?_, ?_, la, g2, g3⟩ <;> rw [g1]
 | false =>
 rw [hd, cF] at h
 unfold Nr at h
 cases c1 : BZ U i [60, 33, 45, 45] with
 | true =>
  have hl := B7 c1 (Nat.le_of_lt hi)
  rw [c1, cT] at h
  obtain ⟨e2, k, x, u1, u2, u3⟩ := Ku U i 4 (df 7 i) [45, 45] (by simp) (by simpa using hl) hUb (by simp)
  rw [show (4 : Int) = ((4 : Nat) : Int) from rfl, u1, bS] at h
  dsimp only at h
  by_cases ce : e2 = 0
  case neg =>
   rw [show (e2 != 0) = true by simpa using ce, cT] at h
   injection sj h with h _; exact absurd h ce
  subst ce
  obtain ⟨x', R, v1, v2, v3, v4⟩ := KE hUb (by simp) (by simp) (by simpa using hl) u1
  have hx : x = x' := by injection v4
  subst hx
  rw [show ((0 : Int) != 0) = false from rfl, cF] at h
  obtain ⟨y, y1, h⟩ := Dx h
  injection sj h with _ h
  injection h with _ h
  have ha : U[i + 4 - 1]? = some 45 := by
   have := KG 3 c1 dc
   simpa using this
  have hlx : x.length ≤ 65536 := by
   have := congrArg List.length v1
   rw [lD, lA] at this; omega
  rw [← h]
  exact .inr (.inr (.inr (.inr (.inr (.inl ⟨rfl, rfl, rfl, v2, Np hok om ha dc (by decide : (45 : UInt8).toNat < 128) v1, U6 h13 v1, hlx⟩)))))
 | false =>
 rw [c1, cF] at h
 cases c3 : BZ U i [60, 33, 91, 67, 68, 65, 84, 65, 91] with
 | true =>
  have hl := B7 c3 (Nat.le_of_lt hi)
  rw [c3, cT, show (9 : Int) = ((9 : Nat) : Int) from rfl] at h
  obtain ⟨x, R, v1, v2, v3, v4⟩ := KE hUb (by simp) (by simp) (by simpa using hl) h
  have ha : U[i + 9 - 1]? = some 91 := by
   have := KG 8 c3 dc
   simpa using this
  have hlx : x.length ≤ 65536 := by
   have := congrArg List.length v1
   rw [lD, lA] at this; omega
  rw [v4]
  exact .inr (.inr (.inr (.inr (.inl ⟨rfl, rfl, rfl, v2, Np hok om ha dc (by decide : (93 : UInt8).toNat < 128) v1, U6 h13 v1, hlx⟩))))
 | false =>
 rw [c3, cF] at h
 cases c4 : BZ U i [60, 33, 68, 79, 67, 84, 89, 80, 69] with
 | true =>
  rw [c4, cT] at h
  injection sj h with h _
  exact absurd h dc
 | false =>
 rw [c4, cF] at h
 cases c5 : BZ U i [60, 33] with
 | true =>
  rw [c5, cT] at h
  injection sj h with h _
  exact absurd h dc
 | false =>
 rw [c5, cF] at h
 cases c6 : BZ U i [60, 63] with
 | true =>
  have hl := B7 c6 (Nat.le_of_lt hi)
  rw [c6, cT] at h
  obtain ⟨g1, g2, g3, g4, g5⟩ := Ta hU hok h13 (by simpa using hl) c6 rfl h
  refine .inr (.inr (.inr (.inr (.inr (.inr ⟨by rw [g4], g1, by rw [g4], g2, g3, ?_, g5⟩)))))
  have hin := WN hUb (by simpa using hl) rfl h
  omega
 | false =>
 rw [c6, cF] at h
 cases c7 : BZ U i [60, 47] with
 | true =>
  have hl := B7 c7 (Nat.le_of_lt hi)
  rw [c7, cT] at h
  obtain ⟨g1, g2⟩ := Qg hU hok h13 (by simpa using hl) c7 h
  refine .inr (.inr (.inl ⟨by rw [g2], g1, by rw [g2], by rw [g2]⟩))
 | false =>
 rw [c7, cF, show BZ U i [60] = true by rw [PA, h60]; simp, cT] at h
 obtain ⟨g1, g2, g3⟩ := Zw hU hok h13 om h60 rfl h
 refine .inr (.inl ⟨?_, g1, g2, hT.nd, ?_⟩)
 ·rcases g3 with g3 | g3
  ·left; rw [g3]
  ·right; rw [g3]
 ·rcases g3 with g3 | g3 <;> rw [g3]


theorem ak {T : LB} (hT : T.length ≤ 65536) (hok : OkT T) (h13 : (13 : UInt8) ∉ T) {L : List Tk} {j : Nat} (h : Tr T L j) : ∀ t ∈ L, Yj t ∧ t.Pairs.length ≤ 70000 := by
 induction h with
 | nil => intro t h; cases h
 | @snoc L j k t h1 h2 h3 h4 h5 ih =>
  intro t' ht
  rcases List.mem_append.1 ht with ht | ht
  ·exact ih t' ht
  ·rw [List.mem_singleton.1 ht]
   have := h4.len
   exact ⟨(NR hT hok h13 h2 h3 h4 h5).1, by omega⟩
abbrev Nd := Ad
abbrev Op := Ag
abbrev Rdr := AA
def nd0 : Nd := ⟨0, ⟨[], []⟩, [], [], []⟩
def kid (b : Op) (n : Nd) : Op := ⟨⟨b.node.Kind, b.node.Name, b.node.Attrs, b.node.Kids ++ [n], b.node.Text⟩, b.raw, b.in_⟩
theorem Ys {α : Type} {a : α} {l : List α} {n : Nat} (hn : n = l.length + 1) (h : l.length ≤ 1073741824) : Jm (a :: l) (IntKind.wrap .i64 ((n : Int) - 1)) = some (a, l) := by
 subst hn
 unfold Jm
 rw [w64 om om, if_pos (by simp)]
theorem GJ {α : Type} {a : α} {l : List α} (h : l.length ≤ 1073741824) : Jm (a :: l) (IntKind.wrap .i64 (((a :: l).length : Int) - 1)) = some (a, l) := Ys (by simp) h
theorem IS {a b : Op} {l : List Op} {n : Int} {d : Bool} (hl : l.length ≤ 1000000) (hk : b.node.Kids.length ≤ 1000000000) :
  Bn ⟨a :: b :: l, n, d⟩ = some ⟨kid b a.node :: l, n, d || decide (l.length = 0)⟩ := by
 unfold Bn
 dsimp only
 rw [GJ so, bS, bS]
 dsimp only
 rw [GJ om, bS, CU (by simp only [lC, lN]; omega) (by simp only [lC, lN]; omega), bS, bS]
 simp only [Ar]
 cases d with
 | true => rfl
 | false =>
  rw [cF]
  have : (((b :: l).length : Int) == 1) = decide (l.length = 0) := by
   rw [Bool.eq_iff_iff, beq_iff_eq, decide_eq_true_eq, lC]; omega
  rw [this]; rfl
theorem QD {b : Op} {l : List Op} {n : Int} {d : Bool} (x : Nd) (hl : l.length ≤ 1000000) (hk : b.node.Kids.length ≤ 1000000000) (h0 : 0 ≤ n) (h1 : n ≤ 1000000000) :
  Ba ⟨b :: l, n, d⟩ x = some (if 8192 < x.Text.length then (5, ⟨b :: l, n, d⟩) else (0, ⟨kid b x :: l, n + 1, d⟩)) := by
 unfold Ba
 dsimp only
 by_cases h : 8192 < x.Text.length
 ·rw [dT om, cT, if_pos h]
 ·rw [dF om, cF, if_neg h, GJ om, bS, CU (by simp only [lC, lN]; omega) (by simp only [lC, lN]; omega), bS, bS, w64 om om]
  rfl
def Ua (l : List Aa) : Bool := l.any fun a => decide (64 < l.length) || decide (8192 < a.Value.length)
theorem RN (r : Rdr) (x : List Aa × Int) (hx : x.1.length ≤ 1000000000) : iter (B3 r x) Ay (0 : Int) = some (if Ua x.1 then .inr (5, r) else .inl ()) := by
 obtain ⟨l, e⟩ := x
 dsimp only at hx ⊢
 obtain ⟨o, e1, e2⟩ := CC (b := B3 r (l, e)) (fun i x => x = (i : Int) ∧ ∀ j (hj : j < l.length), j < i → (decide (64 < l.length) || decide (8192 < l[j].Value.length)) = false) (fun o => o = (if Ua l then .inr (5, r) else .inl ())) l.length (x0 := (0 : Int)) ⟨rfl, fun j _ h => by omega⟩ (by
  rintro i _ rec hi ⟨rfl, hs⟩
  by_cases hb : (decide (64 < l.length) || decide (8192 < l[i].Value.length)) = true
  ·right
   have hbig : Ua l = true := List.any_eq_true.2 ⟨_, List.getElem_mem hi, hb⟩
   rw [hbig]
   refine ⟨.inr (5, r), ?_, rfl⟩
   unfold B3
   dsimp only
   rw [dT om, cT, A6 hi, bS]
   have : (decide ((64 : Int) < (l.length : Int)) || decide ((8192 : Int) < (l[i].Value.length : Int))) = true := by
    rw [← hb]; congr 1 <;> (rw [decide_eq_decide]; omega)
   rw [this, cT]
  ·left
   replace hb := Bool.eq_false_iff.2 hb
   refine ⟨((i + 1 : Nat) : Int), ?_, rfl, fun j hj h => ?_⟩
   ·unfold B3
    dsimp only
    rw [dT om, cT, A6 hi, bS]
    have : (decide ((64 : Int) < (l.length : Int)) || decide ((8192 : Int) < (l[i].Value.length : Int))) = false := by
     rw [← hb]; congr 1 <;> (rw [decide_eq_decide]; omega)
    rw [this, cF, w64 om om]
    rfl
   ·rcases Nat.lt_or_ge j i with h1 | h1
    ·exact hs j hj h1
    ·have : j = i := by omega
     subst this; exact hb) (by
  rintro _ rec ⟨rfl, hs⟩
  have hbig : Ua l = false := by
   refine Bool.eq_false_iff.2 fun h => ?_
   obtain ⟨a, ha, hb⟩ := List.any_eq_true.1 h
   obtain ⟨j, hj, rfl⟩ := List.getElem_of_mem ha
   exact absurd hb (by rw [hs j hj hj]; simp)
  rw [hbig]
  refine ⟨.inl (), ?_, rfl⟩
  unfold B3
  dsimp only
  rw [dF om, cF]) (n := Ay) (by unfold Ay; omega)
 rw [e1, e2]
theorem ML {a : Op} {l : List Op} {n : Int} {d : Bool} (t : Tk) (hl : l.length ≤ 1000000) (c1 : ¬ (l.length = 0 ∧ d = true)) :
  AH ⟨a :: l, n, d⟩ t = (cond (decide ((32 : Int) < (l.length : Int))) (some ((31 : Int), (⟨a :: l, n, d⟩ : Rdr)))
   ((Cm a.in_ t.Pairs).bind fun o => cond (o.2 != (0 : Int)) (some (o.2, ⟨a :: l, n, d⟩))
    ((BY ⟨o.1.binds⟩ t.Name).bind fun q => cond (q.2 != (0 : Int)) (some (q.2, ⟨a :: l, n, d⟩))
     ((CD ⟨o.1.binds⟩ t.Pairs).bind fun v => cond (v.2 != (0 : Int)) (some (v.2, ⟨a :: l, n, d⟩))
      ((iter (B3 ⟨a :: l, n, d⟩ v) Ay (0 : Int)).bind fun w => match w with
       | .inl _ => (app 144 (a :: l) [(⟨⟨2, q.1, v.1, [], []⟩, t.Name, ⟨o.1.binds⟩⟩ : Op)]).bind fun _ => some ((0 : Int), (⟨⟨⟨2, q.1, v.1, [], []⟩, t.Name, ⟨o.1.binds⟩⟩ :: a :: l, IntKind.wrap .i64 (n + 1), d⟩ : Rdr))
       | .inr x => some x))))) := by
 unfold AH
 simp only [Ar]
 have e1 : (IntKind.wrap .i64 (((a :: l).length : Int) - 1)) = (l.length : Int) := by
  rw [lC, w64 om om]; omega
 have e2 : (cond (((a :: l).length : Int) == 1) d false) = false := by
  cases d with
  | false => cases (((a :: l).length : Int) == 1) <;> rfl
  | true =>
   have : (((a :: l).length : Int) == 1) = false := by
    refine Bool.eq_false_iff.2 fun h => c1 ⟨?_, rfl⟩
    simp at h; omega
   rw [this]; rfl
 cases hc : (((a :: l).length : Int) == 1) with
 | true =>
  rw [hc] at e2
  rw [cT] at e2 ⊢
  subst e2
  rw [cF, GJ om, bS, e1]; rfl
 | false => rw [cF, cF, GJ om, bS, e1]; rfl
def Id : List Tk → Rdr → Option (Rdr ⊕ (Int × Int))
 | [], r => some (.inl r)
 | t :: L, r => (Aw r t).bind fun x => if x.1 ≠ 0 then some (.inr (t.At, x.1)) else Id L x.2
def r0 : Rdr := ⟨[⟨⟨1, ⟨[], []⟩, [], [], []⟩, [], ⟨[]⟩⟩], 0, false⟩
def Xs (p : LB) (r : Rdr) : Option (Nd × Int × Int) :=
 cond (decide ((1 : Int) < (r.open_.length : Int))) ((CA p).bind fun x => some (nd0, (x.length : Int), 26))
  (cond (!r.done) ((CA p).bind fun x => some (nd0, (x.length : Int), 30)) ((Jm r.open_ (0 : Int)).bind fun x => some (x.1.node, 0, 0)))
theorem Zl (M : List Tk) (a e : Int) (hM : M.length ≤ 1073741824) : ∀ (L L0 : List Tk) (r : Rdr) (m : Nat), M = L0 ++ L → L.length < m →
  iter (DJ (M, a, e)) m ((0 : Int), ([] : LB), ([] : LB), ([] : List Aa), ([] : List Ad), ([] : LB), r.open_, r.nodes, r.done, (L0.length : Int)) =
   (Id L r).bind fun o => match o with
    | .inl r' => some (.inl ((0 : Int), ([] : LB), ([] : LB), ([] : List Aa), ([] : List Ad), ([] : LB), r'.open_, r'.nodes, r'.done))
    | .inr (x, y) => some (.inr (nd0, x, y))
 | [], L0, r, m + 1, h, hm => by
  subst h
  rw [List.append_nil]
  show DJ _ _ _ = _
  unfold DJ
  dsimp only
  rw [dF om, cF]; rfl
 | t :: L, L0, r, m + 1, h, hm => by
  have hlt : L0.length < M.length := by rw [h]; simp
  have hg : M[L0.length] = t := by subst h; simp
  have ih := Zl M a e hM L (L0 ++ [t])
  show DJ _ _ _ = _
  unfold DJ
  dsimp only
  rw [dT om, cT, A6 hlt, bS, hg]
  unfold Id
  have er : (⟨r.open_, r.nodes, r.done⟩ : Rdr) = r := rfl
  rw [er]
  cases ht : Aw r t with
  | none => rfl
  | some x =>
   rw [bS, bS]
   by_cases hx : x.1 = 0
   ·rw [show (x.1 != (0 : Int)) = false by simpa using hx, cF, if_neg (by simpa using hx), w64 om om]
    have := ih x.2 m (by rw [h]; simp) (by simp at hm; omega)
    rw [lA, List.length_singleton, Int.natCast_add] at this
    exact this
   ·rw [show (x.1 != (0 : Int)) = true by simpa using hx, cT, if_pos hx]; rfl
 | [], _, _, 0, _, hm => by omega
 | _ :: _, _, _, 0, _, hm => by omega
theorem YJ {p : LB} {M : List Tk} {a : Int} (h : DH p = some (M, a, 0)) (hM : M.length ≤ 1073741824) :
  Ci p = (Id M r0).bind fun o => match o with
   | .inl r => Xs p r
   | .inr (x, y) => some (nd0, x, y) := by
 unfold Ci
 rw [h, bS]
 dsimp only
 rw [show ((0 : Int) != 0) = false from rfl, cF, show Im = some ⟨[]⟩ from rfl, bS]
 have := Zl M a 0 hM M [] r0 Ay rfl (by unfold Ay; omega)
 simp only [Ar]
 rw [show ((([] : List Tk).length : Nat) : Int) = 0 from rfl] at this
 have e0 : r0.open_ = [(⟨(⟨(1 : Int), (⟨([] : LB), ([] : LB)⟩ : Ah), ([] : List Aa), ([] : List Ad), ([] : LB)⟩ : Ad), ([] : LB), (⟨[]⟩ : Ao)⟩ : Ag)] := rfl
 have e1 : r0.nodes = 0 := rfl
 have e2 : r0.done = false := rfl
 rw [e0, e1, e2] at this
 rw [this]
 cases Id M r0 with
 | none => rfl
 | some o =>
  rw [bS, bS]
  cases o with
  | inl r => rfl
  | inr x => rfl
def fin (x : Int × Rdr) : Int × Rdr := if x.1 = 0 ∧ 2000 < x.2.nodes then (5, x.2) else x
theorem KX (x : Int × Rdr) : (Ar (fun v : Bool => cond v (some ((5 : Int), x.2)) (some (x.1, x.2))) fun J => cond (x.1 == (0 : Int)) (J (decide ((2000 : Int) < x.2.nodes))) (J false)) = some (fin x) := by
 obtain ⟨e, r⟩ := x
 simp only [Ar, fin]
 by_cases he : e = 0
 ·subst he
  rw [beq_self_eq_true, cT]
  by_cases hn : 2000 < r.nodes
  ·rw [dT hn, cT, if_pos ⟨rfl, hn⟩]
  ·rw [dF hn, cF, if_neg (fun h => hn h.2)]
 ·rw [show (e == 0) = false by simpa using he, cF, cF, if_neg (fun h => he h.1)]
section
variable {r : Rdr} {t : Tk}
theorem TT (h : t.Kind = 2) : Aw r t = (AH r t).bind fun x => some (fin x) := by
 unfold Aw
 rw [h, show ((2 : Int) == 7) = false from rfl, show ((2 : Int) == 8) = false from rfl, show ((2 : Int) == 5) = false from rfl, show ((2 : Int) == 6) = false from rfl, beq_self_eq_true, cF, cF, cF, cF, cT]
 cases AH r t with
 | none => rfl
 | some x => exact KX x
theorem Ty (h : t.Kind = 4) : Aw r t = (AH r t).bind fun x => if x.1 = 0 then (Bn x.2).bind fun y => some (fin (0, y)) else some x := by
 unfold Aw
 rw [h, show ((4 : Int) == 7) = false from rfl, show ((4 : Int) == 8) = false from rfl, show ((4 : Int) == 5) = false from rfl, show ((4 : Int) == 6) = false from rfl, show ((4 : Int) == 2) = false from rfl, beq_self_eq_true, cF, cF, cF, cF, cF, cT]
 cases AH r t with
 | none => rfl
 | some x =>
  rw [bS, bS]
  by_cases hx : x.1 = 0
  ·rw [if_pos hx, show (x.1 == 0) = true by simpa using hx, cT]
   cases Bn x.2 with
   | none => rfl
   | some y =>
    rw [bS, bS, hx]
    unfold fin
    by_cases hn : 2000 < y.nodes
    ·rw [dT hn, cT, if_pos ⟨rfl, hn⟩]
    ·rw [dF hn, cF, if_neg (fun h => hn h.2)]
  ·rw [if_neg hx, show (x.1 == 0) = false by simpa using hx, cF]
theorem S9 (h : t.Kind = 3) : Aw r t = if r.open_.length = 1 then some (26, r) else (Jm r.open_ (IntKind.wrap .i64 ((r.open_.length : Int) - 1))).bind fun v => if v.1.raw = t.Name then (Bn r).bind fun y => some (fin (0, y)) else some (26, r) := by
 unfold Aw
 rw [h, show ((3 : Int) == 7) = false from rfl, show ((3 : Int) == 8) = false from rfl, show ((3 : Int) == 5) = false from rfl, show ((3 : Int) == 6) = false from rfl, show ((3 : Int) == 2) = false from rfl, show ((3 : Int) == 4) = false from rfl, beq_self_eq_true, cF, cF, cF, cF, cF, cF, cT]
 by_cases h1 : r.open_.length = 1
 ·rw [if_pos h1, h1]; rfl
 ·rw [if_neg h1, show ((r.open_.length : Int) == 1) = false by rw [bn]; omega, cF]
  cases Jm r.open_ (IntKind.wrap .i64 ((r.open_.length : Int) - 1)) with
  | none => rfl
  | some v =>
   rw [bS, bS]
   by_cases hv : v.1.raw = t.Name
   ·rw [if_pos hv, show (v.1.raw == t.Name) = true by simpa using hv, bT, cF]
    cases Bn r with
    | none => rfl
    | some y => exact KX (0, y)
   ·rw [if_neg hv, show (v.1.raw == t.Name) = false by simpa using hv, bF, cT]
theorem To (h : t.Kind = 7) : Aw r t = (Ba r ⟨4, ⟨[], []⟩, [], [], t.Text⟩).bind fun x => some (fin x) := by
 unfold Aw
 rw [h, beq_self_eq_true, cT]
 cases Ba r ⟨4, ⟨[], []⟩, [], [], t.Text⟩ with
 | none => rfl
 | some x => exact KX x
theorem Ts (h : t.Kind = 8) : Aw r t = (Ba r ⟨5, ⟨[], t.Name⟩, [], [], t.Text⟩).bind fun x => some (fin x) := by
 unfold Aw
 rw [h, show ((8 : Int) == 7) = false from rfl, beq_self_eq_true, cF, cT]
 cases Ba r ⟨5, ⟨[], t.Name⟩, [], [], t.Text⟩ with
 | none => rfl
 | some x => exact KX x
theorem Kx (h : t.Kind = 5 ∨ t.Kind = 6) : Aw r t = (AQ r t).bind fun x => some (fin x) := by
 unfold Aw
 rcases h with h | h
 ·rw [h, show ((5 : Int) == 7) = false from rfl, show ((5 : Int) == 8) = false from rfl, beq_self_eq_true, cF, cF, cT]
  cases AQ r t with
  | none => rfl
  | some x => exact KX x
 ·rw [h, show ((6 : Int) == 7) = false from rfl, show ((6 : Int) == 8) = false from rfl, show ((6 : Int) == 5) = false from rfl, beq_self_eq_true, cF, cF, cF, cT]
  cases AQ r t with
  | none => rfl
  | some x => exact KX x
theorem Uv (h : t.Kind = 1) : Aw r t = some (fin (0, r)) := by
 unfold Aw
 rw [h, show ((1 : Int) == 7) = false from rfl, show ((1 : Int) == 8) = false from rfl, show ((1 : Int) == 5) = false from rfl, show ((1 : Int) == 6) = false from rfl, show ((1 : Int) == 2) = false from rfl, show ((1 : Int) == 4) = false from rfl, show ((1 : Int) == 3) = false from rfl, cF, cF, cF, cF, cF, cF, cF]
 exact KX (0, r)
end
def el (nm : LB) : Op := ⟨⟨2, ⟨[], nm⟩, [], [], []⟩, nm, ⟨[]⟩⟩
def il : Op := ⟨⟨1, ⟨[], []⟩, [], [], []⟩, [], ⟨[]⟩⟩
def elA : Op := el [97]
def gh (k : Nat) : List Op := List.replicate k elA ++ [il]
theorem Yf {r : Rdr} (h : r.nodes ≤ 2000) : fin (0, r) = (0, r) := by unfold fin; rw [if_neg (fun h => by have := h.2; dsimp only at this; omega)]
theorem Rd {r : Rdr} (h : 2000 < r.nodes) : fin (0, r) = (5, r) := by unfold fin; rw [if_pos ⟨rfl, h⟩]
def nst : Nat → Nd
 | 0 => ⟨2, ⟨[], [97]⟩, [], [], []⟩
 | j + 1 => ⟨2, ⟨[], [97]⟩, [], [nst j], []⟩
def gG (x : Nd) : List Op → List Op
 | [] => []
 | a :: l => kid a x :: l
def cs (n k : Nat) : List Op := match n - k with
 | 0 => gh k
 | j + 1 => gG (nst j) (gh k)


def txN (s : LB) : Nd := ⟨3, ⟨[], []⟩, [], [], s⟩
def setK (b : Op) (k : List Nd) : Op := ⟨⟨b.node.Kind, b.node.Name, b.node.Attrs, k, b.node.Text⟩, b.raw, b.in_⟩
theorem Rn {α : Type} {k : List α} {x : α} (h : k.length ≤ 1000000000) : idx (k ++ [x]) (IntKind.wrap .i64 (((k ++ [x]).length : Int) - 1)) = some x ∧ (IntKind.wrap .i64 (((k ++ [x]).length : Int) - 1)).toNat = k.length ∧ ¬ IntKind.wrap .i64 (((k ++ [x]).length : Int) - 1) < 0 := by
 have e : IntKind.wrap .i64 (((k ++ [x]).length : Int) - 1) = (k.length : Int) := by
  rw [lA, List.length_singleton, w64 om om]; omega
 rw [e]
 refine ⟨?_, Int.toNat_natCast _, by omega⟩
 rw [A6 (by simp)]; simp
theorem NV {b c : Op} {l : List Op} {n : Int} {d : Bool} {t : Tk} (hl : l.length ≤ 1000000) (h : t.Text = []) : AQ ⟨b :: c :: l, n, d⟩ t = some (0, ⟨b :: c :: l, n, d⟩) := by
 unfold AQ
 dsimp only
 rw [show (((b :: c :: l).length : Int) == 1) = false by rw [bn]; simp only [lC]; omega, cF, GJ (by simp only [lC]; omega), bS, h]
 rfl
theorem OI {b c : Op} {l : List Op} {n : Int} {d : Bool} {t : Tk} (hl : l.length ≤ 100000) (hk : b.node.Kids.length ≤ 1000000000) (h0 : 0 ≤ n) (h1 : n ≤ 1000000000) (h : t.Text ≠ []) (hx : ∀ x, b.node.Kids.getLast? = some x → x.Kind ≠ 3) :
  AQ ⟨b :: c :: l, n, d⟩ t = some (if 8192 < t.Text.length then (5, ⟨b :: c :: l, n, d⟩) else (0, ⟨kid b (txN t.Text) :: c :: l, n + 1, d⟩)) := by
 have hp := QD (b := b) (l := c :: l) (n := n) (d := d) (txN t.Text) (by simp only [lC]; omega) hk h0 h1
 unfold AQ
 dsimp only
 rw [show (((b :: c :: l).length : Int) == 1) = false by rw [bn]; simp only [lC]; omega, cF, GJ (by simp only [lC]; omega), bS,
  show (t.Text == ([] : LB)) = false by simpa using h, cF]
 simp only [Ar]
 have key : ((Ba ⟨b :: c :: l, n, d⟩ (⟨(3 : Int), (⟨([] : LB), ([] : LB)⟩ : Ah), ([] : List Aa), ([] : List Ad), t.Text⟩ : Ad)).bind fun x26 => some (x26.1, x26.2)) = some (if 8192 < t.Text.length then (5, ⟨b :: c :: l, n, d⟩) else (0, ⟨kid b (txN t.Text) :: c :: l, n + 1, d⟩)) := by
  have hp' : Ba ⟨b :: c :: l, n, d⟩ (⟨(3 : Int), (⟨([] : LB), ([] : LB)⟩ : Ah), ([] : List Aa), ([] : List Ad), t.Text⟩ : Ad) = _ := hp
  rw [hp']; rfl
 rcases List.eq_nil_or_concat b.node.Kids with hK | ⟨k, x, hK⟩
 ·rw [hK, show decide (IntKind.wrap .i64 ((([] : List Nd).length : Int) - 1) < 0) = true by decide, cT, cT]
  exact key
 ·rw [List.concat_eq_append] at hK
  have hkl : k.length ≤ 1000000000 := by rw [hK] at hk; simp at hk; omega
  obtain ⟨i1, i2, i3⟩ := Rn (k := k) (x := x) hkl
  have hx3 := hx x (by rw [hK]; simp)
  rw [hK, dF i3, cF, i1, bS, show (x.Kind != (3 : Int)) = true by simpa using hx3, cT]
  exact key
theorem MK {b c : Op} {l : List Op} {n : Int} {d : Bool} {t : Tk} {k : List Nd} {x : Nd} (hl : l.length ≤ 100000) (hk : k.length ≤ 100000000) (h : t.Text ≠ []) (hK : b.node.Kids = k ++ [x]) (h3 : x.Kind = 3) (hs : x.Text.length + t.Text.length ≤ 1000000000) :
  AQ ⟨b :: c :: l, n, d⟩ t = some (if 8192 < (x.Text ++ t.Text).length then 5 else 0, ⟨setK b (k ++ [⟨x.Kind, x.Name, x.Attrs, x.Kids, x.Text ++ t.Text⟩]) :: c :: l, n, d⟩) := by
 obtain ⟨i1, i2, i3⟩ := Rn (k := k) (x := x) om
 unfold AQ
 dsimp only
 rw [show (((b :: c :: l).length : Int) == 1) = false by rw [bn]; simp only [lC]; omega, cF, GJ (by simp only [lC]; omega), bS,
  show (t.Text == ([] : LB)) = false by simpa using h, cF]
 simp only [Ar]
 rw [hK, dF i3, cF, i1, bS, show (x.Kind != (3 : Int)) = false by simpa using h3, cF, bS, ZH om, bS, bS, bS, i2]
 have hset : (k ++ [x]).set k.length (⟨x.Kind, x.Name, x.Attrs, x.Kids, x.Text ++ t.Text⟩ : Nd) = k ++ [⟨x.Kind, x.Name, x.Attrs, x.Kids, x.Text ++ t.Text⟩] := by
  rw [List.set_append_right _ _ (Nat.le_refl _), Nat.sub_self]; rfl
 rw [hset]
 have hlen : ((k ++ [x]).length : Int) = ((k ++ [(⟨x.Kind, x.Name, x.Attrs, x.Kids, x.Text ++ t.Text⟩ : Nd)]).length : Int) := by simp
 rw [hlen, (Rn (k := k) om).1, bS]
 dsimp only
 by_cases hb : 8192 < (x.Text ++ t.Text).length
 ·rw [dT om, cT, if_pos hb]; rfl
 ·rw [dF om, cF, if_neg hb]; rfl


def tk5 (x : LB) : Tk := ⟨5, 0, [], [], x, 0⟩
def tp (x : LB) : List (LB × Tk) := if x = [] then [] else [(x.flatMap txE, tk5 x)]


abbrev BX : LB := [120, 109, 108]
abbrev SPN : LB := [104, 116, 116, 112, 58, 47, 47, 119, 119, 119, 46, 119, 51, 46, 111, 114, 103, 47, 50, 48, 48, 48, 47, 120, 109, 108, 110, 115, 47]
abbrev SPX : LB := [104, 116, 116, 112, 58, 47, 47, 119, 119, 119, 46, 119, 51, 46, 111, 114, 103, 47, 88, 77, 76, 47, 49, 57, 57, 56, 47, 110, 97, 109, 101, 115, 112, 97, 99, 101]
section
variable {ps : List TP} {i m : Nat} {c b : List Ai} {had : List LB} {n v p : LB}
end
section
variable {ps : List TP} {i m : Nat} {s : List Ai} {a : List Aa} {n v p l u : LB}
end
section
variable {a : Op} {l : List Op} {n : Int} {d : Bool} {t : Tk} {s : List Ai}
end
theorem N2 (l : List Aa) (hl : l.length ≤ 10000000000) : Ck l l = some true := by
 unfold Ck
 rw [bne_self_eq_false, cF]
 obtain ⟨o, e, rfl⟩ := CC (b := CL l l) (fun i x => x = (i : Int)) (fun o => o = .inl ()) l.length (x0 := (0 : Int)) rfl (by
  rintro i _ rec hi rfl
  left
  refine ⟨((i + 1 : Nat) : Int), ?_, rfl⟩
  unfold CL
  rw [dT om, cT, A6 hi, bS, bS]
  simp only [beq_self_eq_true, Bool.and_self, bT, cF]
  rw [w64 om om]
  rfl) (by
  rintro _ rec rfl
  refine ⟨_, ?_, rfl⟩
  unfold CL
  rw [dF om, cF]) (n := Ay) (by unfold Ay; omega)
 simp only [Ar]
 rw [e]; rfl
theorem Wn {x : Ad} {m : Nat} (ha : x.Attrs.length ≤ 10000000000) (hk : x.Kids.length ≤ 10000000000) (h : ∀ k ∈ x.Kids, iter BP m (k, k) = some true) : iter BP (m + 1) (x, x) = some true := by
 rw [Co]
 generalize iter BP m = rc at h ⊢
 unfold BP
 dsimp only
 simp only [Ar, bne_self_eq_false, beq_self_eq_true, Bool.and_self, bT, Bool.or_self, cF]
 rw [N2 _ ha, bS, bT, show (false || false) = false from rfl, cF]
 obtain ⟨o, e, rfl⟩ := CC (b := Dp x x rc) (fun i y => y = (i : Int)) (fun o => o = .inl ()) x.Kids.length (x0 := (0 : Int)) rfl (by
  rintro i _ rec hi rfl
  left
  refine ⟨((i + 1 : Nat) : Int), ?_, rfl⟩
  unfold Dp
  rw [dT om, cT, A6 hi, bS, bS, h _ (List.getElem_mem hi), bS, bT, cF, w64 om om]
  rfl) (by
  rintro _ rec rfl
  refine ⟨_, ?_, rfl⟩
  unfold Dp
  rw [dF om, cF]) (n := Ay) (by unfold Ay; omega)
 rw [e]; rfl
abbrev At := Aa
theorem Tb {α : Type} {l : List α} {i : Int} (h0 : 0 ≤ i) (h1 : i < (l.length : Int)) : ∃ x, idx l i = some x := by
 obtain ⟨k, rfl⟩ : ∃ k : Nat, i = (k : Int) := ⟨i.toNat, by omega⟩
 exact ⟨_, A6 om⟩
theorem eT {α : Type} {l : List α} (k : Nat) : idx l (k : Int) = l[k]? := by
 unfold idx; rw [if_pos om, Int.toNat_natCast]
theorem GT {α : Type} {L U V : List α} {x : α} {i : Int} (hL : L = U ++ x :: V) (hi : i = (U.length : Int)) : idx L i = some x := by
 subst hL hi; rw [eT, List.getElem?_append_right (Nat.le_refl _), Nat.sub_self]; rfl
theorem J0 {α : Type} {L U V : List α} {x : α} (y : α) {k : Nat} (hL : L = U ++ x :: V) (hk : k = U.length) : List.set L k y = U ++ y :: V := by
 subst hL hk; rw [List.set_append_right _ _ (Nat.le_refl _), Nat.sub_self]; rfl
theorem LV {x : Int} (h0 : 0 ≤ x) (h1 : x ≤ 1099511627776) : IntKind.wrap .i64 (DU .u64 (IntKind.wrap .u64 (IntKind.wrap .i64 x)) (1 : Int)) = x / 2 := by
 have e1 : IntKind.wrap .i64 x = x := w64 om om
 have e2 : IntKind.wrap .u64 x = x := by simp [IntKind.wrap, IntKind.bits, IntKind.signed]; omega
 have e3 : DU .u64 x (1 : Int) = x / 2 := by
  unfold DU
  have : min (1 : Int).toNat IntKind.u64.bits = 1 := by decide
  rw [this]
  show x.fdiv 2 = _
  rw [Int.fdiv_eq_ediv_of_nonneg _ om]
 rw [e1, e2, e3, w64 om om]
section
variable {f : At → At → Option Int} (hf : ∀ x y, ∃ z, f x y = some z)
theorem H8 {α : Type} {a b : List α} (h : a.length = b.length) : eqL a b = some () := by unfold eqL; rw [if_pos h]
include hf
omit hf in
omit hf in
end
end Go.Proofs.YtilhbalhkljanaaGreatDoor
