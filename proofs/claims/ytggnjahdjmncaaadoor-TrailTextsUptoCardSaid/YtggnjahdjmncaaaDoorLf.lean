/- Right trails: the plain code's answer is the code's. No condition. -/
import Derived.Test.YtggnjahdjmncaaaDoorLe
import Derived.Lib.ValidLaws
set_option linter.unusedSimpArgs false
set_option linter.unusedVariables false
set_option maxRecDepth 20000
namespace Go.Proofs.YtggnjahdjmncaaaDoor
open Go.Lib (decodeL decodeN)
theorem iter_congr {σ ρ : Type} {b1 b2 : (σ → Option ρ) → σ → Option ρ} (Inv : σ → Prop) (h : ∀ rec1 rec2 x, Inv x → (∀ y, Inv y → rec1 y = rec2 y) → b1 rec1 x = b2 rec2 x) : ∀ n x, Inv x → iter b1 n x = iter b2 n x
  | 0, x, hx => rfl
  | n + 1, x, hx => h _ _ x hx (fun y hy => iter_congr Inv h n y hy)
/-- The spans' search. -/
def inP (r : Int) : List T_char_span → Bool
  | [] => false
  | s :: l => if r ≤ s.hi then decide (s.lo ≤ r) else inP r l
theorem F_in (r : Int) (l : List T_char_span) (hl : l.length ≤ 9223372036854775807) : F_char_in r l = some (inP r l) := by
  unfold F_char_in
  simp only [letJ]
  obtain ⟨o, h1, h2⟩ := iter_spec (b := F_char_in_l0 r l) (fun i x => x = (i : Int) ∧ inP r l = inP r (l.drop i)) (fun o => match o with | .inl _ => inP r l = false | .inr b => inP r l = b) l.length (x0 := (0 : Int)) ⟨rfl, by simp⟩
    (fun i x rec hi ⟨hx, hI⟩ => by
      subst hx
      rw [drop_ne hi, inP] at hI
      unfold F_char_in_l0
      rw [decide_eq_true (by omega), cond_true, idx_some hi, Option.bind_some, w64 (by omega) (by omega)]
      by_cases c : r ≤ l[i].hi
      · rw [if_pos c] at hI
        rw [decide_eq_true c]
        exact .inr ⟨.inr _, rfl, hI⟩
      · rw [if_neg c] at hI
        rw [decide_eq_false c]
        exact .inl ⟨_, rfl, rfl, hI⟩)
    (fun x rec ⟨hx, hI⟩ => ⟨.inl (), by
      subst hx
      unfold F_char_in_l0
      rw [decide_eq_false (by omega), cond_false], by show inP r l = false; rw [hI, List.drop_length]; rfl⟩) (n := FUEL) (by unfold FUEL; omega)
  rw [h1, Option.bind_some]
  cases o with
  | inl u => simp only at h2; rw [h2]
  | inr b => simp only at h2; rw [h2]
/-- Spans in order. -/
def srt : List T_char_span → Bool
  | [] => true
  | s :: l => l.all (fun t => decide (s.hi < t.lo)) && srt l
theorem inP_any (r : Int) : ∀ l, srt l = true → inP r l = l.any fun s => decide (s.lo ≤ r ∧ r ≤ s.hi)
  | [], _ => rfl
  | s :: l, h => by
    simp only [srt, Bool.and_eq_true, List.all_eq_true, decide_eq_true_eq] at h
    simp only [inP, List.any_cons]
    by_cases c : r ≤ s.hi
    · rw [if_pos c]
      have : (l.any fun s => decide (s.lo ≤ r ∧ r ≤ s.hi)) = false := by
        rw [List.any_eq_false]
        intro t ht
        have := h.1 t ht
        simp only [decide_eq_true_eq]; omega
      rw [this, Bool.or_false]
      by_cases c2 : s.lo ≤ r <;> simp [c, c2]
    · rw [if_neg c, inP_any r l h.2, decide_eq_false (fun hh => c hh.2), Bool.false_or]
def charP (r : Int) : Bool := decide (r = 9 ∨ r = 10 ∨ r = 13 ∨ (32 ≤ r ∧ r ≤ 55295) ∨ (57344 ≤ r ∧ r ≤ 65533) ∨ (65536 ≤ r ∧ r ≤ 1114111))
def startP (r : Int) : Bool := decide ((65 ≤ r ∧ r ≤ 90) ∨ r = 95 ∨ (97 ≤ r ∧ r ≤ 122) ∨ (192 ≤ r ∧ r ≤ 214) ∨ (216 ≤ r ∧ r ≤ 246) ∨ (248 ≤ r ∧ r ≤ 767) ∨ (880 ≤ r ∧ r ≤ 893) ∨ (895 ≤ r ∧ r ≤ 8191) ∨ (8204 ≤ r ∧ r ≤ 8205) ∨ (8304 ≤ r ∧ r ≤ 8591) ∨ (11264 ≤ r ∧ r ≤ 12271) ∨ (12289 ≤ r ∧ r ≤ 55295) ∨ (63744 ≤ r ∧ r ≤ 64975) ∨ (65008 ≤ r ∧ r ≤ 65533) ∨ (65536 ≤ r ∧ r ≤ 983039))
def partP (r : Int) : Bool := startP r || decide (r = 45 ∨ r = 46 ∨ (48 ≤ r ∧ r ≤ 57) ∨ r = 183 ∨ (768 ≤ r ∧ r ≤ 879) ∨ (8255 ≤ r ∧ r ≤ 8256))
theorem in_eq (r : Int) (k : Bool → Option Bool) (l : List T_char_span) (hl : l.length ≤ 9223372036854775807) : (F_char_in r l).bind k = k (inP r l) := by rw [F_in r l hl]; rfl
theorem F_isChar (r : Int) : F_char_IsChar r = some (charP r) := by
  unfold F_char_IsChar charP
  simp only [letJ]
  by_cases c : r = 9 ∨ r = 10 ∨ r = 13
  · have e : (((r == (9 : Int)) || (r == (10 : Int))) || (r == (13 : Int))) = true := by simp only [Bool.or_eq_true, beq_iff_eq]; omega
    rw [e, cond_true, decide_eq_true (by omega)]
  · have e : (((r == (9 : Int)) || (r == (10 : Int))) || (r == (13 : Int))) = false := by simp only [Bool.or_eq_false_iff, beq_eq_false_iff_ne]; omega
    rw [e, cond_false, in_eq _ _ _ (by decide)]
    congr 1
    rw [inP_any _ _ (by decide), Bool.eq_iff_iff]
    simp only [List.any_cons, List.any_nil, Bool.or_eq_true, decide_eq_true_eq, Bool.false_eq_true, or_false]
    omega
theorem F_char1 (r : Int) : F_lecternref01_Char r = some (charP r) := by
  unfold F_lecternref01_Char charP
  congr 1
  rw [Bool.eq_iff_iff]
  simp only [Bool.or_eq_true, Bool.and_eq_true, beq_iff_eq, decide_eq_true_eq]
  omega
theorem F_isStart (r : Int) : F_char_IsStart r = some (startP r) := by
  unfold F_char_IsStart startP
  by_cases c : r < 128
  · rw [decide_eq_true c, cond_true]
    congr 1
    rw [Bool.eq_iff_iff]
    simp only [Bool.or_eq_true, Bool.and_eq_true, beq_iff_eq, decide_eq_true_eq]
    omega
  · rw [decide_eq_false c, cond_false, in_eq _ _ _ (by decide)]
    congr 1
    rw [inP_any _ _ (by decide), Bool.eq_iff_iff]
    simp only [List.any_cons, List.any_nil, Bool.or_eq_true, decide_eq_true_eq, Bool.false_eq_true, or_false]
    omega
theorem F_isPart (r : Int) : F_char_IsPart r = some (partP r) := by
  unfold F_char_IsPart partP
  rw [F_isStart, Option.bind_some]
  simp only [letJ]
  by_cases c : startP r = true ∨ r = 45 ∨ r = 46 ∨ (48 ≤ r ∧ r ≤ 57) ∨ r = 183
  · have e : ((((startP r || (r == (45 : Int))) || (r == (46 : Int))) || ((decide ((48 : Int) ≤ r)) && (decide (r ≤ (57 : Int))))) || (r == (183 : Int))) = true := by
      simp only [Bool.or_eq_true, Bool.and_eq_true, beq_iff_eq, decide_eq_true_eq]
      rcases c with c | c
      · simp [c]
      · omega
    rw [e, cond_true]
    congr 1
    rcases c with c | c
    · simp [c]
    · rw [decide_eq_true (by omega), Bool.or_true]
  · have hs : startP r = false := by simpa using fun h => c (.inl h)
    have e : ((((startP r || (r == (45 : Int))) || (r == (46 : Int))) || ((decide ((48 : Int) ≤ r)) && (decide (r ≤ (57 : Int))))) || (r == (183 : Int))) = false := by
      rw [Bool.eq_false_iff]
      simp only [ne_eq, Bool.or_eq_true, Bool.and_eq_true, beq_iff_eq, decide_eq_true_eq, hs, Bool.false_eq_true, false_or]
      intro h; apply c; right; omega
    rw [e, cond_false, in_eq _ _ _ (by decide)]
    congr 1
    rw [hs, Bool.false_or]
    rw [inP_any _ _ (by decide), Bool.eq_iff_iff]
    simp only [List.any_cons, List.any_nil, Bool.or_eq_true, decide_eq_true_eq, Bool.false_eq_true, or_false]
    omega
theorem F_start1 (r : Int) : F_lecternref01_Start r = some (startP r) := by
  unfold F_lecternref01_Start startP
  simp only [letJ, Bool.cond_eq_ite, Bool.and_eq_true, decide_eq_true_eq, beq_iff_eq]
  have hT : ∀ (P : Prop) [Decidable P], P → some true = some (decide P) := fun P _ h => by rw [decide_eq_true h]
  by_cases h1 : 65 ≤ r ∧ r ≤ 90
  · rw [if_pos h1, if_pos h1]; exact hT _ (by omega)
  rw [if_neg h1]
  by_cases h2 : r = 95
  · rw [if_pos h2, if_pos h2]; exact hT _ (by omega)
  rw [if_neg h2]
  by_cases h3 : 97 ≤ r ∧ r ≤ 122
  · rw [if_pos h3]; exact hT _ (by omega)
  rw [if_neg h3]
  by_cases h4 : 192 ≤ r ∧ r ≤ 767
  · rw [if_pos h4]; congr 1; rw [Bool.eq_iff_iff]; simp only [Bool.and_eq_true, bne_iff_ne, ne_eq, decide_eq_true_eq]; omega
  rw [if_neg h4]
  by_cases h5 : 880 ≤ r ∧ r ≤ 8191
  · rw [if_pos h5]; congr 1; rw [Bool.eq_iff_iff]; simp only [bne_iff_ne, ne_eq, decide_eq_true_eq]; omega
  rw [if_neg h5]
  by_cases h6 : r = 8204
  · rw [if_pos h6, if_pos h6]; exact hT _ (by omega)
  rw [if_neg h6]
  by_cases h7 : r = 8205
  · rw [if_pos h7]; exact hT _ (by omega)
  rw [if_neg h7]
  by_cases h8 : 8304 ≤ r ∧ r ≤ 8591
  · rw [if_pos h8, if_pos h8]; exact hT _ (by omega)
  rw [if_neg h8]
  by_cases h9 : 11264 ≤ r ∧ r ≤ 12271
  · rw [if_pos h9, if_pos h9]; exact hT _ (by omega)
  rw [if_neg h9]
  by_cases h10 : 12289 ≤ r ∧ r ≤ 55295
  · rw [if_pos h10]; exact hT _ (by omega)
  rw [if_neg h10]
  by_cases h11 : 63744 ≤ r ∧ r ≤ 65533
  · rw [if_pos h11]; congr 1; rw [Bool.eq_iff_iff]; simp only [Bool.or_eq_true, decide_eq_true_eq]; omega
  rw [if_neg h11]
  congr 1; rw [Bool.eq_iff_iff]; simp only [Bool.and_eq_true, decide_eq_true_eq]; omega
theorem F_part1 (r : Int) : F_lecternref01_Part r = some (partP r) := by
  unfold F_lecternref01_Part partP
  rw [F_start1, Option.bind_some]
  congr 1
  cases startP r
  · simp only [Bool.false_or]
    rw [Bool.eq_iff_iff]
    simp only [Bool.or_eq_true, Bool.and_eq_true, beq_iff_eq, decide_eq_true_eq]
    omega
  · simp
end Go.Proofs.YtggnjahdjmncaaaDoor
