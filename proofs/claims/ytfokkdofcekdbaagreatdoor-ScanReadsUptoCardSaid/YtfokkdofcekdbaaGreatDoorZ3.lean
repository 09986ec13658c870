/- Joined by program out of Xe Xf Xg Xj Xk Xl Xs Xt Xu. No condition. -/
import Derived.Test.YtfokkdofcekdbaaGreatDoorZ1
import Derived.Test.YtfokkdofcekdbaaGreatDoorLa
set_option linter.unusedSimpArgs false
set_option linter.unusedVariables false
set_option maxRecDepth 20000
namespace Go.Proofs.YtfokkdofcekdbaaGreatDoor
open Go.Lib (decodeL decodeN)
theorem decN_more {n m b0 b1 b2 b3 c1 c2 c3 : Nat} (h : badR (decodeN n b0 b1 b2 b3) = false) (hnm : n ≤ m) (h1 : 1 < n → c1 = b1) (h2 : 2 < n → c2 = b2) (h3 : 3 < n → c3 = b3) : decodeN m b0 c1 c2 c3 = decodeN n b0 b1 b2 b3 := by
 have hb : ¬ ((decodeN n b0 b1 b2 b3).1 = 65533 ∧ (decodeN n b0 b1 b2 b3).2 = 1) := by
  unfold badR at h; simpa using h
 unfold decodeN at hb ⊢
 by_cases a0 : b0 < 128
 ·rw [if_pos a0, if_pos a0]
 rw [if_neg a0] at hb
 rw [if_neg a0, if_neg a0]
 by_cases a1 : b0 / 32 = 6 ∧ (1 < n ∧ b1 / 64 = 2)
 ·have e1 := h1 a1.2.1
  rw [if_pos a1, if_pos ⟨a1.1, by omega, by rw [e1]; exact a1.2.2⟩, e1]
 rw [if_neg a1] at hb
 rw [if_neg a1]
 by_cases a2 : b0 / 16 = 14 ∧ (1 < n ∧ b1 / 64 = 2) ∧ (2 < n ∧ b2 / 64 = 2)
 ·have e1 := h1 a2.2.1.1
  have e2 := h2 a2.2.2.1
  rw [if_pos a2, if_neg (by omega), if_pos ⟨a2.1, ⟨by omega, by rw [e1]; exact a2.2.1.2⟩, by omega, by rw [e2]; exact a2.2.2.2⟩, e1, e2]
 rw [if_neg a2] at hb
 rw [if_neg a2]
 by_cases a3 : b0 / 8 = 30 ∧ (1 < n ∧ b1 / 64 = 2) ∧ (2 < n ∧ b2 / 64 = 2) ∧ (3 < n ∧ b3 / 64 = 2)
 ·have e1 := h1 a3.2.1.1
  have e2 := h2 a3.2.2.1.1
  have e3 := h3 a3.2.2.2.1
  rw [if_pos a3, if_neg (by omega), if_neg (by omega), if_pos ⟨a3.1, ⟨by omega, by rw [e1]; exact a3.2.1.2⟩, ⟨by omega, by rw [e2]; exact a3.2.2.1.2⟩, by omega, by rw [e3]; exact a3.2.2.2.2⟩, e1, e2, e3]
 rw [if_neg a3] at hb
 exact absurd ⟨rfl, rfl⟩ hb
theorem getD_appL {x y : LB} {k : Nat} (h : k < x.length) : (x ++ y).getD k 0 = x.getD k 0 := by
 simp [List.getD, List.getElem?_append_left h]
theorem dec_app {x y : LB} (hx : x ≠ []) (h : badR (decodeL x) = false) : decodeL (x ++ y) = decodeL x := by
 have hp : 0 < x.length := List.length_pos_iff.2 hx
 rw [Lib.decodeL_N x] at h ⊢
 rw [Lib.decodeL_N (x ++ y), getD_appL hp]
 exact decN_more h (by rw [List.length_append]; omega) (fun g => by rw [getD_appL g]) (fun g => by rw [getD_appL g]) (fun g => by rw [getD_appL g])
theorem decN_stop {n m b0 b1 b2 b3 c1 c2 c3 : Nat} (hn : 1 ≤ n) (hnm : n ≤ m) (h1 : 1 < n → c1 = b1) (h2 : 2 < n → c2 = b2) (h3 : 3 < n → c3 = b3) (s1 : n = 1 → c1 < 128) (s2 : n = 2 → c2 < 128) (s3 : n = 3 → c3 < 128) : decodeN m b0 c1 c2 c3 = decodeN n b0 b1 b2 b3 := by
 have q1 : (1 < m ∧ c1 / 64 = 2) ↔ (1 < n ∧ b1 / 64 = 2) := by
  by_cases g : 1 < n
  ·have := h1 g; subst this; constructor <;> rintro ⟨_, q⟩ <;> exact ⟨by omega, q⟩
  ·have := s1 (by omega); constructor <;> rintro ⟨_, q⟩ <;> omega
 have q2 : (1 < n ∧ b1 / 64 = 2) → ((2 < m ∧ c2 / 64 = 2) ↔ (2 < n ∧ b2 / 64 = 2)) := by
  rintro ⟨g1, _⟩
  by_cases g : 2 < n
  ·have := h2 g; subst this; constructor <;> rintro ⟨_, q⟩ <;> exact ⟨by omega, q⟩
  ·have := s2 (by omega); constructor <;> rintro ⟨_, q⟩ <;> omega
 have q3 : (2 < n ∧ b2 / 64 = 2) → ((3 < m ∧ c3 / 64 = 2) ↔ (3 < n ∧ b3 / 64 = 2)) := by
  rintro ⟨g1, _⟩
  by_cases g : 3 < n
  ·have := h3 g; subst this; constructor <;> rintro ⟨_, q⟩ <;> exact ⟨by omega, q⟩
  ·have := s3 (by omega); constructor <;> rintro ⟨_, q⟩ <;> omega
 unfold decodeN
 by_cases a0 : b0 < 128
 ·rw [if_pos a0, if_pos a0]
 rw [if_neg a0, if_neg a0]
 by_cases a1 : b0 / 32 = 6 ∧ (1 < n ∧ b1 / 64 = 2)
 ·rw [if_pos a1, if_pos ⟨a1.1, q1.2 a1.2⟩, h1 a1.2.1]
 rw [if_neg a1, if_neg (fun h => a1 ⟨h.1, q1.1 h.2⟩)]
 by_cases a2 : b0 / 16 = 14 ∧ (1 < n ∧ b1 / 64 = 2) ∧ (2 < n ∧ b2 / 64 = 2)
 ·rw [if_pos a2, if_pos ⟨a2.1, q1.2 a2.2.1, (q2 a2.2.1).2 a2.2.2⟩, h1 a2.2.1.1, h2 a2.2.2.1]
 rw [if_neg a2, if_neg (fun h => a2 ⟨h.1, q1.1 h.2.1, (q2 (q1.1 h.2.1)).1 h.2.2⟩)]
 by_cases a3 : b0 / 8 = 30 ∧ (1 < n ∧ b1 / 64 = 2) ∧ (2 < n ∧ b2 / 64 = 2) ∧ (3 < n ∧ b3 / 64 = 2)
 ·rw [if_pos a3, if_pos ⟨a3.1, q1.2 a3.2.1, (q2 a3.2.1).2 a3.2.2.1, (q3 a3.2.2.1).2 a3.2.2.2⟩, h1 a3.2.1.1, h2 a3.2.2.1.1, h3 a3.2.2.2.1]
 rw [if_neg a3, if_neg (fun h => a3 ⟨h.1, q1.1 h.2.1, (q2 (q1.1 h.2.1)).1 h.2.2.1, (q3 ((q2 (q1.1 h.2.1)).1 h.2.2.1)).1 h.2.2.2⟩)]
theorem getD_appC {x y : LB} {c : UInt8} {k : Nat} (h : x.length = k) : (x ++ c :: y).getD k 0 = c := by
 subst h; simp [List.getD]
theorem dec_stop {x y : LB} {c : UInt8} (hx : x ≠ []) (hc : c.toNat < 128) : decodeL (x ++ c :: y) = decodeL x := by
 have hp : 0 < x.length := List.length_pos_iff.2 hx
 rw [Lib.decodeL_N x, Lib.decodeL_N (x ++ c :: y), getD_appL hp]
 exact decN_stop hp (by rw [List.length_append]; omega) (fun g => by rw [getD_appL g]) (fun g => by rw [getD_appL g]) (fun g => by rw [getD_appL g]) (fun g => by rw [getD_appC g]; exact hc) (fun g => by rw [getD_appC g]; exact hc) (fun g => by rw [getD_appC g]; exact hc)
theorem dec_ascii (c : UInt8) (y : LB) (hc : c.toNat < 128) : decodeL (c :: y) = (c.toNat, 1) := by
 have := (dec_bytes (c :: y) 0 (by simp)).2.2.1
 simpa using this hc
inductive OkT : LB → Prop
 | nil : OkT []
 | cons {l : LB} : l ≠ [] → badR (decodeL l) = false → charP ((decodeL l).1 : Int) = true → OkT (l.drop (decodeL l).2) → OkT l
theorem okT_inv {l : LB} (h : OkT l) (hl : l ≠ []) : badR (decodeL l) = false ∧ charP ((decodeL l).1 : Int) = true ∧ OkT (l.drop (decodeL l).2) := by
 cases h with
 | nil => exact absurd rfl hl
 | cons _ a b c => exact ⟨a, b, c⟩
theorem dec_pos {l : LB} (h : l ≠ []) : 1 ≤ (decodeL l).2 ∧ (decodeL l).2 ≤ l.length := by
 have := dec_bytes l 0 (List.length_pos_iff.2 h)
 simp only [List.drop_zero, Nat.zero_add] at this
 exact ⟨this.1, this.2.1⟩
theorem fault_step (b : LB) (i : Nat) (hi : i < b.length) (hb : b.length ≤ 1073741824) (rec) : Fh_Fault_l0 b rec (i : Int) = if badR (decodeL (b.drop i)) then some (.inr ((i : Int), (20 : Int))) else if charP ((decodeL (b.drop i)).1 : Int) then rec ((i + (decodeL (b.drop i)).2 : Nat) : Int) else some (.inr ((i : Int), (21 : Int))) := by
 unfold Fh_Fault_l0
 rw [dT (show (i : Int) < (b.length : Int) by omega), cT, F_next b i hi hb, bS]
 cases badR (decodeL (b.drop i)) with
 | true => rfl
 | false => cases charP ((decodeL (b.drop i)).1 : Int) <;> rfl
theorem drop_nn {α : Type} {l : List α} {i : Nat} (h : i < l.length) : l.drop i ≠ [] := fun g => by
 have := congrArg List.length g; simp at this; omega
theorem fault_iff (b : LB) (hb : b.length ≤ 1073741824) : (Fh_Fault b = some (0, 0) ∧ OkT b) ∨ (∃ (i : Nat) (e : Int), Fh_Fault b = some ((i : Int), e) ∧ e ≠ 0 ∧ ¬ OkT b ∧ i ≤ b.length) := by
 obtain ⟨o, e, h⟩ := iter_dec (b := Fh_Fault_l0 b) (fun x => b.length - x.toNat) (fun x => ∃ i : Nat, x = (i : Int) ∧ i ≤ b.length ∧ (OkT b ↔ OkT (b.drop i))) (fun o => (o = .inl () ∧ OkT b) ∨ ∃ (i : Nat) (f : Int), o = .inr ((i : Int), f) ∧ f ≠ 0 ∧ ¬ OkT b ∧ i ≤ b.length) (by
  rintro _ ⟨i, rfl, hi, hiff⟩
  by_cases hlt : i < b.length
  ·obtain ⟨d1, d2, _⟩ := dec_bytes b i hlt
   have hne := drop_nn hlt
   simp only [fault_step b i hlt hb]
   cases hbad : badR (decodeL (b.drop i)) with
   | true =>
    right
    exact ⟨_, fun _ => rfl, .inr ⟨i, 20, rfl, by decide, fun h => (by have := (okT_inv (hiff.1 h) hne).1; rw [hbad] at this; cases this), hi⟩⟩
   | false =>
    cases hc : charP ((decodeL (b.drop i)).1 : Int) with
    | false =>
     right
     exact ⟨_, fun _ => rfl, .inr ⟨i, 21, rfl, by decide, fun h => (by have := (okT_inv (hiff.1 h) hne).2.1; rw [hc] at this; cases this), hi⟩⟩
    | true =>
     left
     refine ⟨_, fun _ => rfl, ⟨i + (decodeL (b.drop i)).2, rfl, d2, hiff.trans ?_⟩, by rw [Int.toNat_natCast, Int.toNat_natCast]; omega⟩
     rw [← List.drop_drop]
     exact ⟨fun h => (okT_inv h hne).2.2, fun h => .cons hne hbad hc h⟩
  ·right
   refine ⟨.inl (), fun rec => ?_, .inl ⟨rfl, ?_⟩⟩
   ·unfold Fh_Fault_l0
    rw [dF (by omega), cF]
   ·rw [hiff, List.drop_eq_nil_of_le (by omega)]; exact .nil) FUEL (0 : Int) ⟨0, rfl, Nat.zero_le _, by rw [List.drop_zero]⟩ (by unfold FUEL; omega)
 unfold Fh_Fault
 simp only [letJ]
 rw [e, bS]
 rcases h with ⟨rfl, h⟩ | ⟨i, f, rfl, hf, hn, hi⟩
 ·exact .inl ⟨rfl, h⟩
 ·exact .inr ⟨i, f, rfl, hf, hn, hi⟩
def lnR : Bool → LB → LB
 | _, [] => []
 | pc, c :: l => if c = 13 then 10 :: lnR true l else if c = 10 ∧ pc = true then lnR false l else c :: lnR false l
theorem lnR_len : ∀ (pc : Bool) (l : LB), (lnR pc l).length ≤ l.length
 | _, [] => Nat.le_refl _
 | pc, c :: l => by
  have h1 := lnR_len true l
  have h2 := lnR_len false l
  simp only [lnR]
  split
  ·simp; omega
  ·split
   ·simp; omega
   ·simp; omega
theorem lnR_step (p : LB) (i : Nat) (hi : i < p.length) : lnR (decide (0 < i ∧ p.getD (i - 1) 0 = 13)) (p.drop i) = lnP p i ++ lnR (decide (0 < i + 1 ∧ p.getD (i + 1 - 1) 0 = 13)) (p.drop (i + 1)) := by
 have hg : p.getD i 0 = p[i] := by simp [List.getD, hi]
 rw [List.drop_eq_getElem_cons hi, Nat.add_sub_cancel]
 simp only [lnR]
 unfold lnP
 rw [hg]
 by_cases h13 : p[i] = 13
 ·rw [if_pos h13, if_pos h13, dT (by exact ⟨by omega, h13⟩)]; rfl
 ·rw [if_neg h13, if_neg h13, dF (show ¬ (0 < i + 1 ∧ p[i] = 13) from fun h => h13 h.2)]
  by_cases h10 : p[i] = 10 ∧ 0 < i ∧ p.getD (i - 1) 0 = 13
  ·rw [if_pos ⟨h10.1, dT h10.2⟩, if_pos h10]; rfl
  ·rw [if_neg (fun h => h10 ⟨h.1, of_decide_eq_true h.2⟩), if_neg h10]; rfl
theorem lines_eq (p : LB) (hp : p.length ≤ 1073741824) : Fh_Lines p = some (lnR false p) := by
 obtain ⟨o, e, h⟩ := iter_dec (b := Fh_Lines_l0 p) (fun x => p.length - x.2.toNat) (fun x => ∃ (l : LB) (i : Nat), x = (l, (i : Int)) ∧ i ≤ p.length ∧ l.length ≤ i ∧ l ++ lnR (decide (0 < i ∧ p.getD (i - 1) 0 = 13)) (p.drop i) = lnR false p) (fun o => o = lnR false p) (by
  rintro _ ⟨l, i, rfl, hi, hl, hE⟩
  by_cases hlt : i < p.length
  ·left
   have := lnP_len p i
   rw [lnR_step p i hlt, ← List.append_assoc] at hE
   exact ⟨_, fun rec => lines_step1 p i l hlt hl hp rec, ⟨_, i + 1, rfl, by omega, by rw [List.length_append]; omega, hE⟩, by dsimp only; omega⟩
  ·right
   rw [List.drop_eq_nil_of_le (by omega)] at hE
   refine ⟨l, fun rec => ?_, by rw [← hE]; simp [lnR]⟩
   unfold Fh_Lines_l0; dsimp only; rw [dF (by omega), cF]) FUEL (([] : LB), (0 : Int)) ⟨[], 0, rfl, Nat.zero_le _, Nat.le_refl _, by simp⟩ (by unfold FUEL; dsimp only; omega)
 unfold Fh_Lines
 simp only [letJ]
 rw [show mkG 1 (0 : Int) (p.length : Int) = some () by unfold mkG; rw [if_pos (by omega)], bS, bS, show (List.replicate (Int.toNat (0 : Int)) (0 : UInt8)) = [] from rfl, e, bS, h]
def strip (p : LB) : LB := if ([239, 187, 191] : LB).isPrefixOf p = true then p.drop 3 else p
theorem strip_len (p : LB) : (strip p).length ≤ p.length := by
 unfold strip; split
 ·rw [List.length_drop]; omega
 ·exact Nat.le_refl _
def pln (p : LB) : LB := lnR false (strip p)
theorem pln_len (p : LB) : (pln p).length ≤ p.length := Nat.le_trans (lnR_len _ _) (strip_len p)
theorem plain_eq (p : LB) (hp : p.length ≤ 1073741824) : F_scan_Plain p = some (pln p) := by
 unfold F_scan_Plain Fy_TrimPrefix
 rw [show u8 (239 : Int) = some 239 from rfl, show u8 (187 : Int) = some 187 from rfl, show u8 (191 : Int) = some 191 from rfl, bS, bS, bS, hasPrefix_eq, bS]
 unfold pln strip
 cases h : ([239, 187, 191] : LB).isPrefixOf p with
 | true =>
  have h' := h
  rw [isPre_take, Bool.and_eq_true, decide_eq_true_eq] at h'
  rw [cT, if_pos rfl, show slc p ((([239, 187, 191] : LB).length : Nat) : Int) (p.length : Int) = some (p.drop 3) from slc_drop (n := 3) (by simpa using h'.1), bS, bS, lines_eq _ (by rw [List.length_drop]; omega), bS]
 | false => rw [cF, if_neg (by simp), bS, lines_eq p hp, bS]
theorem text_eq (p : LB) (hp : p.length ≤ 1073741824) : Fc_Text p = some (pln p) := by
 obtain ⟨r, r1, r2, _⟩ := plain_two p hp
 rw [plain_eq p hp] at r1
 rw [r2, r1]
theorem decN_cut {n b0 b1 b2 b3 w c1 c2 c3 : Nat} (h : badR (decodeN n b0 b1 b2 b3) = false) (hw : (decodeN n b0 b1 b2 b3).2 = w) (h1 : 1 < w → c1 = b1) (h2 : 2 < w → c2 = b2) (h3 : 3 < w → c3 = b3) : decodeN w b0 c1 c2 c3 = decodeN n b0 b1 b2 b3 := by
 have hb : ¬ ((decodeN n b0 b1 b2 b3).1 = 65533 ∧ (decodeN n b0 b1 b2 b3).2 = 1) := by
  unfold badR at h; simpa using h
 unfold decodeN at hb hw ⊢
 by_cases a0 : b0 < 128
 ·rw [if_pos a0, if_pos a0]
 rw [if_neg a0] at hb hw
 rw [if_neg a0, if_neg a0]
 by_cases a1 : b0 / 32 = 6 ∧ (1 < n ∧ b1 / 64 = 2)
 ·rw [if_pos a1] at hb hw
  rw [if_pos a1]
  split at hw
  ·have hw : 2 = w := hw
   subst hw
   have e1 := h1 (by omega)
   rw [if_pos ⟨a1.1, by omega, by rw [e1]; exact a1.2.2⟩, e1]
  ·rename_i hx; rw [if_neg hx] at hb; exact absurd ⟨rfl, rfl⟩ hb
 rw [if_neg a1] at hb hw
 rw [if_neg a1]
 by_cases a2 : b0 / 16 = 14 ∧ (1 < n ∧ b1 / 64 = 2) ∧ (2 < n ∧ b2 / 64 = 2)
 ·rw [if_pos a2] at hb hw
  rw [if_pos a2]
  split at hw
  ·have hw : 3 = w := hw
   subst hw
   have e1 := h1 (by omega)
   have e2 := h2 (by omega)
   rw [if_neg (by omega), if_pos ⟨a2.1, ⟨by omega, by rw [e1]; exact a2.2.1.2⟩, by omega, by rw [e2]; exact a2.2.2.2⟩, e1, e2]
  ·rename_i hx; rw [if_neg hx] at hb; exact absurd ⟨rfl, rfl⟩ hb
 rw [if_neg a2] at hb hw
 rw [if_neg a2]
 by_cases a3 : b0 / 8 = 30 ∧ (1 < n ∧ b1 / 64 = 2) ∧ (2 < n ∧ b2 / 64 = 2) ∧ (3 < n ∧ b3 / 64 = 2)
 ·rw [if_pos a3] at hb hw
  rw [if_pos a3]
  split at hw
  ·have hw : 4 = w := hw
   subst hw
   have e1 := h1 (by omega)
   have e2 := h2 (by omega)
   have e3 := h3 (by omega)
   rw [if_neg (by omega), if_neg (by omega), if_pos ⟨a3.1, ⟨by omega, by rw [e1]; exact a3.2.1.2⟩, ⟨by omega, by rw [e2]; exact a3.2.2.1.2⟩, by omega, by rw [e3]; exact a3.2.2.2.2⟩, e1, e2, e3]
  ·rename_i hx; rw [if_neg hx] at hb; exact absurd ⟨rfl, rfl⟩ hb
 rw [if_neg a3] at hb
 exact absurd ⟨rfl, rfl⟩ hb
theorem getD_take {l : LB} {k w : Nat} (h : k < w) : (l.take w).getD k 0 = l.getD k 0 := by
 simp [List.getD, List.getElem?_take, h]
theorem dec_take {l : LB} (hl : l ≠ []) (h : badR (decodeL l) = false) : decodeL (l.take (decodeL l).2) = decodeL l := by
 have hp := dec_pos hl
 generalize hw : (decodeL l).2 = w at hp ⊢
 rw [Lib.decodeL_N l] at h hw ⊢
 rw [Lib.decodeL_N (l.take w), getD_take (by omega), show (l.take w).length = w by rw [List.length_take]; omega]
 exact decN_cut h hw (fun g => by rw [getD_take g]) (fun g => by rw [getD_take g]) (fun g => by rw [getD_take g])
def textR (b : LB) (i f : Nat) : Option (Int × TS × Tk) :=
 (Fr_ReadText ((b.drop i).take (f - i))).bind fun x => (L_bCount ((b.drop i).take (f - i)) ([38] : LB)).bind fun y => some (x.2.2, (⟨b, (f : Int)⟩ : TS), (⟨(5 : Int), (i : Int), [], [], x.1, y⟩ : Tk))
structure TxtAt (b : LB) (i f : Nat) : Prop where
 lt : i < f
 le : f ≤ b.length
 no : ∀ x, i ≤ x → x < f → b[x]? ≠ some 60
 ed : f = b.length ∨ b[f]? = some 60
theorem text_mk {b : LB} {i f : Nat} (hb : b.length ≤ 1073741824) (h : TxtAt b i f) : Fs_text ⟨b, (i : Int)⟩ (tok0 i) = textR b i f := by
 obtain ⟨h1, h2, h3, h4⟩ := h
 have core : ∀ a : LB, a = (b.drop i).take (f - i) → ((Fr_ReadText a).bind fun x10 =>
  (L_bCount a ([38] : LB)).bind fun x13 =>
  some (x10.2.2, (⟨b, (IntKind.wrap .i64 ((i : Int) + (a.length : Int)))⟩ : TS), (⟨(5 : Int), (i : Int), ([] : LB), ([] : List TP), x10.1, x13⟩ : TK))) = textR b i f := by
  intro a ha
  have hal : a.length = f - i := by rw [ha, List.length_take, List.length_drop]; omega
  rw [hal, w64 (by omega) (by omega), show (i : Int) + ((f - i : Nat) : Int) = (f : Int) by omega, ha]
  rfl
 unfold Fs_text
 dsimp only
 rw [slc_drop (by omega), bS]
 simp only [letJ]
 unfold L_bIndexByte
 rw [bS]
 have h60' : ((60 : Int).toNat.toUInt8) = 60 := by decide
 rw [h60']
 by_cases hf : f = b.length
 ·have hno : Lib.indexByte (b.drop i) 60 < 0 := by
   apply Classical.byContradiction; intro hn
   obtain ⟨m, e1, e2⟩ := ixB_nat (b.drop i) 60 hn
   have := (Lib.indexByte_some e1).1
   rw [List.getElem?_drop] at this
   rw [List.length_drop] at e2
   exact h3 (i + m) (by omega) (by omega) this
  rw [dF (by omega), cF]
  exact core _ (by rw [List.take_of_length_le (by rw [List.length_drop]; omega)])
 ·have hx : Lib.indexByte (b.drop i) 60 = ((f - i : Nat) : Int) := by
   refine ixB_of ?_ fun k hk => ?_
   ·rw [List.getElem?_drop, show i + (f - i) = f by omega]
    rcases h4 with h4 | h4
    ·exact absurd h4 hf
    ·exact h4
   ·rw [List.getElem?_drop]; exact h3 (i + k) (by omega) (by omega)
  rw [hx, dT (by omega), cT, slc_take0 (by rw [List.length_drop]; omega), bS]
  exact core _ rfl
theorem text_ex {b : LB} {i : Nat} (hi : i < b.length) (h60 : b[i]? ≠ some 60) : ∃ f, TxtAt b i f := by
 by_cases hn : Lib.indexByte (b.drop i) 60 < 0
 ·refine ⟨b.length, hi, Nat.le_refl _, fun x h1 h2 => ?_, .inl rfl⟩
  have hge := Lib.indexByte_ge (b.drop i) 60
  have := Lib.indexByte_none (show Lib.indexByte (b.drop i) 60 = -1 by omega) (x - i)
  rwa [List.getElem?_drop, show i + (x - i) = x by omega] at this
 ·obtain ⟨m, e1, e2⟩ := ixB_nat (b.drop i) 60 hn
  obtain ⟨g1, g2⟩ := Lib.indexByte_some e1
  rw [List.getElem?_drop] at g1
  rw [List.length_drop] at e2
  refine ⟨i + m, ?_, by omega, fun x h1 h2 => ?_, .inr g1⟩
  ·rcases Nat.eq_zero_or_pos m with rfl | h
   ·exact absurd g1 h60
   ·omega
  ·have := g2 (x - i) (by omega)
   rwa [List.getElem?_drop, show i + (x - i) = x by omega] at this
inductive Tr (b : LB) : List Tk → Nat → Prop
 | nil : Tr b [] 0
 | snoc {L : List Tk} {j k : Nat} {t : Tk} : Tr b L j → j < b.length → Fs_token ⟨b, (j : Int)⟩ (tok0 j) = some (0, ⟨b, (k : Int)⟩, t) → TokOk b j t k → k ≤ b.length → Tr b (L ++ [t]) k
theorem all_step {b : LB} {L : List Tk} {j k : Nat} {t : Tk} (hL : L.length ≤ 65536) (hj : j < b.length) (h : Fs_token ⟨b, (j : Int)⟩ (tok0 j) = some (0, ⟨b, (k : Int)⟩, t)) (rec) : F_scan_All_l0 rec (b, (j : Int), L) = rec (b, (k : Int), L ++ [t]) := by
 have hne : ((j : Int) == (b.length : Int)) = false := by rw [beq_eq_false_iff_ne]; omega
 have h' : Fs_token ⟨b, (j : Int)⟩ ⟨(0 : Int), (j : Int), ([] : LB), ([] : List TP), ([] : LB), (0 : Int)⟩ = some (0, ⟨b, (k : Int)⟩, t) := h
 unfold F_scan_All_l0
 dsimp only
 rw [hne, cF, h', bS]
 dsimp only
 rw [show ((0 : Int) != 0) = false from rfl, cF, app_some (by simp; omega) (by simp; omega), bS, bS]
theorem all_bad {b : LB} {L : List Tk} {j : Nat} {e : Int} {s : TS} {t : Tk} (hj : j < b.length) (he : e ≠ 0) (h : Fs_token ⟨b, (j : Int)⟩ (tok0 j) = some (e, s, t)) (rec) : F_scan_All_l0 rec (b, (j : Int), L) = some ([], (j : Int), e) := by
 have hne : ((j : Int) == (b.length : Int)) = false := by rw [beq_eq_false_iff_ne]; omega
 have h' : Fs_token ⟨b, (j : Int)⟩ ⟨(0 : Int), (j : Int), ([] : LB), ([] : List TP), ([] : LB), (0 : Int)⟩ = some (e, s, t) := h
 unfold F_scan_All_l0
 dsimp only
 rw [hne, cF, h', bS]
 dsimp only
 rw [show (e != 0) = true by simpa using he, cT]
theorem all_end (b : LB) (L : List Tk) (rec) : F_scan_All_l0 rec (b, (b.length : Int), L) = some (L, (0 : Int), (0 : Int)) := by
 unfold F_scan_All_l0
 dsimp only
 rw [show ((b.length : Int) == (b.length : Int)) = true by simp, cT]
theorem all_eq (p : LB) (hp : p.length ≤ 65536) : F_scan_All p = (Fh_Fault (pln p)).bind fun x4 => cond (x4.2 != (0 : Int)) (some ([], x4.1, x4.2)) (iter F_scan_All_l0 FUEL (pln p, (0 : Int), ([] : List TK))) := by
 have hbind : ∀ o : Option (List TK × Int × Int), (o.bind fun x => some x) = o := fun o => by cases o <;> rfl
 unfold F_scan_All
 rw [dF (by omega), cF, plain_eq p (by omega), bS]
 dsimp only
 rw [hbind]

theorem doc_eq (t : Tk) (hl : t.Pairs.length ≤ 1073742000) : Fl_doc t = some ⟨t.Kind, t.At, t.Name, t.Pairs, t.Text, t.Refs⟩ := by
 obtain ⟨o, e1, e2⟩ := iter_spec (b := Fl_doc_l0 t) (fun i x => x = (t.Kind, t.At, t.Name, t.Pairs.take i, t.Text, t.Refs, (i : Int))) (fun o => o = (t.Kind, t.At, t.Name, t.Pairs, t.Text, t.Refs)) t.Pairs.length (x0 := (t.Kind, t.At, t.Name, ([] : List TP), t.Text, t.Refs, (0 : Int))) rfl (by
  rintro i _ rec hi rfl
  left
  refine ⟨(t.Kind, t.At, t.Name, t.Pairs.take (i + 1), t.Text, t.Refs, ((i + 1 : Nat) : Int)), ?_, rfl⟩
  unfold Fl_doc_l0
  dsimp only
  rw [dT (by omega), cT, idx_some hi, bS, app_some (by simp; omega) (by simp; omega), bS, w64 (by omega) (by omega), List.take_add_one, List.getElem?_eq_getElem hi]
  rfl) (by
  rintro _ rec rfl
  refine ⟨_, ?_, rfl⟩
  unfold Fl_doc_l0
  dsimp only
  rw [dF (by omega), cF, List.take_length]) (n := FUEL) (by unfold FUEL; omega)
 unfold Fl_doc
 simp only [letJ]
 rw [e1, bS, e2]
theorem same_self (t : TR) (hl : t.Pairs.length ≤ 1073742000) : Fc_Same t t = some true := by
 obtain ⟨o, e1, e2⟩ := iter_spec (b := Fc_Same_l0 t t) (fun i x => x = (i : Int)) (fun o => o = .inl ()) t.Pairs.length (x0 := (0 : Int)) rfl (by
  rintro i _ rec hi rfl
  left
  refine ⟨((i + 1 : Nat) : Int), ?_, rfl⟩
  unfold Fc_Same_l0
  rw [dT (by omega), cT, idx_some hi, bS, bS, beq_self_eq_true, beq_self_eq_true, w64 (by omega) (by omega)]
  rfl) (by
  rintro _ rec rfl
  refine ⟨_, ?_, rfl⟩
  unfold Fc_Same_l0
  rw [dF (by omega), cF]) (n := FUEL) (by unfold FUEL; omega)
 unfold Fc_Same
 simp only [letJ, bne, beq_self_eq_true, Bool.not_true, Bool.or_self, cF]
 rw [e1, bS, e2]
abbrev bom : LB := [239, 187, 191]
def mrk (x : LB) : LB := if bom.isPrefixOf x = true then bom ++ x else x
theorem okT_split {c : UInt8} {y : LB} (hc : c.toNat < 128) {l : LB} (h : OkT l) : ∀ x, l = x ++ c :: y → OkT x ∧ OkT (c :: y) := by
 induction h with
 | nil => intro x h; simp at h
 | @cons l h1 h2 h3 h4 ih =>
  intro x h
  subst h
  by_cases hx : x = []
  ·subst hx; exact ⟨.nil, .cons h1 h2 h3 h4⟩
  ·have hd := dec_stop (x := x) (y := y) hx hc
   have hp := dec_pos hx
   rw [hd] at h2 h3 ih
   obtain ⟨g1, g2⟩ := ih _ (List.drop_append_of_le_length hp.2)
   exact ⟨.cons hx h2 h3 g1, g2⟩
theorem okT_tail {c : UInt8} {y : LB} (hc : c.toNat < 128) (h : OkT (c :: y)) : OkT y := by
 have h4 := (okT_inv h (by simp)).2.2
 rw [dec_ascii c y hc] at h4
 exact h4
theorem ws_lo (c : UInt8) (h : wsP c = true) : c.toNat < 128 := by
 have : ∀ c : UInt8, (!wsP c || decide (c.toNat < 128)) = true := all_u8 (by decide +kernel)
 have h1 := this c
 rw [h, Bool.not_true, Bool.false_or] at h1
 exact of_decide_eq_true h1

theorem sk_all {P : UInt8 → Bool} : ∀ (n : Nat) {s : LB} {i k : Nat}, k = i + n → k < sk P s i → ∃ c, s[k]? = some c ∧ P c = true
 | n, s, i, k, hk, h => by
  have hlt : i < s.length := by
   rcases Nat.lt_or_ge i s.length with h' | h'
   ·exact h'
   ·exfalso
    unfold sk at h
    rw [List.drop_of_length_le h'] at h
    simp at h; omega
  rw [sk_step hlt] at h
  split at h
  ·rename_i hp
   cases n with
   | zero => subst hk; exact ⟨_, List.getElem?_eq_getElem hlt, hp⟩
   | succ n => exact sk_all n (i := i + 1) (by omega) h
  ·omega
structure Spc (nm a v g : LB) (d : UInt8) (g' : LB) (p q : LB) : Prop where
 hp : p = 60 :: (nm ++ 32 :: (a ++ 61 :: 39 :: (v ++ [39, 47, 62])))
 hq : q = 60 :: (nm ++ (g ++ (a ++ (g ++ 61 :: (g ++ 39 :: (v ++ 39 :: (g ++ [47, 62])))))))
 hg : g = d :: g'
 hw : ∀ c ∈ g, wsP c = true
 lp : p.length ≤ 65536
 lq : q.length ≤ 65536
theorem iter_congr {σ ρ : Type} {b1 b2 : (σ → Option ρ) → σ → Option ρ} (Inv : σ → Prop) (h : ∀ rec1 rec2 x, Inv x → (∀ y, Inv y → rec1 y = rec2 y) → b1 rec1 x = b2 rec2 x) : ∀ n x, Inv x → iter b1 n x = iter b2 n x
 | 0, x, hx => rfl
 | n + 1, x, hx => h _ _ x hx (fun y hy => iter_congr Inv h n y hy)
theorem F_char1 (r : Int) : Fa_Char r = some (charP r) := by
 unfold Fa_Char charP
 congr 1
 rw [Bool.eq_iff_iff]
 simp only [Bool.or_eq_true, Bool.and_eq_true, beq_iff_eq, decide_eq_true_eq]
 omega
theorem F_start1 (r : Int) : Fa_Start r = some (startP r) := by
 unfold Fa_Start startP
 simp only [letJ, Bool.cond_eq_ite, Bool.and_eq_true, decide_eq_true_eq, beq_iff_eq]
 have hT : ∀ (P : Prop) [Decidable P], P → some true = some (decide P) := fun P _ h => by rw [dT h]
 by_cases h1 : 65 ≤ r ∧ r ≤ 90
 ·rw [if_pos h1, if_pos h1]; exact hT _ (by omega)
 rw [if_neg h1]
 by_cases h2 : r = 95
 ·rw [if_pos h2, if_pos h2]; exact hT _ (by omega)
 rw [if_neg h2]
 by_cases h3 : 97 ≤ r ∧ r ≤ 122
 ·rw [if_pos h3]; exact hT _ (by omega)
 rw [if_neg h3]
 by_cases h4 : 192 ≤ r ∧ r ≤ 767
 ·rw [if_pos h4]; congr 1; rw [Bool.eq_iff_iff]; simp only [Bool.and_eq_true, bne_iff_ne, ne_eq, decide_eq_true_eq]; omega
 rw [if_neg h4]
 by_cases h5 : 880 ≤ r ∧ r ≤ 8191
 ·rw [if_pos h5]; congr 1; rw [Bool.eq_iff_iff]; simp only [bne_iff_ne, ne_eq, decide_eq_true_eq]; omega
 rw [if_neg h5]
 by_cases h6 : r = 8204
 ·rw [if_pos h6, if_pos h6]; exact hT _ (by omega)
 rw [if_neg h6]
 by_cases h7 : r = 8205
 ·rw [if_pos h7]; exact hT _ (by omega)
 rw [if_neg h7]
 by_cases h8 : 8304 ≤ r ∧ r ≤ 8591
 ·rw [if_pos h8, if_pos h8]; exact hT _ (by omega)
 rw [if_neg h8]
 by_cases h9 : 11264 ≤ r ∧ r ≤ 12271
 ·rw [if_pos h9, if_pos h9]; exact hT _ (by omega)
 rw [if_neg h9]
 by_cases h10 : 12289 ≤ r ∧ r ≤ 55295
 ·rw [if_pos h10]; exact hT _ (by omega)
 rw [if_neg h10]
 by_cases h11 : 63744 ≤ r ∧ r ≤ 65533
 ·rw [if_pos h11]; congr 1; rw [Bool.eq_iff_iff]; simp only [Bool.or_eq_true, decide_eq_true_eq]; omega
 rw [if_neg h11]
 congr 1; rw [Bool.eq_iff_iff]; simp only [Bool.and_eq_true, decide_eq_true_eq]; omega
theorem F_part1 (r : Int) : Fa_Part r = some (partP r) := by
 unfold Fa_Part partP
 rw [F_start1, bS]
 congr 1
 cases startP r
 ·simp only [Bool.false_or]
  rw [Bool.eq_iff_iff]
  simp only [Bool.or_eq_true, Bool.and_eq_true, beq_iff_eq, decide_eq_true_eq]
  omega
 ·simp
theorem F_fault (p : LB) (hl : p.length ≤ 1073741824) : Fa_Fault p = Fh_Fault p := by
 unfold Fa_Fault Fh_Fault
 simp only [letJ]
 have := iter_congr (b1 := Fa_Fault_l0 p) (b2 := Fh_Fault_l0 p) (fun x => ∃ j : Nat, x = (j : Int) ∧ j ≤ p.length) (fun rec1 rec2 x ⟨j, hx, hj⟩ hrec => by
  subst hx
  unfold Fa_Fault_l0 Fh_Fault_l0
  by_cases hjl : j < p.length
  ·obtain ⟨d1, d2, d3, d4⟩ := dec_bytes p j hjl
   rw [dT (show (j : Int) < (p.length : Int) by omega), cT, cT, F_read1 p j hjl hl, F_next p j hjl hl, bS, bS]
   cases badR (decodeL (p.drop j))
   ·simp only [Bool.false_eq_true, if_false, F_char1, bS]
    have hz : (((decodeL (p.drop j)).2 : Int) == (0 : Int)) = false := by simp only [beq_eq_false_iff_ne, ne_eq]; omega
    rw [hz, cF]
    cases charP ((decodeL (p.drop j)).1 : Int)
    ·rfl
    ·simp only [Bool.not_true, cF, if_true, bne_self_eq_false]
     rw [w64 (by omega) (by omega)]
     have := hrec ((j + (decodeL (p.drop j)).2 : Nat) : Int) ⟨_, rfl, d2⟩
     rw [← this]; rfl
   ·rfl
  ·rw [dF (by omega), cF, cF]) FUEL (0 : Int) ⟨0, rfl, Nat.zero_le _⟩
 rw [this]
theorem F_name1 (l : LB) : Fa_Name l = some (nameP l) := by
 unfold Fa_Name nameP
 by_cases c : l = [] ∨ 100 < l.length
 ·have e1 : (((l.length : Int) == (0 : Int)) || decide ((100 : Int) < (l.length : Int))) = true := by
   simp only [Bool.or_eq_true, beq_iff_eq, decide_eq_true_eq]
   rcases c with rfl | c
   ·left; rfl
   ·right; omega
  have e2 : (decide (l = []) || decide (100 < l.length)) = true := by simpa using c
  rw [e1, e2]; rfl
 ·have hl : l.length ≤ 100 := by omega
  have hne : 0 < l.length := List.length_pos_iff.2 fun h => c (.inl h)
  have e1 : (((l.length : Int) == (0 : Int)) || decide ((100 : Int) < (l.length : Int))) = false := by
   simp only [Bool.or_eq_false_iff, beq_eq_false_iff_ne, decide_eq_false_iff_not]; omega
  have e2 : (decide (l = []) || decide (100 < l.length)) = false := by
   simp only [Bool.or_eq_false_iff, decide_eq_false_iff_not]
   exact ⟨fun h => c (.inl h), by omega⟩
  rw [e1, e2, cF, Bool.not_false, Bool.true_and]
  simp only [letJ]
  obtain ⟨o, h1, h2⟩ := iter_spec (b := Fa_Name_l0 l) (fun i x => ∃ j : Nat, x = (j : Int) ∧ i ≤ j ∧ j ≤ l.length ∧ okN l l.length 0 = okN l (l.length - i) j) (fun o => match o with | .inl _ => okN l l.length 0 = true | .inr b => b = false ∧ okN l l.length 0 = false) l.length (x0 := (0 : Int)) ⟨0, rfl, Nat.le_refl _, Nat.zero_le _, rfl⟩
   (fun i x rec hi ⟨j, hx, hij, hjl, hI⟩ => by
    subst hx
    have es : l.length - i = (l.length - (i + 1)) + 1 := by omega
    rw [es, okN] at hI
    unfold Fa_Name_l0
    by_cases hj : j < l.length
    ·obtain ⟨d1, d2, d3, d4⟩ := dec_bytes l j hj
     rw [if_pos hj] at hI
     simp only [letJ]
     rw [dT (show (j : Int) < (l.length : Int) by omega), cT, F_read1 l j hj (by omega), bS]
     cases hb : badR (decodeL (l.drop j))
     ·rw [hb] at hI
      simp only [Bool.false_eq_true, if_false, F_part1, F_start1, bS]
      have hz : (((decodeL (l.drop j)).2 : Int) == (0 : Int)) = false := by simp only [beq_eq_false_iff_ne, ne_eq]; omega
      rw [hz, cF]
      cases hp : partP ((decodeL (l.drop j)).1 : Int)
      ·rw [hp] at hI
       exact .inr ⟨.inr false, rfl, rfl, by simpa using hI⟩
      ·rw [hp] at hI
       simp only [Bool.not_true, cF]
       have ez : ((j : Int) == (0 : Int)) = decide (j = 0) := by
        rw [Bool.eq_iff_iff]; simp only [beq_iff_eq, decide_eq_true_eq]; omega
       rw [ez, w64 (by omega) (by omega)]
       cases hd0 : decide (j = 0)
       ·rw [hd0] at hI
        exact .inl ⟨((j + (decodeL (l.drop j)).2 : Nat) : Int), rfl, _, rfl, by omega, d2, by simpa using hI⟩
       ·rw [hd0] at hI
        cases hs : startP ((decodeL (l.drop j)).1 : Int)
        ·rw [hs] at hI
         exact .inr ⟨.inr false, rfl, rfl, by simpa using hI⟩
        ·rw [hs] at hI
         exact .inl ⟨((j + (decodeL (l.drop j)).2 : Nat) : Int), rfl, _, rfl, by omega, d2, by simpa using hI⟩
     ·rw [hb] at hI
      exact .inr ⟨.inr false, rfl, rfl, by simpa using hI⟩
    ·rw [if_neg hj] at hI
     rw [dF (by omega), cF]
     exact .inr ⟨.inl (), rfl, hI⟩)
   (fun x rec ⟨j, hx, hij, hjl, hI⟩ => ⟨.inl (), by
    subst hx
    unfold Fa_Name_l0
    rw [dF (by omega), cF], by show okN l l.length 0 = true; rw [hI, Nat.sub_self]; rfl⟩) (n := FUEL) (by unfold FUEL; omega)
  rw [h1, bS]
  cases o with
  | inl u => simp only at h2; rw [h2]
  | inr b => obtain ⟨rfl, h3⟩ := h2; rw [h3]
theorem slc_seg {α : Type} {l : List α} {i j : Nat} (h1 : i ≤ j) (h2 : j ≤ l.length) : slc l (i : Int) (j : Int) = some ((l.drop i).take (j - i)) := by
 unfold slc; rw [if_pos (by omega)]; simp only [Int.toNat_natCast]
theorem stands_at (b : LB) (i : Nat) (w : LB) (hi : i ≤ b.length) (hb : b.length ≤ 1073741824) (hw : w.length ≤ 1000) : Fc_Stands b (i : Int) w = some (hereP b i w) := by
 unfold Fc_Stands hereP
 simp only [letJ]
 rw [w64 (by omega) (by omega), isPre_take, List.length_drop]
 by_cases h : i + w.length ≤ b.length
 ·rw [dT (by omega), cT, show (i : Int) + (w.length : Int) = ((i + w.length : Nat) : Int) by omega, slc_seg (by omega) h, bS, dT (by omega), Bool.true_and, show i + w.length - i = w.length by omega]
 ·rw [dF (by omega), cF, dF (by omega), Bool.false_and]
theorem ws_any (c : UInt8) : wsP c = ((((c.toNat : Int) == (32 : Int)) || ((c.toNat : Int) == (9 : Int))) || ((c.toNat : Int) == (10 : Int)) || ((c.toNat : Int) == (13 : Int))) := by
 have := all_u8 (p := fun c => wsP c == ((((c.toNat : Int) == (32 : Int)) || ((c.toNat : Int) == (9 : Int))) || ((c.toNat : Int) == (10 : Int)) || ((c.toNat : Int) == (13 : Int)))) (by decide +kernel) c
 simpa using this
theorem white_at (b : LB) (i : Nat) (hi : i ≤ b.length) (hb : b.length ≤ 1073741824) : Fc_White b (i : Int) = some ((sk wsP b i : Nat) : Int) := by
 unfold Fc_White
 simp only [letJ]
 have := scan_loop (b := Fc_White_l0 b) wsP b (fun rec i h => by
  unfold Fc_White_l0
  simp only [letJ]
  rw [dT (by omega), cT, idx_some h, bS, w64 (by omega) (by omega), ws_any]
  simp only [bS]
  cases ((b[i].toNat : Int) == (32 : Int)) <;> cases ((b[i].toNat : Int) == (9 : Int)) <;> cases ((b[i].toNat : Int) == (10 : Int)) <;> cases ((b[i].toNat : Int) == (13 : Int)) <;> rfl) (fun rec => by
  unfold Fc_White_l0
  simp only [letJ]
  rw [dF (by omega), cF, cF]) FUEL (b.length - i) i (by omega) (by unfold FUEL; omega)
 rw [this, bS]
theorem index_none_short {s w : LB} (hw : w ≠ []) (h : s.length < w.length) : Lib.index s w = -1 := by
 by_cases hn : Lib.index s w < 0
 ·have := Lib.index_ge s w; omega
 ·obtain ⟨m, e⟩ : ∃ m : Nat, Lib.index s w = (m : Int) := ⟨(Lib.index s w).toNat, by omega⟩
  have := index_occ e hw; omega
def fndR (b : LB) (k : Nat) (w : LB) : Unit ⊕ Int := if Lib.index (b.drop k) w < 0 then .inl () else .inr ((k : Int) + Lib.index (b.drop k) w)
theorem find_step (b w : LB) (k : Nat) (hk : k ≤ b.length) (hb : b.length ≤ 1073741824) (hwl : w.length ≤ 1000) (rec) : Fc_Find_l0 b w rec (k : Int) = if k + w.length ≤ b.length then cond (w.isPrefixOf (b.drop k)) (some (.inr (k : Int))) (rec ((k + 1 : Nat) : Int)) else some (.inl ()) := by
 unfold Fc_Find_l0
 rw [w64 (x := (k : Int) + (w.length : Int)) (by omega) (by omega)]
 by_cases hl : k + w.length ≤ b.length
 ·have hp : w.isPrefixOf (b.drop k) = ((b.drop k).take w.length == w) := by
   rw [isPre_take, dT (by rw [List.length_drop]; omega), Bool.true_and]
  rw [dT (by omega), cT, show (k : Int) + (w.length : Int) = ((k + w.length : Nat) : Int) by omega, slc_seg (by omega) hl, bS, show k + w.length - k = w.length by omega, if_pos hl, hp, w64 (by omega) (by omega)]
  rfl
 ·rw [dF (by omega), cF, if_neg hl]
theorem find_iter (b w : LB) (hb : b.length ≤ 1073741824) (hw : w ≠ []) (hwl : w.length ≤ 1000) : ∀ (n k : Nat), k ≤ b.length → b.length - k < n → iter (Fc_Find_l0 b w) n (k : Int) = some (fndR b k w)
 | 0, k, _, h => by omega
 | n + 1, k, hk, h => by
  have hwp : 0 < w.length := List.length_pos_iff.2 hw
  rw [iter_succ, find_step b w k hk hb hwl]
  by_cases hl : k + w.length ≤ b.length
  ·rw [if_pos hl]
   have hd : b.drop k = b[k] :: b.drop (k + 1) := List.drop_eq_getElem_cons (by omega)
   have hix : Lib.index (b.drop k) w = if w.isPrefixOf (b.drop k) = true then 0 else if Lib.index (b.drop (k + 1)) w == -1 then -1 else Lib.index (b.drop (k + 1)) w + 1 := by
    conv => lhs; rw [hd]
    rw [hd]; rfl
   cases hpre : w.isPrefixOf (b.drop k) with
   | true =>
    rw [hpre, if_pos rfl] at hix
    unfold fndR
    rw [cT, hix, if_neg (by omega)]; simp
   | false =>
    rw [hpre, if_neg (by simp)] at hix
    rw [cF, find_iter b w hb hw hwl n (k + 1) (by omega) (by omega)]
    unfold fndR
    have := Lib.index_ge (b.drop (k + 1)) w
    by_cases hn : Lib.index (b.drop (k + 1)) w = -1
    ·rw [hn] at hix
     rw [hix, hn]; rfl
    ·have e : (Lib.index (b.drop (k + 1)) w == -1) = false := by simpa using hn
     rw [e, if_neg (by simp)] at hix
     rw [hix, if_neg (by omega), if_neg (by omega)]
     congr 2; omega
  ·rw [if_neg hl]
   unfold fndR
   rw [index_none_short hw (by rw [List.length_drop]; omega), if_pos (by omega)]
theorem find_at (b : LB) (i : Nat) (w : LB) (hi : i ≤ b.length) (hb : b.length ≤ 1073741824) (hw : w ≠ []) (hwl : w.length ≤ 1000) : Fc_Find b (i : Int) w = some (if Lib.index (b.drop i) w < 0 then -1 else (i : Int) + Lib.index (b.drop i) w) := by
 unfold Fc_Find
 simp only [letJ]
 rw [find_iter b w hb hw hwl FUEL i hi (by unfold FUEL; omega), bS]
 unfold fndR
 by_cases h : Lib.index (b.drop i) w < 0
 ·rw [if_pos h, if_pos h]
 ·rw [if_neg h, if_neg h]
theorem index_one : ∀ (l : LB) (c : UInt8), Lib.index l [c] = Lib.indexByte l c
 | [], c => rfl
 | b :: l, c => by
  show (if List.isPrefixOf [c] (b :: l) = true then (0 : Int) else if Lib.index l [c] == -1 then -1 else Lib.index l [c] + 1) = (if (b == c) = true then 0 else if Lib.indexByte l c == -1 then -1 else Lib.indexByte l c + 1)
  rw [index_one l c]
  have : List.isPrefixOf [c] (b :: l) = (b == c) := by
   simp only [List.isPrefixOf, Bool.and_true]
   rw [Bool.eq_iff_iff, beq_iff_eq, beq_iff_eq]; exact ⟨fun h => h.symm, fun h => h.symm⟩
  rw [this]
def hexv (c : UInt8) : Int := if 48 ≤ c.toNat ∧ c.toNat ≤ 57 then (c.toNat : Int) - 48 else if 97 ≤ c.toNat ∧ c.toNat ≤ 102 then (c.toNat : Int) - 87 else if 65 ≤ c.toNat ∧ c.toNat ≤ 70 then (c.toNat : Int) - 55 else -1
theorem hex_at (c : UInt8) : Fb_hex (c.toNat : Int) = some (hexv c) := by
 have := all_u8 (p := fun c => Fb_hex (c.toNat : Int) == some (hexv c)) (by decide +kernel) c
 simpa using this
theorem digit_at (c : UInt8) : Fr_digit (c.toNat : Int) = some (if hexv c < 0 then 99 else hexv c) := by
 have := all_u8 (p := fun c => Fr_digit (c.toNat : Int) == some (if hexv c < 0 then 99 else hexv c)) (by decide +kernel) c
 simpa using this
theorem hexv_lt (c : UInt8) : -1 ≤ hexv c ∧ hexv c ≤ 15 := by
 unfold hexv
 split
 ·omega
 ·split
  ·omega
  ·split <;> omega
def dgP (base : Int) (c : UInt8) : Bool := decide (0 ≤ hexv c) && decide (hexv c < base)
def fv (base : Int) (f : Int) (l : LB) : Int := l.foldl (fun f c => if f < 2097152 then base * f + hexv c else f) f
def gv (base : Int) (g : Int) (l : LB) : Int := l.foldl (fun g c => if 1114112 < g * base + hexv c then 1114112 else g * base + hexv c) g
theorem tw_cases (P : UInt8 → Bool) : ∀ a : LB, (a.all P = true ∧ a.takeWhile P = a) ∨ (a.all P = false ∧ (a.takeWhile P).length < a.length)
 | [] => .inl ⟨rfl, rfl⟩
 | c :: a => by
  cases hc : P c with
  | false => right; rw [List.all_cons, hc, List.takeWhile_cons, hc]; simp
  | true =>
   rw [List.all_cons, hc, List.takeWhile_cons, hc, Bool.true_and, if_pos rfl]
   rcases tw_cases P a with ⟨h1, h2⟩ | ⟨h1, h2⟩
   ·left; rw [h2]; exact ⟨h1, rfl⟩
   ·right; exact ⟨h1, by simpa using h2⟩
theorem ex_step (p : LB) (base : Int) (hbase : base = 10 ∨ base = 16) (k : Nat) (hk : k < p.length) (hp : p.length ≤ 1073741824) (f cnt : Int) (hf : 0 ≤ f ∧ f ≤ 33554447) (hc : 0 ≤ cnt ∧ cnt ≤ k) (rec) :
  Fb_Expand_l0 p base rec ((k : Int), f, cnt) = cond (dgP base p[k]) (rec (((k + 1 : Nat) : Int), (if f < 2097152 then base * f + hexv p[k] else f), cnt + 1)) (some ((k : Int), f, cnt)) := by
 have hh := hexv_lt p[k]
 unfold Fb_Expand_l0 dgP
 simp only [letJ]
 rw [dT (show (k : Int) < (p.length : Int) by omega), cT, idx_some hk]
 simp only [bS, hex_at]
 cases h0 : decide (0 ≤ hexv p[k]) with
 | false => rfl
 | true =>
  rw [cT, Bool.true_and]
  have h0 := of_decide_eq_true h0
  cases h1 : decide (hexv p[k] < base) with
  | false => rfl
  | true =>
   rw [cT, cT, w64 (x := (k : Int) + 1) (by omega) (by omega), w64 (x := cnt + 1) (by omega) (by omega)]
   by_cases hf2 : f < 2097152
   ·have hbf : 0 ≤ base * f ∧ base * f ≤ 33554432 := by rcases hbase with rfl | rfl <;> omega
    rw [dT hf2, cT, if_pos hf2, w64 (x := base * f) (by omega) (by omega), w64 (x := base * f + hexv p[k]) (by omega) (by omega)]; rfl
   ·rw [dF hf2, cF, if_neg hf2]; rfl
theorem ex_loop (p : LB) (base : Int) (hbase : base = 10 ∨ base = 16) (hp : p.length ≤ 1073741824) : ∀ (n k : Nat) (f cnt : Int), k ≤ p.length → p.length - k < n → (0 ≤ f ∧ f ≤ 33554447) → (0 ≤ cnt ∧ cnt ≤ k) →
  iter (Fb_Expand_l0 p base) n ((k : Int), f, cnt) = some (((k + ((p.drop k).takeWhile (dgP base)).length : Nat) : Int), fv base f ((p.drop k).takeWhile (dgP base)), cnt + (((p.drop k).takeWhile (dgP base)).length : Int))
 | 0, k, f, cnt, _, h, _, _ => by omega
 | n + 1, k, f, cnt, hk, h, hf, hc => by
  rw [iter_succ]
  by_cases hl : k < p.length
  ·rw [ex_step p base hbase k hl hp f cnt hf hc, List.drop_eq_getElem_cons hl, List.takeWhile_cons]
   cases hd : dgP base p[k] with
   | false => simp [fv]
   | true =>
    have hh := hexv_lt p[k]
    have h0 : 0 ≤ hexv p[k] := by unfold dgP at hd; simp at hd; exact hd.1
    rw [cT, if_pos rfl, ex_loop p base hbase hp n (k + 1) _ _ (by omega) (by omega) (by
     split
     ·rcases hbase with rfl | rfl <;> omega
     ·exact hf) (by omega), List.length_cons]
    have e1 : ((k + 1 + ((p.drop (k + 1)).takeWhile (dgP base)).length : Nat) : Int) = ((k + (((p.drop (k + 1)).takeWhile (dgP base)).length + 1) : Nat) : Int) := by omega
    have e2 : cnt + 1 + (((p.drop (k + 1)).takeWhile (dgP base)).length : Int) = cnt + ((((p.drop (k + 1)).takeWhile (dgP base)).length + 1 : Nat) : Int) := by omega
    rw [e1, e2]; rfl
  ·have : k = p.length := by omega
   subst this
   unfold Fb_Expand_l0
   simp only [letJ]
   rw [dF (by omega), cF, cF, cF, List.drop_length]
   simp [fv]
theorem mt_step (a : LB) (base : Int) (hbase : base = 10 ∨ base = 16) (k : Nat) (hk : k < a.length) (ha : a.length ≤ 1073741824) (g : Int) (hg : 0 ≤ g ∧ g ≤ 1114112) (rec) :
  Fr_meant_l0 a base rec (g, (k : Int)) = cond (dgP base a[k]) (rec ((if 1114112 < g * base + hexv a[k] then 1114112 else g * base + hexv a[k]), ((k + 1 : Nat) : Int))) (some (.inr (0, 22))) := by
 have hh := hexv_lt a[k]
 have hbg : 0 ≤ g * base ∧ g * base ≤ 17825792 := by rcases hbase with rfl | rfl <;> omega
 unfold Fr_meant_l0 dgP
 dsimp only
 rw [dT (show (k : Int) < (a.length : Int) by omega), cT, idx_some hk, bS, digit_at, bS]
 by_cases h0 : hexv a[k] < 0
 ·rw [if_pos h0, dT (show base ≤ 99 by omega), cT, dF (by omega), Bool.false_and, cF]
 ·rw [if_neg h0, dT (show 0 ≤ hexv a[k] by omega), Bool.true_and]
  by_cases h1 : hexv a[k] < base
  ·rw [dF (show ¬ base ≤ hexv a[k] by omega), cF, dT h1, cT, w64 (x := g * base) (by omega) (by omega), w64 (x := g * base + hexv a[k]) (by omega) (by omega), w64 (x := (k : Int) + 1) (by omega) (by omega)]; rfl
  ·rw [dT (show base ≤ hexv a[k] by omega), cT, dF h1, cF]
theorem mt_loop (a : LB) (base : Int) (hbase : base = 10 ∨ base = 16) (ha : a.length ≤ 1073741824) : ∀ (n k : Nat) (g : Int), k ≤ a.length → a.length - k < n → (0 ≤ g ∧ g ≤ 1114112) →
  iter (Fr_meant_l0 a base) n (g, (k : Int)) = some (if (a.drop k).all (dgP base) = true then .inl (gv base g (a.drop k)) else .inr (0, 22))
 | 0, k, g, _, h, _ => by omega
 | n + 1, k, g, hk, h, hg => by
  rw [iter_succ]
  by_cases hl : k < a.length
  ·rw [mt_step a base hbase k hl ha g hg, List.drop_eq_getElem_cons hl, List.all_cons]
   cases hd : dgP base a[k] with
   | false => rfl
   | true =>
    have hh := hexv_lt a[k]
    have h0 : 0 ≤ hexv a[k] := by unfold dgP at hd; simp at hd; exact hd.1
    rw [cT, Bool.true_and, mt_loop a base hbase ha n (k + 1) _ (by omega) (by omega) (by
     split
     ·omega
     ·rcases hbase with rfl | rfl <;> omega)]
    rfl
  ·have : k = a.length := by omega
   subst this
   unfold Fr_meant_l0
   dsimp only
   rw [dF (by omega), cF, List.drop_length]
   rfl
theorem fg_rel (base : Int) (hbase : base = 10 ∨ base = 16) : ∀ (l : LB) (f g : Int), l.all (dgP base) = true → ((g = f ∧ 0 ≤ f ∧ f ≤ 1114111) ∨ (g = 1114112 ∧ 1114112 ≤ f)) → ((gv base g l = fv base f l ∧ 0 ≤ fv base f l ∧ fv base f l ≤ 1114111) ∨ (gv base g l = 1114112 ∧ 1114112 ≤ fv base f l))
 | [], f, g, _, h => h
 | c :: l, f, g, ha, h => by
  rw [List.all_cons, Bool.and_eq_true] at ha
  have hd := ha.1
  unfold dgP at hd
  simp only [Bool.and_eq_true, decide_eq_true_eq] at hd
  have hh := hexv_lt c
  show ((gv base (if 1114112 < g * base + hexv c then 1114112 else g * base + hexv c) l = fv base (if f < 2097152 then base * f + hexv c else f) l ∧ _) ∨ _)
  refine fg_rel base hbase l _ _ ha.2 ?_
  rcases h with ⟨rfl, h1, h2⟩ | ⟨rfl, h1⟩
  ·rw [if_pos (show g < 2097152 by omega), Int.mul_comm base g]
   have : 0 ≤ g * base := by rcases hbase with rfl | rfl <;> omega
   split
   ·right; omega
   ·by_cases h3 : g * base + hexv c ≤ 1114111
    ·left; omega
    ·right; omega
  ·right
   rw [if_pos (by rcases hbase with rfl | rfl <;> omega)]
   refine ⟨rfl, ?_⟩
   split
   ·rcases hbase with rfl | rfl <;> omega
   ·omega
theorem w32 {x : Int} (h1 : -2147483648 ≤ x) (h2 : x ≤ 2147483647) : IntKind.wrap .i32 x = x := by rw [IntKind.wrap_i32]; omega
theorem fg_zero (base : Int) (hbase : base = 10 ∨ base = 16) (l : LB) (ha : l.all (dgP base) = true) : charP (IntKind.wrap .i32 (gv base 0 l)) = charP (fv base 0 l) ∧ (charP (fv base 0 l) = true → IntKind.wrap .i32 (gv base 0 l) = fv base 0 l) := by
 rcases fg_rel base hbase l 0 0 ha (.inl ⟨rfl, by omega, by omega⟩) with ⟨h1, h2, h3⟩ | ⟨h1, h2⟩
 ·rw [h1, w32 (by omega) (by omega)]; exact ⟨rfl, fun _ => rfl⟩
 ·have e : charP (fv base 0 l) = false := by unfold charP; exact dF (by omega)
  rw [h1, e]
  exact ⟨by decide, fun h => by cases h⟩
abbrev WordsL : List LB := [([108, 116, 59] : LB), ([103, 116, 59] : LB), ([97, 109, 112, 59] : LB), ([97, 112, 111, 115, 59] : LB), ([113, 117, 111, 116, 59] : LB)]
theorem word_step (p : LB) (m k : Nat) (w : LB) (v : Int) (hm : m ≤ p.length) (hp : p.length ≤ 1073741824) (hk : k < 5) (h1 : idxN 5 WordsL (k : Int) = some w) (h2 : idxN 5 [(60 : Int), (62 : Int), (38 : Int), (39 : Int), (34 : Int)] (k : Int) = some v) (hw : w.length ≤ 10) (rec) :
  Fb_word_l0 p (m : Int) rec (k : Int) = cond (hereP p m w) (some (.inr (v, ((m + w.length : Nat) : Int)))) (rec ((k + 1 : Nat) : Int)) := by
 unfold Fb_word_l0 hereP
 simp only [letJ]
 rw [dT (show (k : Int) < 5 by omega), cT, h1, bS, w64 (x := (m : Int) + (w.length : Int)) (by omega) (by omega), isPre_take, List.length_drop, w64 (x := (k : Int) + 1) (by omega) (by omega), h2]
 by_cases h : m + w.length ≤ p.length
 ·rw [dT (by omega), cT, show (m : Int) + (w.length : Int) = ((m + w.length : Nat) : Int) by omega, slc_seg (by omega) h, bS, dT (show w.length ≤ p.length - m by omega), Bool.true_and, show m + w.length - m = w.length by omega, bS]; rfl
 ·rw [dF (by omega), cF, dF (show ¬ w.length ≤ p.length - m by omega), Bool.false_and]; rfl
def wordR (p : LB) (m : Nat) : Int × Int :=
 if hereP p m [108, 116, 59] = true then (60, ((m + 3 : Nat) : Int)) else if hereP p m [103, 116, 59] = true then (62, ((m + 3 : Nat) : Int)) else if hereP p m [97, 109, 112, 59] = true then (38, ((m + 4 : Nat) : Int))
 else if hereP p m [97, 112, 111, 115, 59] = true then (39, ((m + 5 : Nat) : Int)) else if hereP p m [113, 117, 111, 116, 59] = true then (34, ((m + 5 : Nat) : Int)) else (0, 0)
theorem word_eq (p : LB) (m : Nat) (hm : m ≤ p.length) (hp : p.length ≤ 1073741824) : Fb_word p (m : Int) = some (wordR p m) := by
 unfold Fb_word wordR
 simp only [letJ]
 rw [show FUEL = 18446744073709551610 + 1 + 1 + 1 + 1 + 1 + 1 from rfl]
 rw [iter_succ, show (0 : Int) = ((0 : Nat) : Int) from rfl, word_step p m 0 _ _ hm hp (by omega) rfl rfl (by decide)]
 cases hereP p m [108, 116, 59] with
 | true => rfl
 | false =>
 rw [cF, iter_succ, word_step p m 1 _ _ hm hp (by omega) rfl rfl (by decide)]
 cases hereP p m [103, 116, 59] with
 | true => rfl
 | false =>
 rw [cF, iter_succ, word_step p m 2 _ _ hm hp (by omega) rfl rfl (by decide)]
 cases hereP p m [97, 109, 112, 59] with
 | true => rfl
 | false =>
 rw [cF, iter_succ, word_step p m 3 _ _ hm hp (by omega) rfl rfl (by decide)]
 cases hereP p m [97, 112, 111, 115, 59] with
 | true => rfl
 | false =>
 rw [cF, iter_succ, word_step p m 4 _ _ hm hp (by omega) rfl rfl (by decide)]
 cases hereP p m [113, 117, 111, 116, 59] with
 | true => rfl
 | false => rfl
def numR (p : LB) (m : Nat) (base : Int) : Int × Int × Int :=
 if ((p.drop m).takeWhile (dgP base)).length = 0 ∨ p[m + ((p.drop m).takeWhile (dgP base)).length]? ≠ some 59 then (0, 0, 22)
 else if charP (fv base 0 ((p.drop m).takeWhile (dgP base))) = true then (fv base 0 ((p.drop m).takeWhile (dgP base)), ((m + ((p.drop m).takeWhile (dgP base)).length + 1 : Nat) : Int), 0) else (0, 0, 21)
def numM (a : LB) (base : Int) : Int × Int :=
 if a = [] ∨ a.all (dgP base) = false then (0, 22) else if charP (fv base 0 a) = true then (fv base 0 a, 0) else (0, 21)
theorem dg59 (base : Int) : dgP base 59 = false := by
 unfold dgP
 rw [show hexv 59 = -1 by decide]; rfl
theorem num_eq (p : LB) (m d : Nat) (base : Int) (h : Lib.indexByte (p.drop m) 59 = (d : Int)) : numR p m base = if (numM ((p.drop m).take d) base).2 ≠ 0 then (0, 0, (numM ((p.drop m).take d) base).2) else ((numM ((p.drop m).take d) base).1, ((m + d + 1 : Nat) : Int), 0) := by
 obtain ⟨g1, g2⟩ := Lib.indexByte_some h
 have hd : d < (p.drop m).length := (List.getElem?_eq_some_iff.1 g1).1
 have hsp : p.drop m = (p.drop m).take d ++ 59 :: (p.drop m).drop (d + 1) := by
  conv => lhs; rw [← List.take_append_drop d (p.drop m)]
  rw [List.drop_eq_getElem_cons hd]
  have := (List.getElem?_eq_some_iff.1 g1).2
  rw [this]
 have hal : ((p.drop m).take d).length = d := by rw [List.length_take]; omega
 have hno : ∀ k, k < d → ((p.drop m).take d)[k]? ≠ some 59 := fun k hk => by rw [List.getElem?_take_of_lt hk]; exact g2 k hk
 generalize ha : (p.drop m).take d = a at *
 have htw : (p.drop m).takeWhile (dgP base) = a.takeWhile (dgP base) := by
  rw [hsp, List.takeWhile_append]
  split
  ·rename_i hl
   rw [List.takeWhile_cons, dg59]
   rcases tw_cases (dgP base) a with ⟨_, h2⟩ | ⟨_, h2⟩
   ·rw [h2]; simp
   ·omega
  ·rfl
 have hget : ∀ k, k ≤ d → p[m + k]? = (a ++ 59 :: (p.drop m).drop (d + 1))[k]? := fun k _ => by rw [← hsp, List.getElem?_drop]
 unfold numR numM
 rw [htw]
 rcases tw_cases (dgP base) a with ⟨h1, h2⟩ | ⟨h1, h2⟩
 ·rw [h2, h1, hal, hget d (Nat.le_refl _), List.getElem?_append_right (by omega), hal, Nat.sub_self]
  by_cases he : a = []
  ·rw [if_pos (.inl (by rw [he] at hal; simpa using hal.symm)), if_pos (c := a = [] ∨ _) (.inl he)]; simp
  ·have hdz : ¬ d = 0 := fun e => he (List.eq_nil_of_length_eq_zero (by omega))
   rw [if_neg (c := d = 0 ∨ _) (by rintro (h | h); exact hdz h; exact h rfl), if_neg (c := a = [] ∨ _) (by rintro (h | h); exact he h; cases h)]
   cases charP (fv base 0 a) with
   | true => simp
   | false => simp
 ·have hlt : (a.takeWhile (dgP base)).length < d := by omega
  rw [if_pos (.inr (by
   rw [hget _ (by omega), List.getElem?_append_left (by omega)]
   exact hno _ hlt)), h1, if_pos (c := a = [] ∨ _) (.inr rfl)]
  simp
theorem num_none (p : LB) (m : Nat) (base : Int) (h : Lib.indexByte (p.drop m) 59 < 0) : numR p m base = (0, 0, 22) := by
 have := Lib.indexByte_ge (p.drop m) 59
 unfold numR
 rw [if_pos (.inr (by
  rw [← List.getElem?_drop]
  exact Lib.indexByte_none (by omega) _))]
theorem numT (p : LB) (m : Nat) (base : Int) (hbase : base = 10 ∨ base = 16) (hm : m ≤ p.length) (hp : p.length ≤ 1073741824) :
  ((iter (Fb_Expand_l0 p base) FUEL ((m : Int), (0 : Int), (0 : Int))).bind fun o => (match o with
    | (a42, a43, a44) => cond ((a44 == (0 : Int)) || (decide ((p.length : Int) ≤ a42))) (cond true (some ((0 : Int), (0 : Int), (22 : Int))) ((Fa_Char a43).bind fun x78 => cond (!x78) (some ((0 : Int), (0 : Int), (21 : Int))) (some (a43, (IntKind.wrap .i64 (a42 + (1 : Int))), (0 : Int)))))
     ((idx p a42).bind fun x76 => cond ((x76.toNat : Int) != (59 : Int)) (some ((0 : Int), (0 : Int), (22 : Int))) ((Fa_Char a43).bind fun x78 => cond (!x78) (some ((0 : Int), (0 : Int), (21 : Int))) (some (a43, (IntKind.wrap .i64 (a42 + (1 : Int))), (0 : Int))))) : Option (Int × Int × Int))) = some (numR p m base) := by
 rw [ex_loop p base hbase hp FUEL m 0 0 hm (by unfold FUEL; omega) (by omega) (by omega), bS]
 unfold numR
 have hl : ((p.drop m).takeWhile (dgP base)).length ≤ p.length - m := by
  have := (List.takeWhile_sublist (dgP base) (l := p.drop m)).length_le
  rwa [List.length_drop] at this
 generalize (p.drop m).takeWhile (dgP base) = l at *
 dsimp only
 by_cases h0 : l.length = 0
 ·rw [if_pos (.inl h0), h0]; rfl
 ·rw [show ((0 : Int) + (l.length : Int) == 0) = false by simp only [beq_eq_false_iff_ne]; omega, Bool.false_or]
  by_cases h1 : m + l.length < p.length
  ·rw [dF (by omega), cF, idx_some h1, bS, List.getElem?_eq_getElem h1, F_char1, bS, w64 (by omega) (by omega)]
   by_cases h2 : p[m + l.length] = 59
   ·rw [h2, show ((((59 : UInt8).toNat : Int)) != 59) = false from rfl, cF, if_neg (by rintro (h | h); exact h0 h; exact h rfl)]
    cases charP (fv base 0 l) <;> rfl
   ·have : ((p[m + l.length].toNat : Int) != 59) = true := by
     rw [bne_iff_ne]; intro h; exact h2 (UInt8.toNat_inj.1 (by show _ = 59; omega))
    rw [this, cT, if_pos (.inr (by simpa using h2))]
  ·rw [dT (by omega), cT, cT, if_pos (.inr (by rw [List.getElem?_eq_none (by omega)]; simp))]
theorem meantT (a : LB) (base : Int) (hbase : base = 10 ∨ base = 16) (ha : a.length ≤ 1073741824) :
  (cond (a == ([] : LB)) (some ((0 : Int), (22 : Int))) ((iter (Fr_meant_l0 a base) FUEL ((0 : Int), (0 : Int))).bind fun o => match o with
    | .inl o1 => (Fh_IsChar (IntKind.wrap .i32 o1)).bind fun x34 => cond (!x34) (some ((0 : Int), (21 : Int))) (some ((IntKind.wrap .i32 o1), (0 : Int)))
    | .inr o1 => some o1)) = some (numM a base) := by
 unfold numM
 by_cases he : a = []
 ·rw [he]; rfl
 ·rw [ne_nil_beq he, cF, show ((0 : Int), (0 : Int)) = ((0 : Int), ((0 : Nat) : Int)) from rfl, mt_loop a base hbase ha FUEL 0 0 (Nat.zero_le _) (by unfold FUEL; omega) (by omega), bS, List.drop_zero]
  cases hall : a.all (dgP base) with
  | false => rw [if_neg (c := false = true) (by simp), if_pos (c := a = [] ∨ _) (.inr rfl)]
  | true =>
   rw [if_pos rfl, if_neg (by rintro (h | h); exact he h; cases h)]
   obtain ⟨f1, f2⟩ := fg_zero base hbase a hall
   dsimp only
   rw [F_isChar, bS, f1]
   cases hc : charP (fv base 0 a) with
   | true => rw [f2 hc]; rfl
   | false => rfl
theorem semi (D w : LB) (hw : (59 : UInt8) ∉ w) : (w ++ [59]).isPrefixOf D = true ↔ ∃ d : Nat, Lib.indexByte D 59 = (d : Int) ∧ D.take d = w := by
 constructor
 ·intro h
  rw [List.isPrefixOf_iff_prefix] at h
  obtain ⟨R, rfl⟩ := h
  refine ⟨w.length, ixB_of (by rw [List.append_assoc, List.getElem?_append_right (Nat.le_refl _), Nat.sub_self]; rfl) fun k hk => ?_, by rw [List.append_assoc, List.take_left' rfl]⟩
  rw [List.append_assoc, List.getElem?_append_left hk]
  intro hc
  exact hw (List.mem_of_getElem? hc)
 ·rintro ⟨d, h1, rfl⟩
  obtain ⟨g1, _⟩ := Lib.indexByte_some h1
  rw [List.isPrefixOf_iff_prefix]
  obtain ⟨hd, hg⟩ := List.getElem?_eq_some_iff.1 g1
  refine ⟨D.drop (d + 1), ?_⟩
  conv => rhs; rw [← List.take_append_drop d D, List.drop_eq_getElem_cons hd, hg]
  simp
theorem semi_b (p : LB) (m : Nat) (w : LB) (hw : (59 : UInt8) ∉ w) {d : Nat} (h : Lib.indexByte (p.drop m) 59 = (d : Int)) : hereP p m (w ++ [59]) = ((p.drop m).take d == w) := by
 unfold hereP
 rw [Bool.eq_iff_iff, semi _ w hw, beq_iff_eq]
 constructor
 ·rintro ⟨d', h1, h2⟩
  have : d' = d := by omega
  subst this; exact h2
 ·intro h2; exact ⟨d, h, h2⟩
def numQ : LB → Int × Int
 | 35 :: 120 :: a => numM a 16
 | 35 :: a => numM a 10
 | _ => (0, 22)
def meantR (q : LB) : Int × Int :=
 if q == [108, 116] then (60, 0) else if q == [103, 116] then (62, 0) else if q == [97, 109, 112] then (38, 0) else if q == [97, 112, 111, 115] then (39, 0) else if q == [113, 117, 111, 116] then (34, 0) else numQ q
theorem meant_eq (q : LB) (hq : q.length ≤ 1073741824) : Fr_meant q = some (meantR q) := by
 unfold Fr_meant meantR
 cases q == ([108, 116] : LB) with
 | true => rfl
 | false =>
 cases q == ([103, 116] : LB) with
 | true => rfl
 | false =>
 cases q == ([97, 109, 112] : LB) with
 | true => rfl
 | false =>
 cases q == ([97, 112, 111, 115] : LB) with
 | true => rfl
 | false =>
 cases q == ([113, 117, 111, 116] : LB) with
 | true => rfl
 | false =>
  simp only [cF, letJ, Bool.false_eq_true, if_false]
  rw [cutPrefix_eq, bS]
  have hne : ([35] : LB).isPrefixOf q = false → some ((0 : Int), (22 : Int)) = some (numQ q) := by
   intro h
   match q, h with
   | [], _ => rfl
   | c :: q', h =>
    have hc : c ≠ 35 := by rintro rfl; simp [List.isPrefixOf] at h
    unfold numQ
    split
    ·rename_i e; injection e with e _; exact absurd e hc
    ·rename_i e; injection e with e _; exact absurd e hc
    ·rfl
  cases h35 : ([35] : LB).isPrefixOf q with
  | false =>
   rw [if_neg (by simp), cutPrefix_eq, bS]
   rw [← hne h35]
   cases ([120] : LB).isPrefixOf q with
   | true => rw [if_pos rfl, cT, Bool.not_false, Bool.true_or, cT]
   | false => rw [if_neg (by simp), cF, Bool.not_false, Bool.true_or, cT]
  | true =>
   rw [if_pos rfl, cutPrefix_eq, bS]
   obtain ⟨a0, rfl⟩ : ∃ a0, q = 35 :: a0 := by
    rw [List.isPrefixOf_iff_prefix] at h35
    obtain ⟨a0, h⟩ := h35
    exact ⟨a0, h.symm⟩
   have ed : ∀ (c : UInt8) (l : LB), (c :: l).drop ([c] : LB).length = l := fun _ _ => rfl
   simp only [ed]
   simp only [List.length_cons] at hq
   cases h120 : ([120] : LB).isPrefixOf a0 with
   | true =>
    obtain ⟨a, rfl⟩ : ∃ a, a0 = 120 :: a := by
     rw [List.isPrefixOf_iff_prefix] at h120
     obtain ⟨a, h⟩ := h120
     exact ⟨a, h.symm⟩
    have e16 : numQ (35 :: 120 :: a) = numM a 16 := by simp only [numQ]
    simp only [List.length_cons] at hq
    rw [e16]
    rw [if_pos rfl, ed]
    dsimp only
    rw [cT]
    simp only [Bool.not_true, Bool.false_or]
    exact meantT a 16 (.inr rfl) (by omega)
   | false =>
    have : numQ (35 :: a0) = numM a0 10 := by
     match a0, h120 with
     | [], _ => rfl
     | c :: a', h =>
      have hc : c ≠ 120 := by rintro rfl; simp [List.isPrefixOf] at h
      unfold numQ
      split
      ·rename_i e; injection e with _ e; injection e with e _; exact absurd e hc
      ·rename_i e; injection e with _ e; rw [e]
      ·rename_i _ e; exact (e _ rfl).elim
    rw [this]
    simp only [Bool.false_eq_true, if_false, cF, Bool.not_true, Bool.false_or]
    exact meantT a0 10 (.inl rfl) (by omega)
def expR (p : LB) (i : Nat) : Int × Int × Int :=
 if Lib.indexByte (p.drop (i + 1)) 59 < 0 then (0, 0, 22)
 else if (meantR ((p.drop (i + 1)).take (Lib.indexByte (p.drop (i + 1)) 59).toNat)).2 ≠ 0 then (0, 0, (meantR ((p.drop (i + 1)).take (Lib.indexByte (p.drop (i + 1)) 59).toNat)).2)
 else ((meantR ((p.drop (i + 1)).take (Lib.indexByte (p.drop (i + 1)) 59).toNat)).1, (i : Int) + 1 + Lib.indexByte (p.drop (i + 1)) 59 + 1, 0)
theorem expand_w (p : LB) (i : Nat) (h38 : p[i]? = some 38) (hp : p.length ≤ 1073741824) : Fr_Expand p (i : Int) = some (expR p i) := by
 obtain ⟨hi, hg⟩ := List.getElem?_eq_some_iff.1 h38
 unfold Fr_Expand expR
 simp only [letJ]
 rw [dF (show ¬ (i : Int) < 0 by omega), dF (show ¬ (p.length : Int) ≤ (i : Int) by omega), show (false || false) = false from rfl, cF, idx_some hi, bS, hg, show ((((38 : UInt8).toNat : Int)) != 38) = false from rfl, cF, slc_drop (Nat.le_of_lt hi), bS]
 unfold L_bIndexByte
 rw [bS, show (59 : Int).toNat.toUInt8 = 59 from rfl]
 have hix : Lib.indexByte (p.drop i) 59 = if Lib.indexByte (p.drop (i + 1)) 59 == -1 then -1 else Lib.indexByte (p.drop (i + 1)) 59 + 1 := by
  rw [List.drop_eq_getElem_cons hi, hg]; rfl
 have hge := Lib.indexByte_ge (p.drop (i + 1)) 59
 by_cases hn : Lib.indexByte (p.drop (i + 1)) 59 < 0
 ·have e : Lib.indexByte (p.drop (i + 1)) 59 = -1 := by omega
  rw [hix, e]; rfl
 ·obtain ⟨d, e1, e2⟩ := ixB_nat _ _ hn
  rw [List.length_drop] at e2
  have e : (Lib.indexByte (p.drop (i + 1)) 59 == -1) = false := by rw [beq_eq_false_iff_ne]; omega
  rw [e, if_neg (by simp), e1] at hix
  rw [hix, dF (by omega), cF, w64 (x := (i : Int) + 1) (by omega) (by omega), w64 (x := (i : Int) + ((d : Int) + 1)) (by omega) (by omega), if_neg hn, e1, Int.toNat_natCast]
  have hsl : slc p ((i : Int) + 1) ((i : Int) + ((d : Int) + 1)) = some ((p.drop (i + 1)).take d) := by
   rw [show (i : Int) + 1 = ((i + 1 : Nat) : Int) by omega, show (i : Int) + ((d : Int) + 1) = ((i + 1 + d : Nat) : Int) by omega, slc_seg (by omega) (by omega), show i + 1 + d - (i + 1) = d by omega]
  rw [hsl, bS, meant_eq _ (by rw [List.length_take, List.length_drop]; omega), bS]
  by_cases h2 : (meantR ((p.drop (i + 1)).take d)).2 = 0
  ·rw [show ((meantR ((p.drop (i + 1)).take d)).2 != 0) = false by simpa using h2, cF, w64 (by omega) (by omega), if_neg (by simpa using h2)]
   congr 3; omega
  ·rw [show ((meantR ((p.drop (i + 1)).take d)).2 != 0) = true by simpa using h2, cT, if_pos h2]
theorem expand_r (p : LB) (i : Nat) (h38 : p[i]? = some 38) (hp : p.length ≤ 1073741824) : Fb_Expand p (i : Int) = some (expR p i) := by
 obtain ⟨hi, hg⟩ := List.getElem?_eq_some_iff.1 h38
 have hge := Lib.indexByte_ge (p.drop (i + 1)) 59
 unfold Fb_Expand
 simp only [letJ]
 rw [w64 (x := (i : Int) + 1) (by omega) (by omega), show (i : Int) + 1 = ((i + 1 : Nat) : Int) by omega, word_eq p (i + 1) hi hp, bS]
 have tail : (cond (decide ((p.length : Int) ≤ ((i + 1 : Nat) : Int))) (some ((0 : Int), (0 : Int), (22 : Int))) (some ((0 : Int), (0 : Int), (22 : Int)))) = some ((0 : Int), (0 : Int), (22 : Int)) := by cases decide ((p.length : Int) ≤ ((i + 1 : Nat) : Int)) <;> rfl
 have hw : ∀ (w : LB) (v : Int) (n : Nat), (59 : UInt8) ∉ w → n = w.length + 1 → hereP p (i + 1) (w ++ [59]) = true → meantR w = (v, 0) → expR p i = (v, ((i + 1 + n : Nat) : Int), 0) := by
  intro w v n h59 hn h hm
  obtain ⟨d, h1, h2⟩ := (semi _ w h59).1 h
  have hdl : d = w.length := by
   have h3 : d < (p.drop (i + 1)).length := (List.getElem?_eq_some_iff.1 (Lib.indexByte_some h1).1).1
   rw [← h2, List.length_take]; omega
  unfold expR
  rw [h1, if_neg (by omega), Int.toNat_natCast, h2, hm, if_neg (by simp)]
  simp only [Prod.mk.injEq, true_and, and_true]
  omega
 unfold wordR
 by_cases c1 : hereP p (i + 1) [108, 116, 59] = true
 ·rw [if_pos c1, dT (show (0 : Int) < ((60 : Int), ((i + 1 + 3 : Nat) : Int)).2 by simp only; omega), cT, hw [108, 116] 60 3 (by decide) rfl c1 rfl]
 rw [if_neg c1]
 by_cases c2 : hereP p (i + 1) [103, 116, 59] = true
 ·rw [if_pos c2, dT (show (0 : Int) < ((62 : Int), ((i + 1 + 3 : Nat) : Int)).2 by simp only; omega), cT, hw [103, 116] 62 3 (by decide) rfl c2 rfl]
 rw [if_neg c2]
 by_cases c3 : hereP p (i + 1) [97, 109, 112, 59] = true
 ·rw [if_pos c3, dT (show (0 : Int) < ((38 : Int), ((i + 1 + 4 : Nat) : Int)).2 by simp only; omega), cT, hw [97, 109, 112] 38 4 (by decide) rfl c3 rfl]
 rw [if_neg c3]
 by_cases c4 : hereP p (i + 1) [97, 112, 111, 115, 59] = true
 ·rw [if_pos c4, dT (show (0 : Int) < ((39 : Int), ((i + 1 + 5 : Nat) : Int)).2 by simp only; omega), cT, hw [97, 112, 111, 115] 39 5 (by decide) rfl c4 rfl]
 rw [if_neg c4]
 by_cases c5 : hereP p (i + 1) [113, 117, 111, 116, 59] = true
 ·rw [if_pos c5, dT (show (0 : Int) < ((34 : Int), ((i + 1 + 5 : Nat) : Int)).2 by simp only; omega), cT, hw [113, 117, 111, 116] 34 5 (by decide) rfl c5 rfl]
 rw [if_neg c5, show (decide ((0 : Int) < ((0 : Int), (0 : Int)).2)) = false from rfl, cF]
 have nq : ∀ d : Nat, Lib.indexByte (p.drop (i + 1)) 59 = (d : Int) → meantR ((p.drop (i + 1)).take d) = numQ ((p.drop (i + 1)).take d) := by
  intro d h
  have b1 := semi_b p (i + 1) [108, 116] (by decide) h
  have b2 := semi_b p (i + 1) [103, 116] (by decide) h
  have b3 := semi_b p (i + 1) [97, 109, 112] (by decide) h
  have b4 := semi_b p (i + 1) [97, 112, 111, 115] (by decide) h
  have b5 := semi_b p (i + 1) [113, 117, 111, 116] (by decide) h
  unfold meantR
  rw [← b1, ← b2, ← b3, ← b4, ← b5, if_neg (by exact c1), if_neg (by exact c2), if_neg (by exact c3), if_neg (by exact c4), if_neg (by exact c5)]
 have e22 : numQ ((p.drop (i + 1)).take (Lib.indexByte (p.drop (i + 1)) 59).toNat) = (0, 22) → expR p i = (0, 0, 22) := by
  intro h
  unfold expR
  by_cases hn : Lib.indexByte (p.drop (i + 1)) 59 < 0
  ·rw [if_pos hn]
  ·obtain ⟨d, e1, e2⟩ := ixB_nat _ _ hn
   rw [e1, Int.toNat_natCast] at h
   rw [if_neg hn, e1, Int.toNat_natCast, nq d e1, h, if_pos (by simp)]
 by_cases h1 : i + 1 < p.length
 ·rw [dF (by omega), cF, idx_some h1, bS]
  by_cases h35 : p[i + 1] = 35
  ·rw [h35, show ((((35 : UInt8).toNat : Int)) != 35) = false from rfl, cF, w64 (x := ((i + 1 : Nat) : Int) + 1) (by omega) (by omega), show ((i + 1 : Nat) : Int) + 1 = ((i + 2 : Nat) : Int) by omega, w64 (x := ((i + 2 : Nat) : Int) + 1) (by omega) (by omega), show ((i + 2 : Nat) : Int) + 1 = ((i + 3 : Nat) : Int) by omega]
   have hD : p.drop (i + 1) = 35 :: p.drop (i + 2) := by rw [List.drop_eq_getElem_cons h1, h35]
   have hix : Lib.indexByte (p.drop (i + 1)) 59 = if Lib.indexByte (p.drop (i + 2)) 59 == -1 then -1 else Lib.indexByte (p.drop (i + 2)) 59 + 1 := by
    rw [hD]; rfl
   have hge2 := Lib.indexByte_ge (p.drop (i + 2)) 59
   have k10 : (p[i + 2]? ≠ some 120) → numR p (i + 2) 10 = expR p i := by
    intro h120
    by_cases hn : Lib.indexByte (p.drop (i + 2)) 59 < 0
    ·rw [num_none p _ _ hn]
     have e : Lib.indexByte (p.drop (i + 2)) 59 = -1 := by omega
     rw [e] at hix
     unfold expR
     rw [hix]; rfl
    ·obtain ⟨d, e1, e2⟩ := ixB_nat _ _ hn
     rw [show (Lib.indexByte (p.drop (i + 2)) 59 == -1) = false by rw [beq_eq_false_iff_ne]; omega, if_neg (by simp), e1, show (d : Int) + 1 = ((d + 1 : Nat) : Int) by omega] at hix
     rw [num_eq p (i + 2) d 10 e1]
     have hq : numQ ((p.drop (i + 1)).take (d + 1)) = numM ((p.drop (i + 2)).take d) 10 := by
      rw [hD, List.take_succ_cons]
      have hx : ∀ a', (p.drop (i + 2)).take d ≠ 120 :: a' := by
       intro a' h
       have h0 : ((p.drop (i + 2)).take d)[0]? = some 120 := by rw [h]; rfl
       rw [List.getElem?_take] at h0
       split at h0
       ·rw [List.getElem?_drop, Nat.add_zero] at h0; exact h120 h0
       ·cases h0
      unfold numQ
      split
      ·rename_i e; injection e with _ e; exact absurd e (hx _)
      ·rename_i e; injection e with _ e; rw [e]
      ·rename_i _ e; exact (e _ rfl).elim
     unfold expR
     rw [hix, if_neg (c := ((d + 1 : Nat) : Int) < 0) (by omega), Int.toNat_natCast, nq _ hix, hq]
     split
     ·rfl
     ·congr 2; omega
   by_cases h2 : i + 2 < p.length
   ·rw [dT (by omega), cT, idx_some h2, bS]
    by_cases h120 : p[i + 2] = 120
    ·rw [h120, show ((((120 : UInt8).toNat : Int)) == 120) = true from rfl, cT]
     refine (numT p (i + 3) 16 (.inr rfl) (by omega) hp).trans ?_
     congr 1
     have hD2 : p.drop (i + 2) = 120 :: p.drop (i + 3) := by rw [List.drop_eq_getElem_cons h2, h120]
     have hix2 : Lib.indexByte (p.drop (i + 2)) 59 = if Lib.indexByte (p.drop (i + 3)) 59 == -1 then -1 else Lib.indexByte (p.drop (i + 3)) 59 + 1 := by
      rw [hD2]; rfl
     have hge3 := Lib.indexByte_ge (p.drop (i + 3)) 59
     by_cases hn : Lib.indexByte (p.drop (i + 3)) 59 < 0
     ·rw [num_none p _ _ hn]
      have e : Lib.indexByte (p.drop (i + 3)) 59 = -1 := by omega
      rw [hix2, e] at hix
      unfold expR
      rw [hix]; rfl
     ·obtain ⟨d, e1, e2⟩ := ixB_nat _ _ hn
      rw [show (Lib.indexByte (p.drop (i + 3)) 59 == -1) = false by rw [beq_eq_false_iff_ne]; omega, if_neg (by simp), e1] at hix2
      rw [show (Lib.indexByte (p.drop (i + 2)) 59 == -1) = false by rw [beq_eq_false_iff_ne]; omega, if_neg (by simp), hix2, show (d : Int) + 1 + 1 = ((d + 2 : Nat) : Int) by omega] at hix
      rw [num_eq p (i + 3) d 16 e1]
      have hq : numQ ((p.drop (i + 1)).take (d + 2)) = numM ((p.drop (i + 3)).take d) 16 := by
       rw [hD, List.take_succ_cons, hD2, List.take_succ_cons]; rfl
      unfold expR
      rw [hix, if_neg (c := ((d + 2 : Nat) : Int) < 0) (by omega), Int.toNat_natCast, nq _ hix, hq]
      split
      ·rfl
      ·congr 2; omega
    ·have : ((p[i + 2].toNat : Int) == 120) = false := by
      rw [beq_eq_false_iff_ne]; intro h; exact h120 (UInt8.toNat_inj.1 (by show _ = 120; omega))
     rw [this, cF]
     refine (numT p (i + 2) 10 (.inl rfl) (by omega) hp).trans ?_
     rw [k10 (by rw [List.getElem?_eq_getElem h2]; simpa using h120)]
   ·rw [dF (by omega), cF, cF]
    refine (numT p (i + 2) 10 (.inl rfl) (by omega) hp).trans ?_
    rw [k10 (by rw [List.getElem?_eq_none (by omega)]; simp)]
  ·have : ((p[i + 1].toNat : Int) != 35) = true := by
    rw [bne_iff_ne]; intro h; exact h35 (UInt8.toNat_inj.1 (by show _ = 35; omega))
   rw [this, cT, e22 (by
    rw [List.drop_eq_getElem_cons h1]
    cases (Lib.indexByte (p[i + 1] :: p.drop (i + 1 + 1)) 59).toNat with
    | zero => rfl
    | succ n =>
     rw [List.take_succ_cons]
     unfold numQ
     split
     ·rename_i e; injection e with e _; exact absurd e h35
     ·rename_i e; injection e with e _; exact absurd e h35
     ·rfl)]
 ·rw [dT (by omega), cT, cT, e22 (by rw [List.drop_eq_nil_of_le (by omega)]; rfl)]
theorem expand_rng (p : LB) (i : Nat) (h38 : p[i]? = some 38) (hp : p.length ≤ 1073741824) : (expR p i).2.2 = 0 → ((charP (expR p i).1 = true) ∧ ∃ m : Nat, (expR p i).2.1 = (m : Int) ∧ i < m ∧ m ≤ p.length) := by
 intro h0
 unfold expR at h0 ⊢
 have hge := Lib.indexByte_ge (p.drop (i + 1)) 59
 by_cases hn : Lib.indexByte (p.drop (i + 1)) 59 < 0
 ·rw [if_pos hn] at h0; cases h0
 ·obtain ⟨d, e1, e2⟩ := ixB_nat _ _ hn
  rw [List.length_drop] at e2
  rw [if_neg hn, e1, Int.toNat_natCast] at h0 ⊢
  by_cases h2 : (meantR ((p.drop (i + 1)).take d)).2 = 0
  ·rw [if_neg (by simpa using h2)]
   refine ⟨?_, i + 1 + d + 1, by simp only; omega, by omega, by omega⟩
   dsimp only
   generalize (p.drop (i + 1)).take d = q at h2
   have hM : ∀ (a : LB) (base : Int), (numM a base).2 = 0 → charP (numM a base).1 = true := by
    intro a base h
    unfold numM at h ⊢
    split
    ·rename_i hc; rw [if_pos hc] at h; cases h
    ·rename_i hc
     rw [if_neg hc] at h
     split
     ·rename_i hd; exact hd
     ·rename_i hd; rw [if_neg hd] at h; cases h
   have hQ : (numQ q).2 = 0 → charP (numQ q).1 = true := by
    intro h
    unfold numQ at h ⊢
    split at h
    ·exact hM _ _ h
    ·exact hM _ _ h
    ·cases h
   unfold meantR at h2 ⊢
   split
   ·decide
   ·rename_i c; rw [if_neg c] at h2
    split
    ·decide
    ·rename_i c; rw [if_neg c] at h2
     split
     ·decide
     ·rename_i c; rw [if_neg c] at h2
      split
      ·decide
      ·rename_i c; rw [if_neg c] at h2
       split
       ·decide
       ·rename_i c; rw [if_neg c] at h2
        exact hQ h2
  ·rw [if_pos h2] at h0
   exact absurd h0 h2
theorem decN_hi {n b0 b1 b2 b3 : Nat} (h : 128 ≤ b0) : 128 ≤ (decodeN n b0 b1 b2 b3).1 := by
 unfold decodeN
 repeat' split
 all_goals first | omega | (simp only; omega)
theorem rune_lo (p : LB) (x : Nat) (hx : x < p.length) (c : UInt8) (hc : c.toNat < 128) : (decodeL (p.drop x)).1 = c.toNat ↔ p[x] = c := by
 have hg : p.getD x 0 = p[x] := by simp [List.getD, hx]
 obtain ⟨_, _, d3, _⟩ := dec_bytes p x hx
 constructor
 ·intro h
  by_cases hb : (p.getD x 0).toNat < 128
  ·rw [d3 hb, hg] at h
   exact UInt8.toNat_inj.1 h
  ·have := Lib.decodeL_N (p.drop x)
   rw [this] at h
   have hh := decN_hi (n := (p.drop x).length) (b0 := ((p.drop x).getD 0 0).toNat) (b1 := ((p.drop x).getD 1 0).toNat) (b2 := ((p.drop x).getD 2 0).toNat) (b3 := ((p.drop x).getD 3 0).toNat) (by rw [getD_drop, Nat.add_zero]; omega)
   omega
 ·intro h
  rw [d3 (by rw [hg, h]; exact hc), hg, h]
theorem rune_is (p : LB) (x : Nat) (hx : x < p.length) (c : UInt8) (hc : c.toNat < 128) : (((decodeL (p.drop x)).1 : Int) == (c.toNat : Int)) = (p[x] == c) := by
 rw [Bool.eq_iff_iff, beq_iff_eq, beq_iff_eq, ← rune_lo p x hx c hc]; omega
theorem hereP_nil (b : LB) (i : Nat) : hereP b i [] = true := by unfold hereP; cases b.drop i <;> rfl
theorem hereP_cons (b : LB) (i : Nat) (c : UInt8) (w : LB) : hereP b i (c :: w) = ((b[i]? == some c) && hereP b (i + 1) w) := by
 unfold hereP
 by_cases hi : i < b.length
 ·rw [List.drop_eq_getElem_cons hi, List.getElem?_eq_getElem hi]
  simp only [List.isPrefixOf]
  have : (c == b[i]) = (some b[i] == some c) := by rw [Bool.eq_iff_iff, beq_iff_eq, beq_iff_eq, Option.some.injEq]; exact ⟨fun h => h.symm, fun h => h.symm⟩
  rw [this]
 ·rw [List.drop_eq_nil_of_le (by omega), List.getElem?_eq_none (by omega)]; rfl
theorem byte_is (c : UInt8) (n : Nat) (hn : n < 256) : ((c.toNat : Int) == (n : Int)) = (c == UInt8.ofNat n) := by
 rw [u8_beq c n hn]
 rw [Bool.eq_iff_iff, decide_eq_true_eq, beq_iff_eq]
theorem dec_max (p : LB) (x : Nat) : (decodeL (p.drop x)).1 ≤ 2097151 := by
 rw [Lib.decodeL_N]
 unfold decodeN
 repeat' split
 all_goals first | omega | (simp only; omega)
theorem read_two (p : LB) (v : Bool) (hp : p.length ≤ 1073741824) : Fb_Read p v = Fr_read p v := by
 unfold Fb_Read Fr_read
 simp only [letJ]
 have := iter_congr (b1 := Fb_Read_l0 p v) (b2 := Fr_read_l0 p v) (fun x => ∃ j : Nat, x.2 = (j : Int) ∧ j ≤ p.length) (fun rec1 rec2 x ⟨k, hx, hk⟩ hrec => by
  obtain ⟨acc, kk⟩ := x
  dsimp only at hx
  subst hx
  unfold Fb_Read_l0 Fr_read_l0
  dsimp only
  by_cases hl : k < p.length
  ·obtain ⟨d1, d2, d3, d4⟩ := dec_bytes p k hl
   have dm := dec_max p k
   rw [dT (show (k : Int) < (p.length : Int) by omega), cT, cT, F_read1 p k hl hp, F_next p k hl hp, bS, bS]
   cases hb : badR (decodeL (p.drop k)) with
   | true => rfl
   | false =>
    simp only [Bool.false_eq_true, if_false, F_char1, bS, letJ]
    rw [show (((decodeL (p.drop k)).2 : Int) == (0 : Int)) = false by rw [beq_eq_false_iff_ne]; omega, cF]
    cases hc : charP ((decodeL (p.drop k)).1 : Int) with
    | false => rfl
    | true =>
     simp only [Bool.not_true, cF, if_true, bne_self_eq_false]
     have hgo : IntKind.wrap .i64 ((k : Int) + ((decodeL (p.drop k)).2 : Int)) = ((k + (decodeL (p.drop k)).2 : Nat) : Int) := by rw [w64 (by omega) (by omega)]; omega
     have r60 := rune_is p k hl 60 (by decide)
     have r93 := rune_is p k hl 93 (by decide)
     have r38 := rune_is p k hl 38 (by decide)
     rw [show ((60 : UInt8).toNat : Int) = 60 from rfl] at r60
     rw [show ((93 : UInt8).toNat : Int) = 93 from rfl] at r93
     rw [show ((38 : UInt8).toNat : Int) = 38 from rfl] at r38
     have go : ∀ (r : Int) (m : Nat), m ≤ p.length → -2147483648 ≤ r → r ≤ 2147483647 →
       ((app 1 acc (Utf8.encode (IntKind.wrap .i32 r)).data.toList).bind fun _ => rec1 ((acc ++ (Utf8.encode (IntKind.wrap .i32 r)).data.toList), (m : Int))) =
       ((app 1 acc (Utf8.encode r).data.toList).bind fun _ => rec2 ((acc ++ (Utf8.encode r).data.toList), (m : Int))) := by
      intro r m hm h1 h2
      rw [w32 h1 h2]
      congr 1
      funext _
      exact hrec _ ⟨m, rfl, hm⟩
     have hbar : ∀ (A B : Option ((LB) ⊕ (LB × Int × Int))), A = B →
       (cond (((!v) && ((decodeL (p.drop k)).1 : Int) == (93 : Int)) && (decide ((IntKind.wrap .i64 ((k : Int) + (2 : Int))) < (p.length : Int)))) ((idx p (IntKind.wrap .i64 ((k : Int) + (1 : Int)))).bind fun x68 => cond ((x68.toNat : Int) == (93 : Int)) ((idx p (IntKind.wrap .i64 ((k : Int) + (2 : Int)))).bind fun x72 => cond ((x72.toNat : Int) == (62 : Int)) (some (.inr (([] : LB), (k : Int), (23 : Int)))) A) (cond false (some (.inr (([] : LB), (k : Int), (23 : Int)))) A)) (cond false (cond false (some (.inr (([] : LB), (k : Int), (23 : Int)))) A) (cond false (some (.inr (([] : LB), (k : Int), (23 : Int)))) A))) =
       cond (!v) ((slc p (k : Int) (p.length : Int)).bind fun x95 => (Fy_HasPrefix x95 ([93, 93, 62] : LB)).bind fun x98 => cond x98 (some (.inr (([] : LB), (k : Int), (23 : Int)))) B) (cond false (some (.inr (([] : LB), (k : Int), (23 : Int)))) B) := by
      rintro A _ rfl
      cases v with
      | true => rfl
      | false =>
       rw [Bool.not_false, Bool.true_and, cT, slc_drop (Nat.le_of_lt hl), bS, hasPrefix_eq, bS, r93, w64 (x := (k : Int) + 2) (by omega) (by omega), w64 (x := (k : Int) + 1) (by omega) (by omega)]
       have e : ([93, 93, 62] : LB).isPrefixOf (p.drop k) = hereP p k [93, 93, 62] := rfl
       rw [e, hereP_cons, hereP_cons, hereP_cons, hereP_nil, Bool.and_true, List.getElem?_eq_getElem hl]
       have e2 : ((some p[k] : Option UInt8) == some 93) = (p[k] == 93) := rfl
       rw [e2]
       cases p[k] == 93 with
       | false => rfl
       | true =>
        rw [Bool.true_and, Bool.true_and]
        by_cases h2 : k + 2 < p.length
        ·rw [dT (by omega), cT, show (k : Int) + 1 = ((k + 1 : Nat) : Int) by omega, show (k : Int) + 2 = ((k + 2 : Nat) : Int) by omega, idx_some (by omega), idx_some h2, bS, bS, List.getElem?_eq_getElem (show k + 1 < p.length by omega), List.getElem?_eq_getElem (show k + 1 + 1 < p.length by omega)]
         rw [show (93 : Int) = ((93 : Nat) : Int) from rfl, show (62 : Int) = ((62 : Nat) : Int) from rfl, byte_is _ 93 (by decide), byte_is _ 62 (by decide)]
         show _ = cond ((p[k + 1] == 93) && (p[k + 1 + 1] == 62)) _ _
         show cond (p[k + 1] == 93) (cond (p[k + 1 + 1] == 62) _ _) _ = _
         cases p[k + 1] == 93 <;> rfl
        ·rw [dF (by omega), cF, cF, cF, List.getElem?_eq_none (show p.length ≤ k + 1 + 1 by omega)]
         rw [show ((none : Option UInt8) == some 62) = false from rfl, Bool.and_false, cF]
     rw [r60]
     cases hc60 : p[k] == 60 with
     | true => rfl
     | false =>
      rw [cF, cF]
      refine hbar _ _ ?_
      rw [r38]
      cases h38 : p[k] == 38 with
      | true =>
       have h38' : p[k]? = some 38 := by rw [List.getElem?_eq_getElem hl]; simpa using h38
       rw [cT, cT, expand_r p k h38' hp, expand_w p k h38' hp, bS, bS]
       by_cases h2 : (expR p k).2.2 = 0
       ·rw [show ((expR p k).2.2 != 0) = false by simpa using h2, cF, cF]
        obtain ⟨g1, m, g2, g3, g4⟩ := expand_rng p k h38' hp h2
        rw [g2]
        unfold charP at g1
        have g1 := of_decide_eq_true g1
        exact go _ m g4 (by omega) (by omega)
       ·rw [show ((expR p k).2.2 != 0) = true by simpa using h2, cT, cT]
      | false =>
       rw [cF, cF, hgo]
       cases v && ((((((decodeL (p.drop k)).1 : Int) == (9 : Int)) || (((decodeL (p.drop k)).1 : Int) == (10 : Int))) || (((decodeL (p.drop k)).1 : Int) == (13 : Int)))) with
       | true => rw [cT, cT]; exact go 32 _ d2 (by omega) (by omega)
       | false => rw [cF, cF]; exact go _ _ d2 (by omega) (by omega)
  ·rw [dF (by omega), cF, cF]) FUEL (([] : LB), (0 : Int)) ⟨0, rfl, Nat.zero_le _⟩
 rw [this]
theorem okN_no58 (l : LB) : ∀ n j, l.length ≤ j + n → okN l n j = true → ∀ k, j ≤ k → l[k]? ≠ some 58
 | 0, j, h, _, k, hk => by rw [List.getElem?_eq_none (by omega)]; simp
 | n + 1, j, h, hok, k, hk => by
  by_cases hj : j < l.length
  ·obtain ⟨d1, d2, d3, d4⟩ := dec_bytes l j hj
   simp only [okN, if_pos hj, Bool.and_eq_true, Bool.not_eq_true'] at hok
   by_cases hkw : j + (decodeL (l.drop j)).2 ≤ k
   ·exact okN_no58 l n _ (by omega) hok.2.2.2 k hkw
   ·intro hc
    obtain ⟨hkl, hg⟩ := List.getElem?_eq_some_iff.1 hc
    by_cases he : k = j
    ·subst he
     have := (rune_lo l k hkl 58 (by decide)).2 hg
     rw [this] at hok
     exact absurd hok.2.1 (by decide)
    ·have h4 := d4 (k - j) (by omega) (by omega)
     rw [show j + (k - j) = k by omega, show l.getD k 0 = l[k] by simp [List.getD, hkl], hg] at h4
     exact absurd h4 (by decide)
  ·intro hc
   have := (List.getElem?_eq_some_iff.1 hc).1
   omega
theorem nameP_no58 {l : LB} (h : nameP l = true) : (58 : UInt8) ∉ l := by
 unfold nameP at h
 rw [Bool.and_eq_true] at h
 intro hm
 obtain ⟨k, hk⟩ := List.mem_iff_getElem?.1 hm
 exact okN_no58 l l.length 0 (by omega) h.2 k (Nat.zero_le _) hk
theorem take_mem {l : LB} {c k : Nat} {x : UInt8} (h : l[c]? = some x) (hk : c < k) : x ∈ l.take k := by
 refine List.mem_of_getElem? (i := c) ?_
 rw [List.getElem?_take_of_lt hk]; exact h
theorem spl_step (x : LB) (k : Nat) (hk : k < x.length) (hx : x.length ≤ 1073741824) (rec) :
  Fa_Split_l0 x rec (k : Int) = cond ((x[k] == 58) && (nameP (x.take k) && nameP (x.drop (k + 1)))) (some (.inr (x.take k, x.drop (k + 1), true))) (rec ((k + 1 : Nat) : Int)) := by
 unfold Fa_Split_l0
 simp only [letJ]
 rw [dT (show (k : Int) < (x.length : Int) by omega), cT, idx_some hk, bS, w64 (x := (k : Int) + 1) (by omega) (by omega), show (k : Int) + 1 = ((k + 1 : Nat) : Int) by omega, slc_take0 (Nat.le_of_lt hk), slc_drop hk]
 simp only [bS, F_name1]
 rw [show (58 : Int) = ((58 : Nat) : Int) from rfl, byte_is _ 58 (by decide)]
 show cond (x[k] == 58) _ _ = _
 cases x[k] == 58 with
 | false => rfl
 | true => cases nameP (x.take k) with
  | false => rfl
  | true => cases nameP (x.drop (k + 1)) <;> rfl
theorem spl_loop (x : LB) (hx : x.length ≤ 1073741824) : iter (Fa_Split_l0 x) FUEL (0 : Int) =
  some (if 0 ≤ Lib.indexByte x 58 ∧ (nameP (x.take (Lib.indexByte x 58).toNat) && nameP (x.drop ((Lib.indexByte x 58).toNat + 1))) = true then .inr (x.take (Lib.indexByte x 58).toNat, x.drop ((Lib.indexByte x 58).toNat + 1), true) else .inl ()) := by
 have hend : ∀ rec, Fa_Split_l0 x rec (x.length : Int) = some (.inl ()) := fun rec => by
  unfold Fa_Split_l0
  rw [dF (by omega), cF]
 by_cases hn : Lib.indexByte x 58 < 0
 ·have hno := Lib.indexByte_none (l := x) (c := 58) (by have := Lib.indexByte_ge x 58; omega)
  rw [if_neg (fun h => by omega)]
  obtain ⟨o, h, ho⟩ := iter_dec (b := Fa_Split_l0 x) (fun y => x.length - y.toNat) (fun y => ∃ k : Nat, y = (k : Int) ∧ k ≤ x.length) (fun o => o = .inl ()) (by
   rintro _ ⟨k, rfl, g⟩
   by_cases hk : k < x.length
   ·refine .inl ⟨((k + 1 : Nat) : Int), fun rec => ?_, ⟨_, rfl, by omega⟩, by rw [Int.toNat_natCast, Int.toNat_natCast]; omega⟩
    have : (x[k] == 58) = false := by
     rw [beq_eq_false_iff_ne]; intro h; exact hno k (by rw [List.getElem?_eq_getElem hk, h])
    rw [spl_step x k hk hx, this, Bool.false_and, cF]
   ·have : k = x.length := by omega
    subst this
    exact .inr ⟨_, hend, rfl⟩) FUEL (0 : Int) ⟨0, rfl, Nat.zero_le _⟩ (by unfold FUEL; omega)
  rw [h, ho]
 ·obtain ⟨c, e1, e2⟩ := ixB_nat _ _ hn
  obtain ⟨g1, g2⟩ := Lib.indexByte_some e1
  rw [e1, Int.toNat_natCast]
  cases hP : nameP (x.take c) && nameP (x.drop (c + 1)) with
  | true =>
   rw [if_pos ⟨by omega, rfl⟩]
   obtain ⟨o, h, ho⟩ := iter_dec (b := Fa_Split_l0 x) (fun y => x.length - y.toNat) (fun y => ∃ k : Nat, y = (k : Int) ∧ k ≤ c) (fun o => o = .inr (x.take c, x.drop (c + 1), true)) (by
    rintro _ ⟨k, rfl, g⟩
    by_cases hk : k = c
    ·subst hk
     have : (x[k] == 58) = true := by
      rw [List.getElem?_eq_getElem e2] at g1; simpa using g1
     exact .inr ⟨_, fun rec => by rw [spl_step x k e2 hx, this, hP, Bool.true_and, cT], rfl⟩
    ·refine .inl ⟨((k + 1 : Nat) : Int), fun rec => ?_, ⟨_, rfl, by omega⟩, by rw [Int.toNat_natCast, Int.toNat_natCast]; omega⟩
     have hkl : k < x.length := by omega
     have : (x[k] == 58) = false := by
      rw [beq_eq_false_iff_ne]; intro h; exact g2 k (by omega) (by rw [List.getElem?_eq_getElem hkl, h])
     rw [spl_step x k hkl hx, this, Bool.false_and, cF]) FUEL (0 : Int) ⟨0, rfl, Nat.zero_le _⟩ (by unfold FUEL; omega)
   rw [h, ho]
  | false =>
   rw [if_neg (fun h => by cases h.2)]
   obtain ⟨o, h, ho⟩ := iter_dec (b := Fa_Split_l0 x) (fun y => x.length - y.toNat) (fun y => ∃ k : Nat, y = (k : Int) ∧ k ≤ x.length) (fun o => o = .inl ()) (by
    rintro _ ⟨k, rfl, g⟩
    by_cases hk : k < x.length
    ·refine .inl ⟨((k + 1 : Nat) : Int), fun rec => ?_, ⟨_, rfl, by omega⟩, by rw [Int.toNat_natCast, Int.toNat_natCast]; omega⟩
     rw [spl_step x k hk hx]
     rcases Nat.lt_trichotomy k c with hc | hc | hc
     ·have : (x[k] == 58) = false := by
       rw [beq_eq_false_iff_ne]; intro h; exact g2 k hc (by rw [List.getElem?_eq_getElem hk, h])
      rw [this, Bool.false_and, cF]
     ·subst hc
      rw [hP, Bool.and_false, cF]
     ·have : nameP (x.take k) = false := by
       cases hh : nameP (x.take k) with
       | false => rfl
       | true => exact absurd (take_mem g1 hc) (nameP_no58 hh)
      rw [this, Bool.false_and, Bool.and_false, cF]
    ·have : k = x.length := by omega
     subst this
     exact .inr ⟨_, hend, rfl⟩) FUEL (0 : Int) ⟨0, rfl, Nat.zero_le _⟩ (by unfold FUEL; omega)
   rw [h, ho]
theorem split_two (x : LB) (hx : x.length ≤ 1073741824) : ∃ r q, Fh_Split x = some r ∧ Fa_Split x = some q ∧ r.2.2 = q.2.2 := by
 unfold Fh_Split Fa_Split L_Cut Lib.cut
 rw [if_pos (by omega), bS, F_name1, bS]
 simp only [letJ, F_nameC, bS]
 rw [index_one, spl_loop x hx, bS]
 by_cases hn : 0 ≤ Lib.indexByte x 58
 ·obtain ⟨c, e1⟩ : ∃ c : Nat, Lib.indexByte x 58 = (c : Int) := ⟨(Lib.indexByte x 58).toNat, by omega⟩
  obtain ⟨g1, g2⟩ := Lib.indexByte_some e1
  have hno : nameP x = false := by
   cases hh : nameP x with
   | false => rfl
   | true => exact absurd (List.mem_of_getElem? g1) (nameP_no58 hh)
  rw [if_pos hn, hno, e1, Int.toNat_natCast]
  simp only [Bool.not_true, cF, cT, List.length_cons, List.length_nil, Nat.zero_add]
  cases nameP (x.take c) with
  | false => rw [if_neg (fun h => by cases h.2)]; exact ⟨_, _, rfl, rfl, rfl⟩
  | true => cases nameP (x.drop (c + 1)) with
   | false => rw [if_neg (fun h => by cases h.2)]; exact ⟨_, _, rfl, rfl, rfl⟩
   | true => rw [if_pos ⟨by omega, rfl⟩]; exact ⟨_, _, rfl, rfl, rfl⟩
 ·rw [if_neg hn, if_neg (fun h => hn h.1)]
  cases nameP x <;> exact ⟨_, _, rfl, rfl, rfl⟩
theorem okT_at {U : LB} {k : Nat} {c : UInt8} (h : OkT U) (hk : U[k]? = some c) (hc : c.toNat < 128) : OkT (U.drop k) ∧ OkT (U.drop (k + 1)) := by
 obtain ⟨hl, hg⟩ := List.getElem?_eq_some_iff.1 hk
 have hd : U.drop k = c :: U.drop (k + 1) := by rw [List.drop_eq_getElem_cons hl, hg]
 have := (okT_split hc h (U.take k) (by rw [← hd, List.take_append_drop])).2
 exact ⟨by rw [hd]; exact this, okT_tail hc this⟩
theorem dec4 {l : LB} (hl : l ≠ []) (h : badR (decodeL l) = false) : decodeL (l.take 4) = decodeL l := by
 have hw : (decodeL l).2 ≤ 4 := by
  rw [Lib.decodeL_N]
  exact (decN_facts _ _ _ _ _).2.2.2.2
 have h1 := dec_take hl h
 have hne : l.take (decodeL l).2 ≠ [] := by
  have := dec_pos hl
  intro e
  have := congrArg List.length e
  rw [List.length_take, List.length_nil] at this; omega
 have h2 := dec_app (y := (l.take 4).drop (decodeL l).2) hne (by rw [h1]; exact h)
 have h3 : l.take (decodeL l).2 ++ (l.take 4).drop (decodeL l).2 = l.take 4 := by
  have := List.take_append_drop (decodeL l).2 (l.take 4)
  rwa [List.take_take, Nat.min_eq_left hw] at this
 rw [h3, h1] at h2
 exact h2
theorem written_step (b : LB) (i k : Nat) (hk : k < b.length) (hb : b.length ≤ 1073741824) (hok : OkT (b.drop k)) (rec) :
  Fc_written_l0 b (i : Int) rec (k : Int) = if ((decodeL (b.drop k)).1 : Int) ≠ 58 ∧ partP ((decodeL (b.drop k)).1 : Int) = false then some (.inl (k : Int)) else if stopN i k ((decodeL (b.drop k)).1 : Int) = true then some (.inr ([], 0, 23)) else rec ((k + (decodeL (b.drop k)).2 : Nat) : Int) := by
 have hne : b.drop k ≠ [] := drop_nn hk
 obtain ⟨q1, q2, q3⟩ := okT_inv hok hne
 obtain ⟨d1, d2, _⟩ := dec_bytes b k hk
 unfold Fc_written_l0
 simp only [letJ]
 rw [dT (show (k : Int) < (b.length : Int) by omega), cT, w64 (x := (k : Int) + 4) (by omega) (by omega)]
 have hsl : slc b (k : Int) (if (k : Int) + 4 < (b.length : Int) then (k : Int) + 4 else (b.length : Int)) = some ((b.drop k).take 4) := by
  split
  ·rw [show (k : Int) + 4 = ((k + 4 : Nat) : Int) by omega, slc_seg (by omega) (by omega), show k + 4 - k = 4 by omega]
  ·rw [slc_drop (Nat.le_of_lt hk), List.take_of_length_le (by rw [List.length_drop]; omega)]
 have h4l : 0 < ((b.drop k).take 4).length := by rw [List.length_take, List.length_drop]; omega
 have h4m : ((b.drop k).take 4).length ≤ 1073741824 := by rw [List.length_take, List.length_drop]; omega
 rw [hsl, bS, show (0 : Int) = ((0 : Nat) : Int) from rfl, F_read1 _ 0 h4l h4m, List.drop_zero, dec4 hne q1, q1, bS]
 simp only [Bool.false_eq_true, if_false, F_part1, F_start1, bS]
 have hz : (((decodeL (b.drop k)).2 : Int) == ((0 : Nat) : Int)) = false := by rw [beq_eq_false_iff_ne]; omega
 have hgo : IntKind.wrap .i64 ((k : Int) + ((decodeL (b.drop k)).2 : Int)) = ((k + (decodeL (b.drop k)).2 : Nat) : Int) := by rw [w64 (by omega) (by omega)]; omega
 rw [hz, cF, hgo]
 unfold stopN
 by_cases h58 : ((decodeL (b.drop k)).1 : Int) = 58
 ·have e : (((decodeL (b.drop k)).1 : Int) != 58) = false := by simpa using h58
  rw [e, if_neg (fun h => h.1 h58), Bool.false_and, if_neg (by simp), Bool.and_false]; rfl
 ·have e : (((decodeL (b.drop k)).1 : Int) != 58) = true := by simpa using h58
  rw [e, Bool.true_and, Bool.and_true]
  cases partP ((decodeL (b.drop k)).1 : Int) with
  | false => rw [if_pos ⟨h58, rfl⟩]; rfl
  | true =>
   rw [if_neg (fun h => by cases h.2)]
   cases ((k : Int) == (i : Int)) with
   | false => rfl
   | true => cases startP ((decodeL (b.drop k)).1 : Int) <;> rfl
theorem written_iter (b : LB) (i : Nat) (hi : i ≤ b.length) (hb : b.length ≤ 1073741824) (hok : OkT (b.drop i)) : ∃ (o : Int) (q : Int ⊕ (LB × Int × Int)), iter (Fs_name_l0 ⟨b, (i : Int)⟩) FUEL (i : Int) = some o ∧ iter (Fc_written_l0 b (i : Int)) FUEL (i : Int) = some q ∧
  ∃ j : Nat, o = (j : Int) ∧ i ≤ j ∧ j ≤ b.length ∧ OkT (b.drop j) ∧ (q = .inl (j : Int) ∨ (q = .inr ([], 0, 23) ∧ j = i)) := by
 refine iter_two (b := Fs_name_l0 ⟨b, (i : Int)⟩) (c := Fc_written_l0 b (i : Int)) (fun x => b.length - x.toNat) (fun x y => ∃ k : Nat, x = (k : Int) ∧ y = (k : Int) ∧ i ≤ k ∧ k ≤ b.length ∧ OkT (b.drop k)) _ ?_ FUEL FUEL (i : Int) (i : Int) ⟨i, rfl, rfl, Nat.le_refl _, hi, hok⟩ (by unfold FUEL; omega) (by unfold FUEL; omega)
 rintro _ _ ⟨k, rfl, rfl, g1, g2, g3⟩
 by_cases hk : k < b.length
 ·obtain ⟨d1, d2, _⟩ := dec_bytes b k hk
  have q3 := (okT_inv g3 (drop_nn hk)).2.2
  rw [List.drop_drop] at q3
  cases hs : stopN i k ((decodeL (b.drop k)).1 : Int) with
  | false =>
   refine .inl ⟨_, ((k + (decodeL (b.drop k)).2 : Nat) : Int), fun rec => by rw [name_step b i k hk hb, hs, cF], fun rec => ?_, ⟨_, rfl, rfl, by omega, d2, q3⟩, by rw [Int.toNat_natCast, Int.toNat_natCast]; omega⟩
   rw [written_step b i k hk hb g3, hs, if_neg, if_neg (by simp)]
   rintro ⟨h1, h2⟩
   unfold stopN at hs
   rw [h2, show (((decodeL (b.drop k)).1 : Int) != 58) = true by simpa using h1] at hs
   cases hs
  | true =>
   by_cases hp : ((decodeL (b.drop k)).1 : Int) ≠ 58 ∧ partP ((decodeL (b.drop k)).1 : Int) = false
   ·exact .inr ⟨_, _, fun rec => by rw [name_step b i k hk hb, hs, cT], fun rec => by rw [written_step b i k hk hb g3, if_pos hp], k, rfl, g1, g2, g3, .inl rfl⟩
   ·refine .inr ⟨_, _, fun rec => by rw [name_step b i k hk hb, hs, cT], fun rec => by rw [written_step b i k hk hb g3, if_neg hp, hs, if_pos rfl], k, rfl, g1, g2, g3, .inr ⟨rfl, ?_⟩⟩
    unfold stopN at hs
    simp only [Bool.and_eq_true, bne_iff_ne, Bool.or_eq_true, Bool.not_eq_true', beq_iff_eq] at hs
    obtain ⟨h1, h2 | h2⟩ := hs
    ·exact absurd ⟨h1, h2⟩ hp
    ·omega
 ·have : k = b.length := by omega
  subst this
  exact .inr ⟨_, .inl (b.length : Int), fun rec => name_end b i rec, fun rec => by
   unfold Fc_written_l0
   rw [dF (by omega), cF], _, rfl, g1, g2, g3, .inl rfl⟩
theorem written_two (b : LB) (i : Nat) (hi : i ≤ b.length) (hb : b.length ≤ 1073741824) (hok : OkT (b.drop i)) : ∃ (v : LB) (e : Int) (j : Nat), Fs_name ⟨b, (i : Int)⟩ = some ((v, e), ⟨b, (j : Int)⟩) ∧
  Fc_written b (i : Int) = some (if e = 0 then (v, (j : Int), 0) else ([], 0, e)) ∧ i ≤ j ∧ j ≤ b.length ∧ (e = 0 → i < j ∧ v = (b.drop i).take (j - i) ∧ OkT (b.drop j)) := by
 obtain ⟨o, q, h1, h2, j, rfl, g1, g2, g3, g4⟩ := written_iter b i hi hb hok
 rw [name_eq b i j h1 g1 g2]
 unfold Fc_written
 simp only [letJ]
 rw [h2, bS]
 have hlen : ((b.drop i).take (j - i)).length = j - i := by rw [List.length_take, List.length_drop]; omega
 rcases g4 with rfl | ⟨rfl, rfl⟩
 ·dsimp only
  by_cases hji : j = i
  ·subst hji
   rw [Nat.sub_self, List.take_zero, show ((j : Int) == (j : Int)) = true by simp, cT]
   exact ⟨_, _, j, rfl, rfl, Nat.le_refl _, hi, fun h => by cases h⟩
  ·have hne : (b.drop i).take (j - i) ≠ [] := fun h => by rw [h, List.length_nil] at hlen; omega
   obtain ⟨r, s, e1, e2, e3⟩ := split_two ((b.drop i).take (j - i)) (by rw [hlen]; omega)
   rw [ne_nil_beq hne, cF, e1, bS, show ((j : Int) == (i : Int)) = false by rw [beq_eq_false_iff_ne]; omega, cF, slc_seg g1 g2, bS, e2, bS, ← e3, bS]
   cases r.2.2 with
   | false => exact ⟨_, _, i, rfl, rfl, Nat.le_refl _, hi, fun h => by cases h⟩
   | true => exact ⟨_, _, j, rfl, rfl, g1, g2, fun _ => ⟨by omega, rfl, g3⟩⟩
 ·rw [Nat.sub_self, List.take_zero]
  exact ⟨_, _, j, rfl, rfl, Nat.le_refl _, hi, fun h => by cases h⟩
theorem value_two (b : LB) (i : Nat) (hi : i ≤ b.length) (hb : b.length ≤ 1073741824) : Fc_value b (i : Int) =
  some (if hereP b (sk wsP b i) [61] = true then (if (quo b (sk wsP b (sk wsP b i + 1))).1.2 = 0 then ((quo b (sk wsP b (sk wsP b i + 1))).1.1, (quo b (sk wsP b (sk wsP b i + 1))).2.at_) else ([], -1)) else ([], -1)) := by
 obtain ⟨s1, s2⟩ := sk_le wsP b i hi
 unfold Fc_value
 rw [white_at b i hi hb, bS, stands_at b _ _ s2 hb (by decide), bS]
 cases h61 : hereP b (sk wsP b i) [61] with
 | false => rfl
 | true =>
  have hl := hereP_len h61 s2
  simp only [List.length_cons, List.length_nil, Nat.zero_add] at hl
  obtain ⟨t1, t2⟩ := sk_le wsP b (sk wsP b i + 1) hl
  rw [Bool.not_true, cF, if_pos rfl, w64 (by omega) (by omega), show ((sk wsP b i : Nat) : Int) + 1 = ((sk wsP b i + 1 : Nat) : Int) by omega, white_at b _ hl hb, bS]
  generalize sk wsP b (sk wsP b i + 1) = k at *
  rw [stands_at b _ _ t2 hb (by decide), stands_at b _ _ t2 hb (by decide), bS]
  simp only [letJ, bS]
  have main : k < b.length → (hereP b k [39] = true ∨ hereP b k [34] = true) → ((slc b (k : Int) (IntKind.wrap .i64 ((k : Int) + (1 : Int)))).bind fun x11 =>
    (Fc_Find b (IntKind.wrap .i64 ((k : Int) + (1 : Int))) x11).bind fun x12 =>
   cond (decide (x12 < (0 : Int)))
    (some (([] : LB), (-1 : Int)))
    ((slc b (IntKind.wrap .i64 ((k : Int) + (1 : Int))) x12).bind fun x14 =>
    some (x14, (IntKind.wrap .i64 (x12 + (1 : Int)))))) = some (if (quo b k).1.2 = 0 then ((quo b k).1.1, (quo b k).2.at_) else ([], -1)) := by
   intro hk hq
   have hg : b.getD k 0 = b[k] := by simp [List.getD, hk]
   rw [w64 (x := (k : Int) + 1) (by omega) (by omega), show (k : Int) + 1 = ((k + 1 : Nat) : Int) by omega, slc_seg (Nat.le_succ k) hk, bS, show (b.drop k).take (k + 1 - k) = [b[k]] by rw [show k + 1 - k = 1 by omega, List.drop_eq_getElem_cons hk]; rfl, find_at b (k + 1) _ hk hb (by simp) (by simp), bS, index_one]
   by_cases hn : Lib.indexByte (b.drop (k + 1)) b[k] < 0
   ·have eq : quo b k = (([], 23), ⟨b, (k : Int)⟩) := by unfold quo; rw [hg, if_neg (fun h => by omega)]
    rw [if_pos hn, eq]; rfl
   ·obtain ⟨n, e1, e2⟩ := ixB_nat _ _ hn
    have eq : quo b k = (((b.drop (k + 1)).take n, 0), ⟨b, ((k + (n + 2) : Nat) : Int)⟩) := by unfold quo; rw [hg, e1, Int.toNat_natCast, if_pos ⟨hq, by omega⟩]
    rw [List.length_drop] at e2
    rw [if_neg hn, e1, eq, dF (by omega), cF, show ((k + 1 : Nat) : Int) + (n : Int) = ((k + 1 + n : Nat) : Int) by omega, slc_seg (by omega) (by omega), bS, show k + 1 + n - (k + 1) = n by omega, w64 (by omega) (by omega)]
    simp only [if_true]
    congr 2; omega
  cases h1 : hereP b k [39] with
  | true =>
   have := hereP_len h1 t2
   rw [Bool.not_true, cF, cF]
   exact main (by simp at this; omega) (.inl h1)
  | false =>
   rw [Bool.not_false, cT]
   cases h2 : hereP b k [34] with
   | true =>
    have := hereP_len h2 t2
    rw [Bool.not_true, cF]
    exact main (by simp at this; omega) (.inr h2)
   | false =>
    rw [Bool.not_false, cT]
    have eq : quo b k = (([], 23), ⟨b, (k : Int)⟩) := by unfold quo; rw [if_neg (fun h => by rw [h1, h2] at h; simp at h)]
    rw [eq]; rfl
def lowB (c : UInt8) : UInt8 := if 65 ≤ c.toNat ∧ c.toNat ≤ 90 then c + 32 else c
theorem low_step (l : LB) (k : Nat) (hk : k < l.length) (hl : l.length ≤ 1073741824) (rec) : Fc_small_l0 rec (l, (k : Int)) = rec (l.set k (lowB l[k]), ((k + 1 : Nat) : Int)) := by
 unfold Fc_small_l0
 simp only [letJ]
 rw [dT (show (k : Int) < (l.length : Int) by omega), cT, idx_some hk, w64 (x := (k : Int) + 1) (by omega) (by omega)]
 simp only [bS, Int.toNat_natCast]
 unfold lowB
 by_cases h : 65 ≤ l[k].toNat ∧ l[k].toNat ≤ 90
 ·have h2 : u8 (IntKind.wrap .u8 ((l[k].toNat : Int) + (32 : Int))) = some (l[k] + 32) := by
   have := all_u8 (p := fun c => !(decide (65 ≤ c.toNat ∧ c.toNat ≤ 90)) || (u8 (IntKind.wrap .u8 ((c.toNat : Int) + (32 : Int))) == some (c + 32))) (by decide +kernel) l[k]
   rw [dT h] at this
   simpa using this
  rw [dT (by omega), cT, dT (by omega), cT, h2, bS, if_pos h]; rfl
 ·rw [if_neg h, List.set_getElem_self]
  by_cases h3 : (65 : Int) ≤ (l[k].toNat : Int)
  ·rw [dT h3, cT, dF (by omega), cF]; rfl
  ·rw [dF h3, cF, cF]; rfl
theorem low_loop : ∀ (n k : Nat) (l : LB), l.length ≤ 1073741824 → k ≤ l.length → l.length - k < n → iter Fc_small_l0 n (l, (k : Int)) = some (l.take k ++ (l.drop k).map lowB)
 | 0, k, l, _, _, h => by omega
 | n + 1, k, l, hl, hk, h => by
  rw [iter_succ]
  by_cases hlt : k < l.length
  ·have hs : l.set k (lowB l[k]) = l.take k ++ lowB l[k] :: l.drop (k + 1) := by rw [List.set_eq_take_append_cons_drop, if_pos hlt]
   have hsl : (l.set k (lowB l[k])).length = l.length := List.length_set
   rw [low_step l k hlt hl, low_loop n (k + 1) _ (by omega) (by omega) (by omega), hs]
   have hkl : (l.take k ++ [lowB l[k]]).length = k + 1 := by rw [List.length_append, List.length_take]; simp; omega
   rw [show l.take k ++ lowB l[k] :: l.drop (k + 1) = (l.take k ++ [lowB l[k]]) ++ l.drop (k + 1) by simp, List.take_left' hkl, List.drop_left' hkl, List.drop_eq_getElem_cons hlt, List.map_cons, List.append_assoc]
   rfl
  ·have : k = l.length := by omega
   subst this
   unfold Fc_small_l0
   dsimp only
   rw [dF (by omega), cF]
   simp
theorem small_eq (p : LB) (hp : p.length ≤ 1073741824) : Fc_small p = some (p.map lowB) := by
 unfold Fc_small
 simp only [letJ]
 rw [show (0 : Int) = ((0 : Nat) : Int) from rfl, low_loop FUEL 0 p hp (Nat.zero_le _) (by unfold FUEL; omega), bS]
 simp
theorem low_cmp (a c : Nat) (ha : a < 128) (hc : c < 128) (hcu : ¬ (65 ≤ c ∧ c ≤ 90)) (hne : (c : Int) ≠ (a : Int)) :
  (cond (decide ((c : Int) < (a : Int))) (((decide ((65 : Int) ≤ (c : Int))) && (decide ((c : Int) ≤ (90 : Int)))) && ((a : Int) == (IntKind.wrap .u8 ((IntKind.wrap .u8 ((c : Int) + (97 : Int))) - (65 : Int))))) (((decide ((65 : Int) ≤ (a : Int))) && (decide ((a : Int) ≤ (90 : Int)))) && ((c : Int) == (IntKind.wrap .u8 ((IntKind.wrap .u8 ((a : Int) + (97 : Int))) - (65 : Int)))))) = decide ((if 65 ≤ a ∧ a ≤ 90 then a + 32 else a) = c) := by
 by_cases h1 : (c : Int) < (a : Int)
 ·rw [dT h1, cT]
  have e : ((decide ((65 : Int) ≤ (c : Int))) && (decide ((c : Int) ≤ (90 : Int)))) = false := by
   rw [Bool.eq_false_iff]; intro h; rw [Bool.and_eq_true, decide_eq_true_eq, decide_eq_true_eq] at h; omega
  rw [e, Bool.false_and]
  symm
  apply dF
  split <;> omega
 ·rw [dF h1, cF]
  by_cases h2 : 65 ≤ a ∧ a ≤ 90
  ·rw [dT (show (65 : Int) ≤ (a : Int) by omega), dT (show (a : Int) ≤ 90 by omega), if_pos h2, Bool.true_and, Bool.true_and]
   have e : IntKind.wrap .u8 ((IntKind.wrap .u8 ((a : Int) + (97 : Int))) - (65 : Int)) = (a : Int) + 32 := by
    rw [IntKind.wrap_u8, IntKind.wrap_u8]; omega
   rw [e, Bool.eq_iff_iff, beq_iff_eq, decide_eq_true_eq]; omega
  ·have e : ((decide ((65 : Int) ≤ (a : Int))) && (decide ((a : Int) ≤ (90 : Int)))) = false := by
    rw [Bool.eq_false_iff]; intro h; rw [Bool.and_eq_true, decide_eq_true_eq, decide_eq_true_eq] at h; omega
   rw [e, Bool.false_and, if_neg h2]
   symm
   apply dF; omega
theorem low_nat (c : UInt8) : (lowB c).toNat = if 65 ≤ c.toNat ∧ c.toNat ≤ 90 then c.toNat + 32 else c.toNat := by
 have := all_u8 (p := fun c => (lowB c).toNat == if 65 ≤ c.toNat ∧ c.toNat ≤ 90 then c.toNat + 32 else c.toNat) (by decide +kernel) c
 simpa using this
def okS (v : LB) : Prop := ∀ c ∈ v, c.toNat < 128 ∧ ¬ (65 ≤ c.toNat ∧ c.toNat ≤ 90)
theorem eqf_l2x (w v : LB) (hw : w.length ≤ 1073741824) (hv : okS v) : ∃ o, iter (Fq_l2 w v) FUEL (0 : Int) = some o ∧
  ((o = .inl () ∧ ∀ j (g0 : j < w.length) (g1 : j < v.length), lowB w[j] = v[j]) ∨ (o = .inr (.inr false) ∧ ∃ j, ∃ (g0 : j < w.length) (g1 : j < v.length), lowB w[j] ≠ v[j]) ∨
   (∃ i, ∃ (g0 : i < w.length) (g1 : i < v.length), o = .inr (.inl (i : Int)) ∧ 128 ≤ w[i].toNat)) := by
 refine iter_dec (b := Fq_l2 w v) (fun x => w.length - x.toNat) (fun x => ∃ i : Nat, x = (i : Int) ∧ i ≤ w.length ∧ ∀ j (g0 : j < w.length) (g1 : j < v.length), j < i → lowB w[j] = v[j]) _ ?_ FUEL (0 : Int) ⟨0, rfl, Nat.zero_le _, fun j _ _ h => by omega⟩ (by unfold FUEL; omega)
 rintro _ ⟨i, rfl, hi, hI⟩
 by_cases hlt : i < w.length ∧ i < v.length
 ·obtain ⟨g0, g1⟩ := hlt
  have hmin : decide ((i : Int) < (if (v.length : Int) < (w.length : Int) then (v.length : Int) else (w.length : Int))) = true := by
   apply dT; split <;> omega
  obtain ⟨v1, v2⟩ := hv v[i] (List.getElem_mem g1)
  have wlt := w[i].toNat_lt
  have hior : ior .u8 (w[i].toNat : Int) (v[i].toNat : Int) = ((w[i].toNat ||| v[i].toNat : Nat) : Int) := u8_or_nat _ _ (by omega) (by omega)
  have hb : ∀ rec, Fq_l2 w v rec (i : Int) = cond (decide ((128 : Int) ≤ (ior .u8 (w[i].toNat : Int) (v[i].toNat : Int))))
    (some (.inr (.inl (i : Int)))) (cond ((v[i].toNat : Int) == (w[i].toNat : Int)) (rec ((i + 1 : Nat) : Int))
     (cond (decide ((v[i].toNat : Int) < (w[i].toNat : Int)))
      (cond (((decide ((65 : Int) ≤ (v[i].toNat : Int))) && (decide ((v[i].toNat : Int) ≤ (90 : Int)))) && ((w[i].toNat : Int) == (IntKind.wrap .u8 ((IntKind.wrap .u8 ((v[i].toNat : Int) + (97 : Int))) - (65 : Int))))) (rec ((i + 1 : Nat) : Int)) (some (.inr (.inr false))))
      (cond (((decide ((65 : Int) ≤ (w[i].toNat : Int))) && (decide ((w[i].toNat : Int) ≤ (90 : Int)))) && ((v[i].toNat : Int) == (IntKind.wrap .u8 ((IntKind.wrap .u8 ((w[i].toNat : Int) + (97 : Int))) - (65 : Int))))) (rec ((i + 1 : Nat) : Int)) (some (.inr (.inr false)))))) := by
   intro rec
   unfold Fq_l2
   simp only [letJ]
   rw [hmin, cT, idx_some g0, bS, idx_some g1, bS, w64 (by omega) (by omega)]
   rfl
  by_cases h128 : 128 ≤ w[i].toNat
  ·have : (128 : Int) ≤ ior .u8 (w[i].toNat : Int) (v[i].toNat : Int) := by
    rw [hior]
    have := Nat.left_le_or (n := w[i].toNat) (m := v[i].toNat)
    omega
   exact .inr ⟨_, fun rec => by rw [hb, dT this, cT], .inr (.inr ⟨i, g0, g1, rfl, h128⟩)⟩
  ·have : ¬ (128 : Int) ≤ ior .u8 (w[i].toNat : Int) (v[i].toNat : Int) := by
    rw [hior]
    have := Nat.or_lt_two_pow (n := 7) (show w[i].toNat < 2 ^ 7 by omega) (show v[i].toNat < 2 ^ 7 by omega)
    omega
   have hb2 : ∀ rec, Fq_l2 w v rec (i : Int) = cond (decide (lowB w[i] = v[i])) (rec ((i + 1 : Nat) : Int)) (some (.inr (.inr false))) := by
    intro rec
    rw [hb, dF this, cF]
    have hlow : (lowB w[i] = v[i]) ↔ (if 65 ≤ w[i].toNat ∧ w[i].toNat ≤ 90 then w[i].toNat + 32 else w[i].toNat) = v[i].toNat := by
     rw [← low_nat]; exact UInt8.toNat_inj.symm
    by_cases heq : (v[i].toNat : Int) = (w[i].toNat : Int)
    ·have hd : lowB w[i] = v[i] := by rw [hlow]; split <;> omega
     rw [show ((v[i].toNat : Int) == (w[i].toNat : Int)) = true by simpa using heq, cT, dT hd, cT]
    ·rw [show ((v[i].toNat : Int) == (w[i].toNat : Int)) = false by simpa using heq, cF]
     have hc := low_cmp w[i].toNat v[i].toNat (by omega) v1 v2 heq
     have hd : decide (lowB w[i] = v[i]) = decide ((if 65 ≤ w[i].toNat ∧ w[i].toNat ≤ 90 then w[i].toNat + 32 else w[i].toNat) = v[i].toNat) := by rw [decide_eq_decide]; exact hlow
     rw [hd, ← hc]
     cases decide ((v[i].toNat : Int) < (w[i].toNat : Int)) <;> rfl
   by_cases hd : lowB w[i] = v[i]
   ·refine .inl ⟨((i + 1 : Nat) : Int), fun rec => by rw [hb2, dT hd, cT], ⟨i + 1, rfl, g0, fun j a b h => ?_⟩, by rw [Int.toNat_natCast, Int.toNat_natCast]; omega⟩
    by_cases hji : j = i
    ·subst hji; exact hd
    ·exact hI j a b (by omega)
   ·exact .inr ⟨_, fun rec => by rw [hb2, dF hd, cF], .inr (.inl ⟨rfl, i, g0, g1, hd⟩)⟩
 ·right
  have hmin : decide ((i : Int) < (if (v.length : Int) < (w.length : Int) then (v.length : Int) else (w.length : Int))) = false := by
   apply dF; split <;> omega
  exact ⟨.inl (), fun rec => by unfold Fq_l2; rw [hmin, cF], .inl ⟨rfl, fun j a b => hI j a b (by omega)⟩⟩
theorem low_differ {w v : LB} {j : Nat} (g0 : j < w.length) (g1 : j < v.length) (h : lowB w[j] ≠ v[j]) : (w.map lowB == v) = false := by
 rw [beq_eq_false_iff_ne]
 intro he
 subst he
 exact h (by simp)
theorem low_same {w v : LB} (h : ∀ j (g0 : j < w.length) (g1 : j < v.length), lowB w[j] = v[j]) : ((w.length : Int) == (v.length : Int)) = (w.map lowB == v) := by
 by_cases hl : w.length = v.length
 ·rw [show ((w.length : Int) == (v.length : Int)) = true by rw [beq_iff_eq]; omega]
  have : w.map lowB = v := List.ext_getElem (by simpa using hl) fun j a b => by
   rw [List.getElem_map]; exact h j (by simpa using a) b
  rw [this]; simp
 ·rw [show ((w.length : Int) == (v.length : Int)) = false by rw [beq_eq_false_iff_ne]; omega]
  symm
  rw [beq_eq_false_iff_ne]
  intro he
  subst he
  simp at hl
theorem eqf_hi (s : LB) (hs : 0 < s.length) (h128 : 128 ≤ s[0].toNat) (c : UInt8) (t : LB) (hc : (c.toNat : Int) = 120 ∨ (c.toNat : Int) = 109 ∨ (c.toNat : Int) = 108) (hd : L_DecodeRuneInString (c :: t) = some ((c.toNat : Int), 1)) : iter (Fq_l0 s) FUEL (c :: t, (0 : Nat)) = some (.inr false) := by
 obtain ⟨r1, r2⟩ := dec_at s 0
 have hr : 128 ≤ rnS s 0 := by
  rw [r1, Lib.decodeL_N]
  have := decN_hi (n := (s.drop 0).length) (b0 := ((s.drop 0).getD 0 0).toNat) (b1 := ((s.drop 0).getD 1 0).toNat) (b2 := ((s.drop 0).getD 2 0).toNat) (b3 := ((s.drop 0).getD 3 0).toNat) (by
   rw [List.drop_zero, show s.getD 0 0 = s[0] by simp [List.getD, hs]]; exact h128)
  omega
 have hsl : slc (c :: t) (1 : Int) ((c :: t).length : Int) = some t := slc_tail (by simp)
 obtain ⟨m, hm⟩ : ∃ m, FUEL = m + 1 := ⟨FUEL - 1, by unfold FUEL; rfl⟩
 have hf : L_SimpleFold (c.toNat : Int) = some ((c.toNat : Int) - 32) := by rcases hc with h | h | h <;> rw [h] <;> rfl
 have hl1 := eqf_l1 _ (rnS s 0) hc hr
 have f1 : ((c.toNat : Int) == rnS s 0) = false := by rw [beq_eq_false_iff_ne]; omega
 have f2 : decide ((c.toNat : Int) < rnS s 0) = true := dT (by omega)
 have f3 : decide (rnS s 0 < 128) = false := dF (by omega)
 have f4 : decide ((c.toNat : Int) < rnS s 0) = true := dT (by omega)
 have hb : ∀ rec, Fq_l0 s rec (c :: t, 0) = some (.inr false) := by
  intro rec
  unfold Fq_l0
  simp only [letJ]
  rw [dT hs, cT, show (((c :: t).length : Int) == 0) = false by rw [beq_eq_false_iff_ne]; simp; omega, cF, hd, bS]
  dsimp only
  rw [hsl, bS, f1, cF, f2, cT, f3, cF, hf, bS, hl1, bS, f1, cF]
 rw [hm, iter_succ, hb]
theorem eqf_xmlV (w : LB) (hw : w.length ≤ 1073741824) : Fq w [120, 109, 108] = some (w.map lowB == [120, 109, 108]) := by
 obtain ⟨o, e1, e2⟩ := eqf_l2x w [120, 109, 108] hw (by unfold okS; decide)
 unfold Fq
 simp only [letJ]
 rw [e1, bS]
 rcases e2 with ⟨rfl, h⟩ | ⟨rfl, j, g0, g1, h⟩ | ⟨i, g0, g1, rfl, h⟩
 ·dsimp only
  rw [low_same h]
 ·rw [low_differ g0 g1 h]
 ·have hd : lowB w[i] ≠ ([120, 109, 108] : LB)[i] := by
   intro he
   have h1 := congrArg UInt8.toNat he
   rw [low_nat, if_neg (by omega)] at h1
   have h2 : ([120, 109, 108] : LB)[i].toNat < 128 := by
    have : ∀ c ∈ ([120, 109, 108] : LB), c.toNat < 128 := by decide
    exact this _ (List.getElem_mem g1)
   omega
  rw [low_differ g0 g1 hd]
  dsimp only
  rw [slc_drop (Nat.le_of_lt g0), bS, slc_drop (Nat.le_of_lt g1), bS]
  have hs : 0 < (w.drop i).length := by rw [List.length_drop]; omega
  have hs2 : 128 ≤ (w.drop i)[0].toNat := by rw [List.getElem_drop]; simpa using h
  match i, g1, hs, hs2 with
  | 0, _, hs, hs2 => rw [show ([120, 109, 108] : LB).drop 0 = 120 :: [109, 108] from rfl, eqf_hi _ hs hs2 120 _ (.inl rfl) rfl]; rfl
  | 1, _, hs, hs2 => rw [show ([120, 109, 108] : LB).drop 1 = 109 :: [108] from rfl, eqf_hi _ hs hs2 109 _ (.inr (.inl rfl)) rfl]; rfl
  | 2, _, hs, hs2 => rw [show ([120, 109, 108] : LB).drop 2 = 108 :: [] from rfl, eqf_hi _ hs hs2 108 _ (.inr (.inr rfl)) rfl]; rfl
theorem eqf_lo (w v : LB) (hw : w.length ≤ 1073741824) (hv : okS v) (hlo : ∀ c ∈ w, c.toNat < 128) : Fq w v = some (w.map lowB == v) := by
 obtain ⟨o, e1, e2⟩ := eqf_l2x w v hw hv
 unfold Fq
 simp only [letJ]
 rw [e1, bS]
 rcases e2 with ⟨rfl, h⟩ | ⟨rfl, j, g0, g1, h⟩ | ⟨i, g0, g1, rfl, h⟩
 ·dsimp only
  rw [low_same h]
 ·rw [low_differ g0 g1 h]
 ·have := hlo _ (List.getElem_mem g0)
  omega
theorem all_lp {b : (Int → Option (Unit ⊕ Bool)) → Int → Option (Unit ⊕ Bool)} (v : LB) (P : UInt8 → Bool)
  (hs : ∀ (rec : Int → Option (Unit ⊕ Bool)) (k : Nat) (h : k < v.length), b rec (k : Int) = cond (P v[k]) (rec ((k + 1 : Nat) : Int)) (some (.inr false)))
  (he : ∀ rec : Int → Option (Unit ⊕ Bool), b rec (v.length : Int) = some (.inl ())) : ∀ (n k : Nat), k ≤ v.length → v.length - k < n → iter b n (k : Int) = some (if (v.drop k).all P = true then .inl () else .inr false)
 | 0, k, _, h => by omega
 | n + 1, k, hk, h => by
  rw [iter_succ]
  by_cases hl : k < v.length
  ·rw [hs _ k hl, List.drop_eq_getElem_cons hl, List.all_cons]
   cases P v[k] with
   | true => rw [cT, Bool.true_and, all_lp v P hs he n (k + 1) (by omega) (by omega)]
   | false => rfl
  ·have : k = v.length := by omega
   subst this
   rw [he, List.drop_length]; rfl
theorem trim_all (l cs : LB) : (Lib.trimS l cs == []) = l.all (fun b => cs.contains b) := by
 rw [Bool.eq_iff_iff, beq_iff_eq, List.all_eq_true]
 constructor
 ·exact trimS_nil
 ·intro h
  unfold Lib.trimS Lib.trimLeftS Lib.trimRightS
  have h2 : l.reverse.dropWhile (cs.contains ·) = [] := dropWhile_head fun b hb => h b (List.mem_reverse.1 ((List.dropWhile_sublist _).subset hb))
  rw [h2]; rfl
abbrev digS : LB := [48, 49, 50, 51, 52, 53, 54, 55, 56, 57]
abbrev letS : LB := [65, 66, 67, 68, 69, 70, 71, 72, 73, 74, 75, 76, 77, 78, 79, 80, 81, 82, 83, 84, 85, 86, 87, 88, 89, 90, 97, 98, 99, 100, 101, 102, 103, 104, 105, 106, 107, 108, 109, 110, 111, 112, 113, 114, 115, 116, 117, 118, 119, 120, 121, 122]
abbrev encS : LB := [65, 66, 67, 68, 69, 70, 71, 72, 73, 74, 75, 76, 77, 78, 79, 80, 81, 82, 83, 84, 85, 86, 87, 88, 89, 90, 97, 98, 99, 100, 101, 102, 103, 104, 105, 106, 107, 108, 109, 110, 111, 112, 113, 114, 115, 116, 117, 118, 119, 120, 121, 122, 48, 49, 50, 51, 52, 53, 54, 55, 56, 57, 46, 95, 45]
theorem dig_eq (c : UInt8) : Fc_digit (c.toNat : Int) = some (digS.contains c) := by
 have := all_u8 (p := fun c => Fc_digit (c.toNat : Int) == some (digS.contains c)) (by decide +kernel) c
 simpa using this
theorem let_eq (c : UInt8) : Fc_letter (c.toNat : Int) = some (decide ((0 : Int) ≤ Lib.indexByte letS c)) := by
 have := all_u8 (p := fun c => Fc_letter (c.toNat : Int) == some (decide ((0 : Int) ≤ Lib.indexByte letS c))) (by decide +kernel) c
 simpa using this
theorem enc_eq (c : UInt8) : ((((decide ((0 : Int) ≤ Lib.indexByte letS c) || digS.contains c) || ((c.toNat : Int) == 46)) || ((c.toNat : Int) == 95)) || ((c.toNat : Int) == 45)) = encS.contains c := by
 have := all_u8 (p := fun c => ((((decide ((0 : Int) ≤ Lib.indexByte letS c) || digS.contains c) || ((c.toNat : Int) == 46)) || ((c.toNat : Int) == 95)) || ((c.toNat : Int) == 45)) == encS.contains c) (by decide +kernel) c
 exact eq_of_beq this
theorem allowed_0 (v : LB) (k : Nat) (hk : k ≤ v.length) (hv : v.length ≤ 1073741824) : iter (Fc_allowed_l1 v) FUEL (k : Int) = some (if (v.drop k).all (fun b => digS.contains b) = true then .inl () else .inr false) :=
 all_lp v _ (fun rec k h => by
  unfold Fc_allowed_l1
  rw [dT (show (k : Int) < (v.length : Int) by omega), cT, idx_some h, bS, dig_eq, bS, w64 (x := (k : Int) + 1) (by omega) (by omega)]
  cases digS.contains v[k] <;> rfl) (fun rec => by
  unfold Fc_allowed_l1
  rw [dF (by omega), cF]) FUEL k hk (by unfold FUEL; omega)
theorem allowed_1 (v : LB) (k : Nat) (hk : k ≤ v.length) (hv : v.length ≤ 1073741824) : iter (Fc_allowed_l0 v) FUEL (k : Int) = some (if (v.drop k).all (fun b => encS.contains b) = true then .inl () else .inr false) :=
 all_lp v _ (fun rec k h => by
  unfold Fc_allowed_l0
  simp only [letJ]
  rw [dT (show (k : Int) < (v.length : Int) by omega), cT, idx_some h, w64 (x := (k : Int) + 1) (by omega) (by omega)]
  simp only [bS, let_eq, dig_eq]
  rw [← enc_eq]
  unfold bne
  cases decide ((0 : Int) ≤ Lib.indexByte letS v[k]) <;> cases digS.contains v[k] <;> cases ((v[k].toNat : Int) == 46) <;> cases ((v[k].toNat : Int) == 95) <;> cases ((v[k].toNat : Int) == 45) <;> rfl) (fun rec => by
  unfold Fc_allowed_l0
  rw [dF (by omega), cF]) FUEL k hk (by unfold FUEL; omega)
theorem fits_0 (v : LB) (hv : v.length ≤ 1073741824) : ∃ r, F_scan_fits [118, 101, 114, 115, 105, 111, 110] v = some r ∧ Fc_allowed (0 : Int) v = some r := by
 unfold F_scan_fits Fc_allowed
 rw [show ((([118, 101, 114, 115, 105, 111, 110] : LB)) == [118, 101, 114, 115, 105, 111, 110]) = true from rfl, cT, cutPrefix_eq, bS]
 simp only [letJ]
 rw [show ((0 : Int) == 2) = false from rfl, cF, show ((0 : Int) == 1) = false from rfl, cF]
 by_cases hl : v.length < 3
 ·rw [dT (by omega), cT, cT]
  refine ⟨false, ?_, rfl⟩
  by_cases hp : ([49, 46] : LB).isPrefixOf v = true
  ·rw [if_pos hp]
   have : v.drop ([49, 46] : LB).length = [] := List.drop_eq_nil_of_le (by show v.length ≤ 2; omega)
   rw [this]; rfl
  ·rw [if_neg hp]; rfl
 ·have hsl : slc v (0 : Int) (2 : Int) = some (v.take 2) := by
   have := slc_take0 (l := v) (n := 2) (by omega)
   exact this
  have hpre : ([49, 46] : LB).isPrefixOf v = (v.take 2 == [49, 46]) := by
   rw [isPre_take, dT (show ([49, 46] : LB).length ≤ v.length by show 2 ≤ v.length; omega), Bool.true_and]; rfl
  rw [dF (by omega), cF, hsl, bS, hpre]
  have hloop := allowed_0 v 2 (by omega) hv
  rw [show (((2 : Nat) : Int)) = (2 : Int) from rfl] at hloop
  cases hq : v.take 2 == [49, 46] with
  | false => rw [if_neg (by simp)]; exact ⟨false, rfl, rfl⟩
  | true =>
   rw [if_pos rfl, Bool.not_true, cF, hloop, bS]
   have hne : ((v.drop ([49, 46] : LB).length) == ([] : LB)) = false := by
    rw [beq_eq_false_iff_ne]; intro h
    have := congrArg List.length h
    rw [List.length_drop] at this
    simp at this; omega
   have ht : L_Trim (v.drop ([49, 46] : LB).length) digS = some (Lib.trimS (v.drop ([49, 46] : LB).length) digS) := by
    unfold L_Trim; rw [if_pos ⟨by rw [List.length_drop]; omega, by decide, by decide⟩]
   refine ⟨(v.drop 2).all (fun b => digS.contains b), ?_, ?_⟩
   ·dsimp only
    rw [hne, Bool.not_false, Bool.true_and, cT, ht, bS, trim_all]; rfl
   ·cases (v.drop 2).all (fun b => digS.contains b) <;> rfl
theorem fits_1 (v : LB) (hv : v.length ≤ 1073741824) : ∃ r, F_scan_fits [101, 110, 99, 111, 100, 105, 110, 103] v = some r ∧ Fc_allowed (1 : Int) v = some r ∧ (r = true → v ≠ [] ∧ ∀ b ∈ v, b.toNat < 128) := by
 obtain ⟨r0, hr0, hlo⟩ := fits_sp [101, 110, 99, 111, 100, 105, 110, 103] v hv
 have hlo := hlo rfl
 refine ⟨r0, hr0, ?_, ?_⟩
 all_goals unfold F_scan_fits at hr0
 all_goals rw [show ((([101, 110, 99, 111, 100, 105, 110, 103] : LB)) == [118, 101, 114, 115, 105, 111, 110]) = false from rfl, cF, show ((([101, 110, 99, 111, 100, 105, 110, 103] : LB)) == [101, 110, 99, 111, 100, 105, 110, 103]) = true from rfl, cT] at hr0
 all_goals simp only [letJ] at hr0
 ·unfold Fc_allowed
  simp only [letJ]
  rw [show ((1 : Int) == 2) = false from rfl, cF, show ((1 : Int) == 1) = true from rfl, cT]
  by_cases c3 : v = []
  ·rw [show (v == ([] : LB)) = true by simp [c3]] at hr0 ⊢
   rw [← hr0]; rfl
  ·have hpos : 0 < v.length := List.length_pos_iff.2 c3
   have hloop := allowed_1 v 0 (Nat.zero_le _) hv
   rw [show (((0 : Nat) : Int)) = (0 : Int) from rfl, List.drop_zero] at hloop
   rw [show (v == ([] : LB)) = false by simpa using c3] at hr0 ⊢
   rw [Bool.not_false, cT, show (0 : Int) = ((0 : Nat) : Int) from rfl, idx_some hpos, bS] at hr0
   rw [cF, show (0 : Int) = ((0 : Nat) : Int) from rfl, idx_some hpos, bS, let_eq, bS, show (((0 : Nat) : Int)) = (0 : Int) from rfl, hloop, bS]
   unfold L_IndexByte at hr0
   rw [nat_u8, bS] at hr0
   rw [← hr0]
   show _ = cond (decide ((0 : Int) ≤ Lib.indexByte letS v[0])) _ _
   cases decide ((0 : Int) ≤ Lib.indexByte letS v[0]) with
   | false => rfl
   | true =>
    have ht : L_Trim v encS = some (Lib.trimS v encS) := by
     unfold L_Trim; rw [if_pos ⟨by omega, by decide, by decide⟩]
    rw [Bool.not_true, cF, cT, ht, bS, trim_all]
    cases v.all (fun b => encS.contains b) <;> rfl
 ·rintro rfl
  refine ⟨?_, hlo rfl⟩
  rintro rfl
  cases hr0
theorem fits_2 (v : LB) : ∃ r, F_scan_fits [115, 116, 97, 110, 100, 97, 108, 111, 110, 101] v = some r ∧ Fc_allowed (2 : Int) v = some r := ⟨_, rfl, rfl⟩
theorem fits_two (k : Nat) (hk : k < 3) (w v : LB) (hw : idx DeclW (k : Int) = some w) (hv : v.length ≤ 1073741824) : ∃ r, F_scan_fits w v = some r ∧ Fc_allowed (k : Int) v = some r ∧ (k = 1 → r = true → v ≠ [] ∧ ∀ b ∈ v, b.toNat < 128) := by
 have h : k = 0 ∨ k = 1 ∨ k = 2 := by omega
 rcases h with rfl | rfl | rfl
 ·have hw := Option.some.inj hw
  subst hw
  obtain ⟨r, h1, h2⟩ := fits_0 v hv
  exact ⟨r, h1, h2, fun h => by cases h⟩
 ·have hw := Option.some.inj hw
  subst hw
  obtain ⟨r, h1, h2, h3⟩ := fits_1 v hv
  exact ⟨r, h1, h2, fun _ => h3⟩
 ·have hw := Option.some.inj hw
  subst hw
  obtain ⟨r, h1, h2⟩ := fits_2 v
  exact ⟨r, h1, h2, fun h => by cases h⟩
theorem quo_ok (b : LB) (i : Nat) (hi : i ≤ b.length) (hb : b.length ≤ 1073741824) (h : (quo b i).1.2 = 0) : ∃ (v : LB) (j : Nat), quo b i = ((v, 0), ⟨b, (j : Int)⟩) ∧ i < j ∧ j ≤ b.length ∧ v.length ≤ b.length := by
 obtain ⟨v, e, j, h1, h2, h3, h4, h5⟩ := quoted_sp b i hi hb
 rw [quoted_eq b i hi hb] at h1
 have h1 := Option.some.inj h1
 rw [h1] at h ⊢
 have h : e = 0 := h
 subst h
 exact ⟨v, j, rfl, h5 rfl, h3, h4⟩
theorem quo_no (b : LB) (i : Nat) (h : (quo b i).1.2 ≠ 0) : (quo b i).1.2 = 23 := by
 unfold quo at h ⊢
 split at h
 ·exact absurd rfl h
 ·rename_i hc; rw [if_neg hc]
abbrev tk0 : TR := ⟨(0 : Int), (0 : Int), ([] : LB), ([] : List TP), ([] : LB), (0 : Int)⟩
abbrev utf8w : LB := [117, 116, 102, 45, 56]
def oddE (la : LB) : Bool := !(la == []) && !(la.map lowB == utf8w)
theorem decl_two_l0 (b : LB) (At : Int) (h5 : 5 ≤ b.length) (hb : b.length ≤ 1073741824) :
  ∃ o q, iter (Fs_decl_l0) FUEL (b, (5 : Int), (1 : Int), At, ([] : LB), ([] : List TP), ([] : LB), (0 : Int), ([] : LB), (0 : Int)) = some o ∧
   iter (Fc_declaration_l0 b) FUEL ((0 : Int), (0 : Int), ([] : LB), ([] : List TP), ([] : LB), (0 : Int), (1 : Int), (0 : Int), ([] : LB), ([] : List TP), ([] : LB), (0 : Int), (5 : Int), false, (0 : Int)) = some q ∧
  ((∃ (j : Nat) (ps : List TP) (la : LB), o = .inl (b, (j : Int), la, (1 : Int), At, [], ps, [], 0) ∧ q = .inl ((0 : Int), (0 : Int), ([] : LB), ([] : List TP), ([] : LB), (0 : Int), (1 : Int), (0 : Int), ([] : LB), ps, ([] : LB), (0 : Int), (j : Int), oddE la) ∧ 5 ≤ j ∧ j ≤ b.length ∧ la.length ≤ 1073741824 ∧ ∀ c ∈ la, c.toNat < 128) ∨
   (∃ (s : TS) (t' : Tk), o = .inr ((23 : Int), s, t') ∧ q = .inr (tk0, (0 : Int), (23 : Int)))) := by
 refine iter_two (b := Fs_decl_l0) (c := Fc_declaration_l0 b) (fun x => 3 - x.2.2.2.2.2.2.2.2.2.toNat) (fun x y => ∃ (j k : Nat) (ps : List TP) (la : LB), x = (b, (j : Int), (1 : Int), At, [], ps, [], 0, la, (k : Int)) ∧
  y = ((0 : Int), (0 : Int), ([] : LB), ([] : List TP), ([] : LB), (0 : Int), (1 : Int), (0 : Int), ([] : LB), ps, ([] : LB), (0 : Int), (j : Int), oddE la, (k : Int)) ∧ 5 ≤ j ∧ j ≤ b.length ∧ k ≤ 3 ∧ ps.length ≤ k ∧ la.length ≤ 1073741824 ∧ (∀ c ∈ la, c.toNat < 128) ∧ (k ≤ 1 → la = [])) _ ?_ FUEL FUEL _ _ ⟨5, 0, [], [], rfl, rfl, by omega, h5, by omega, by simp, by simp, by simp, fun _ => rfl⟩ (by unfold FUEL; dsimp only; omega) (by unfold FUEL; dsimp only; omega)
 rintro _ _ ⟨j, k, ps, la, rfl, rfl, g1, g2, g3, g5, g6, g7, g8⟩
 by_cases hk : k < 3
 case neg =>
  right
  refine ⟨.inl (b, (j : Int), la, (1 : Int), At, [], ps, [], 0), .inl ((0 : Int), (0 : Int), ([] : LB), ([] : List TP), ([] : LB), (0 : Int), (1 : Int), (0 : Int), ([] : LB), ps, ([] : LB), (0 : Int), (j : Int), oddE la), fun rec => ?_, fun rec => ?_, .inl ⟨j, ps, la, rfl, rfl, g1, g2, g6, g7⟩⟩
  ·unfold Fs_decl_l0
   dsimp only
   rw [show decide ((k : Int) < (DeclW.length : Int)) = false from dF (show ¬ (k : Int) < ((3 : Nat) : Int) by omega), cF]
  ·unfold Fc_declaration_l0
   dsimp only
   rw [dF (by omega), cF]
 obtain ⟨w, hidx, w1, w2, w3⟩ := declW_at k hk
 have hidN : idxN 3 DeclW (k : Int) = some w := by unfold idxN; rw [if_pos (by omega)]; exact hidx
 have hkt : decide ((k : Int) < (DeclW.length : Int)) = true := dT (show (k : Int) < ((3 : Nat) : Int) by omega)
 have hkt2 : decide ((k : Int) < 3) = true := dT (by omega)
 obtain ⟨s1, s2⟩ := sk_le wsP b j g2
 have hsp := spaces_eq b (j : Int) j g2 hb
 have hwh := white_at b j g2 hb
 have hst := stands_at b (sk wsP b j) w s2 hb (by omega)
 have hk1 : IntKind.wrap .i64 ((k : Int) + 1) = ((k + 1 : Nat) : Int) := by rw [w64 (by omega) (by omega)]; omega
 have hver : (w == ([118, 101, 114, 115, 105, 111, 110] : LB)) = ((k : Int) == 0) := by
  have h : k = 0 ∨ k = 1 ∨ k = 2 := by omega
  rcases h with rfl | rfl | rfl <;> (have hidx := Option.some.inj hidx; subst hidx; rfl)
 have henc : (w == ([101, 110, 99, 111, 100, 105, 110, 103] : LB)) = ((k : Int) == 1) := by
  have h : k = 0 ∨ k = 1 ∨ k = 2 := by omega
  rcases h with rfl | rfl | rfl <;> (have hidx := Option.some.inj hidx; subst hidx; rfl)
 have absent : ((((sk wsP b j : Nat) : Int) == (j : Int)) = true ∨ (((sk wsP b j : Nat) : Int) == (j : Int)) = false ∧ hereP b (sk wsP b j) w = false) →
   (∀ rec, Fs_decl_l0 rec (b, (j : Int), (1 : Int), At, [], ps, [], 0, la, (k : Int)) = cond ((k : Int) == 0) (some (.inr ((23 : Int), (⟨b, (j : Int)⟩ : TS), (⟨1, At, [], ps, [], 0⟩ : TK)))) (rec (b, (j : Int), (1 : Int), At, [], ps, [], 0, la, ((k + 1 : Nat) : Int)))) ∧
   (∀ rec, Fc_declaration_l0 b rec ((0 : Int), (0 : Int), ([] : LB), ([] : List TP), ([] : LB), (0 : Int), (1 : Int), (0 : Int), ([] : LB), ps, ([] : LB), (0 : Int), (j : Int), oddE la, (k : Int)) = cond ((k : Int) == 0) (some (.inr (tk0, (0 : Int), (23 : Int)))) (rec ((0 : Int), (0 : Int), ([] : LB), ([] : List TP), ([] : LB), (0 : Int), (1 : Int), (0 : Int), ([] : LB), ps, ([] : LB), (0 : Int), (j : Int), oddE la, ((k + 1 : Nat) : Int)))) := by
  intro hab
  constructor
  ·intro rec
   unfold Fs_decl_l0
   dsimp only
   rw [hkt, cT]
   simp only [letJ]
   rw [hidx, bS, hsp, bS, ← hver, hk1]
   rcases hab with h | ⟨h, h2⟩
   ·rw [h, cT, cT]
   ·have h2 : w.isPrefixOf (b.drop (sk wsP b j)) = false := h2
    rw [h, cF, slc_drop s2, bS, hasPrefix_eq, bS, h2, Bool.not_false, cT]
  ·intro rec
   unfold Fc_declaration_l0
   dsimp only
   rw [hkt2, cT]
   simp only [letJ]
   rw [hidN, bS, hwh, bS, hk1, hst]
   rcases hab with h | ⟨h, h2⟩
   ·rw [dF (by rw [beq_iff_eq] at h; omega), cF, cF]
   ·rw [h2, bS]
    cases decide ((j : Int) < ((sk wsP b j : Nat) : Int)) <;> rfl
 by_cases hab : ((((sk wsP b j : Nat) : Int) == (j : Int)) = true ∨ (((sk wsP b j : Nat) : Int) == (j : Int)) = false ∧ hereP b (sk wsP b j) w = false)
 ·obtain ⟨a1, a2⟩ := absent hab
  cases hk0 : ((k : Int) == 0) with
  | true =>
   rw [hk0] at a1 a2
   exact .inr ⟨_, _, a1, a2, .inr ⟨_, _, rfl, rfl⟩⟩
  | false =>
   rw [hk0] at a1 a2
   exact .inl ⟨_, _, a1, a2, ⟨j, k + 1, ps, la, rfl, rfl, g1, g2, by omega, by omega, g6, g7, fun h => g8 (by omega)⟩, by dsimp only; omega⟩
 have c3' : (((sk wsP b j : Nat) : Int) == (j : Int)) = false := by
  cases h : (((sk wsP b j : Nat) : Int) == (j : Int)) with
  | false => rfl
  | true => exact absurd (.inl h) hab
 have hh : hereP b (sk wsP b j) w = true := by
  cases h : hereP b (sk wsP b j) w with
  | true => rfl
  | false => exact absurd (.inr ⟨c3', h⟩) hab
 have hlt : decide ((j : Int) < ((sk wsP b j : Nat) : Int)) = true := by
  rw [beq_eq_false_iff_ne] at c3'
  exact dT (by omega)
 have hh' : w.isPrefixOf (b.drop (sk wsP b j)) = true := hh
 have hl := hereP_len hh s2
 have hadd : IntKind.wrap .i64 (((sk wsP b j : Nat) : Int) + (w.length : Int)) = ((sk wsP b j + w.length : Nat) : Int) := by rw [w64 (by omega) (by omega)]; omega
 have heq := equals_eq b (sk wsP b j + w.length) hl hb
 have hva := value_two b (sk wsP b j + w.length) hl hb
 obtain ⟨p1, p2⟩ := sk_le wsP b (sk wsP b j + w.length) hl
 have hi5 : 5 ≤ sk wsP b j + w.length := by omega
 generalize sk wsP b j + w.length = i2 at *
 cases h61 : hereP b (sk wsP b i2) [61] with
 | false =>
  rw [h61, if_neg (by simp)] at heq hva
  refine .inr ⟨_, _, fun rec => ?_, fun rec => ?_, .inr ⟨⟨b, ((sk wsP b (sk wsP b i2) : Nat) : Int)⟩, ⟨1, At, [], ps, [], 0⟩, rfl, rfl⟩⟩
  ·unfold Fs_decl_l0
   dsimp only
   rw [hkt, cT]
   simp only [letJ]
   rw [hidx, bS, hsp, bS, c3', cF, slc_drop s2, bS, hasPrefix_eq, bS, hh', Bool.not_true, cF, hadd, heq, bS]
   rfl
  ·unfold Fc_declaration_l0
   dsimp only
   rw [hkt2, cT]
   simp only [letJ]
   rw [hidN, bS, hwh, bS, hlt, cT, hst, bS, hh, cT, hadd, hva, bS]
   rfl
 | true =>
  have hl61 := hereP_len h61 p2
  simp only [List.length_cons, List.length_nil, Nat.zero_add] at hl61
  obtain ⟨t1, t2⟩ := sk_le wsP b (sk wsP b i2 + 1) hl61
  rw [h61, if_pos rfl] at heq hva
  generalize sk wsP b (sk wsP b i2 + 1) = k2 at *
  have hqe := quoted_eq b k2 t2 hb
  by_cases hq : (quo b k2).1.2 = 0
  case neg =>
   have hq23 := quo_no b k2 hq
   rw [if_neg hq] at hva
   refine .inr ⟨_, _, fun rec => ?_, fun rec => ?_, .inr ⟨(quo b k2).2, ⟨1, At, [], ps, [], 0⟩, rfl, rfl⟩⟩
   ·unfold Fs_decl_l0
    dsimp only
    rw [hkt, cT]
    simp only [letJ]
    rw [hidx, bS, hsp, bS, c3', cF, slc_drop s2, bS, hasPrefix_eq, bS, hh', Bool.not_true, cF, hadd, heq, bS]
    dsimp only
    rw [show ((0 : Int) != 0) = false from rfl, cF, hqe, bS, hq23, show ((23 : Int) != 0) = true from rfl, cT, cT]
   ·unfold Fc_declaration_l0
    dsimp only
    rw [hkt2, cT]
    simp only [letJ]
    rw [hidN, bS, hwh, bS, hlt, cT, hst, bS, hh, cT, hadd, hva, bS]
    rfl
  obtain ⟨v, j3, hqv, v1, v2, v3⟩ := quo_ok b k2 t2 hb hq
  rw [hqv, if_pos rfl] at hva
  rw [hqv] at hqe
  obtain ⟨r, r1, r2, r3⟩ := fits_two k hk w v hidx (by omega)
  have preS : ∀ rec, Fs_decl_l0 rec (b, (j : Int), (1 : Int), At, [], ps, [], 0, la, (k : Int)) = cond (!r) (some (.inr ((23 : Int), (⟨b, (j3 : Int)⟩ : TS), (⟨1, At, [], ps, [], 0⟩ : TK))))
    ((app 32 ps [(⟨w, v⟩ : TP)]).bind fun _ =>
      (some (ps ++ [(⟨w, v⟩ : TP)])).bind fun a129 =>
     cond (w == ([101, 110, 99, 111, 100, 105, 110, 103] : LB))
      (rec (b, (j3 : Int), (1 : Int), At, [], a129, [], 0, v, ((k + 1 : Nat) : Int)))
      (rec (b, (j3 : Int), (1 : Int), At, [], a129, [], 0, la, ((k + 1 : Nat) : Int)))) := by
   intro rec
   unfold Fs_decl_l0
   dsimp only
   rw [hkt, cT]
   simp only [letJ]
   rw [hidx, bS, hsp, bS, c3', cF, slc_drop s2, bS, hasPrefix_eq, bS, hh', Bool.not_true, cF, hadd, heq, bS]
   dsimp only
   rw [show ((0 : Int) != 0) = false from rfl, cF, hqe, bS]
   dsimp only
   rw [show ((0 : Int) != 0) = false from rfl, cF, r1, bS]
   simp only [hk1]
  have preR : ∀ rec, Fc_declaration_l0 b rec ((0 : Int), (0 : Int), ([] : LB), ([] : List TP), ([] : LB), (0 : Int), (1 : Int), (0 : Int), ([] : LB), ps, ([] : LB), (0 : Int), (j : Int), oddE la, (k : Int)) = cond (!r) (some (.inr (tk0, (0 : Int), (23 : Int))))
    ((app 32 ps [(⟨w, v⟩ : TP)]).bind fun _ =>
     cond (oddE la) (rec ((0 : Int), (0 : Int), ([] : LB), ([] : List TP), ([] : LB), (0 : Int), (1 : Int), (0 : Int), ([] : LB), (ps ++ [(⟨w, v⟩ : TP)]), ([] : LB), (0 : Int), (j3 : Int), true, ((k + 1 : Nat) : Int)))
      (cond ((k : Int) == 1) (rec ((0 : Int), (0 : Int), ([] : LB), ([] : List TP), ([] : LB), (0 : Int), (1 : Int), (0 : Int), ([] : LB), (ps ++ [(⟨w, v⟩ : TP)]), ([] : LB), (0 : Int), (j3 : Int), !(v.map lowB == utf8w), ((k + 1 : Nat) : Int)))
       (rec ((0 : Int), (0 : Int), ([] : LB), ([] : List TP), ([] : LB), (0 : Int), (1 : Int), (0 : Int), ([] : LB), (ps ++ [(⟨w, v⟩ : TP)]), ([] : LB), (0 : Int), (j3 : Int), false, ((k + 1 : Nat) : Int))))) := by
   intro rec
   unfold Fc_declaration_l0
   dsimp only
   rw [hkt2, cT]
   simp only [letJ]
   rw [hidN, bS, hwh, bS, hlt, cT, hst, bS, hh, cT, hadd, hva, bS]
   dsimp only
   rw [dF (show ¬ (j3 : Int) < 0 by omega), cF, r2, bS, small_eq v (by omega), hk1]
   simp only [bS]
  cases r with
  | false => exact .inr ⟨_, _, preS, preR, .inr ⟨_, _, rfl, rfl⟩⟩
  | true =>
   have happ : app 32 ps [(⟨w, v⟩ : TP)] = some (ps ++ [(⟨w, v⟩ : TP)]) := app_some (by simp; omega) (by simp; omega)
   cases hke : ((k : Int) == 1) with
   | true =>
    have hk1e : k = 1 := by rw [beq_iff_eq] at hke; omega
    have hla := g8 (by omega)
    obtain ⟨n1, n2⟩ := r3 hk1e rfl
    have hodd : oddE la = false := by rw [hla]; rfl
    have hoddv : oddE v = !(v.map lowB == utf8w) := by unfold oddE; rw [ne_nil_beq n1, Bool.not_false, Bool.true_and]
    refine .inl ⟨_, _, fun rec => by rw [preS, Bool.not_true, cF, happ, bS, bS, henc, hke, cT], fun rec => by rw [preR, Bool.not_true, cF, happ, bS, hodd, cF, hke, cT, ← hoddv], ⟨j3, k + 1, _, v, rfl, rfl, by omega, v2, by omega, by simp; omega, by omega, n2, fun h => by omega⟩, by dsimp only; omega⟩
   | false =>
    refine .inl ⟨_, _, fun rec => by rw [preS, Bool.not_true, cF, happ, bS, bS, henc, hke, cF], fun rec => ?_, ⟨j3, k + 1, ps ++ [(⟨w, v⟩ : TP)], la, rfl, rfl, by omega, v2, by omega, by simp; omega, g6, g7, fun h => g8 (by omega)⟩, by dsimp only; omega⟩
    rw [preR, Bool.not_true, cF, happ, bS, hke, cF]
    cases oddE la <;> rfl
structure SameT (t : Tk) (r : TR) : Prop where
 k : t.Kind = r.Kind
 n : t.Name = r.Name
 p : t.Pairs = r.Pairs
 x : t.Text = r.Text
 f : t.Refs = r.Refs
def TokS (x : Int × TS × Tk) (y : TR × Int × Int) : Prop := x.1 = y.2.2 ∧ (x.1 = 0 → x.2.1.at_ = y.2.1 ∧ SameT x.2.2 y.1)
theorem decl_two (b : LB) (h5 : 5 ≤ b.length) (hb : b.length ≤ 1073741824) : ∃ x y, Fs_decl ⟨b, (0 : Int)⟩ (tok0 0) = some x ∧ Fc_declaration b = some y ∧ TokS x y := by
 unfold Fs_decl Fc_declaration
 simp only [letJ]
 obtain ⟨o, q, e1, e1', e2⟩ := decl_two_l0 b 0 h5 hb
 rw [e1, e1', bS, bS]
 rcases e2 with ⟨j, ps, la, rfl, rfl, h1, h2, h4, h6⟩ | ⟨s, t', rfl, rfl⟩
 ·dsimp only
  obtain ⟨s1, s2⟩ := sk_le wsP b j h2
  rw [spaces_eq b _ j h2 hb, bS, sign_eq b _ _ s2 hb, bS, white_at b j h2 hb, bS, stands_at b _ _ s2 hb (by decide), bS]
  cases hh : hereP b (sk wsP b j) [63, 62] with
  | false =>
   rw [if_neg (by simp)]
   exact ⟨_, _, rfl, rfl, rfl, fun h => by cases h⟩
  | true =>
   have hl := hereP_len hh s2
   simp only [List.length_cons, List.length_nil, Nat.zero_add, Nat.reduceAdd] at hl
   rw [if_pos rfl]
   dsimp only
   rw [show ((0 : Int) != 0) = false from rfl, cF, Bool.not_true, cF, w64 (by omega) (by omega)]
   have hlo := eqf_lo la utf8w h4 (by unfold okS; decide) h6
   unfold oddE
   cases la == ([] : LB) with
   | true =>
    rw [Bool.not_true, cF, cF, Bool.false_and, cF]
    exact ⟨_, _, rfl, rfl, rfl, fun _ => ⟨by show ((_ : Nat) : Int) = _; simp, ⟨rfl, rfl, rfl, rfl, rfl⟩⟩⟩
   | false =>
    rw [Bool.not_false, cT, hlo, bS, Bool.true_and]
    cases la.map lowB == utf8w with
    | true =>
     exact ⟨_, _, rfl, rfl, rfl, fun _ => ⟨by show ((_ : Nat) : Int) = _; simp, ⟨rfl, rfl, rfl, rfl, rfl⟩⟩⟩
    | false =>
     exact ⟨_, _, rfl, rfl, rfl, fun h => by cases h⟩
 ·exact ⟨_, _, rfl, rfl, rfl, fun h => by cases h⟩
theorem tokS_bad {e : Int} {s : TS} {t : Tk} {r : TR} {n : Int} (he : e ≠ 0) : TokS (e, s, t) (r, n, e) := ⟨rfl, fun h => absurd h he⟩
theorem closing_two (b : LB) (i : Nat) (hi : i + 2 ≤ b.length) (hb : b.length ≤ 1073741824) (hok : OkT (b.drop (i + 2))) : ∃ x y, Fs_closing ⟨b, (i : Int)⟩ (tok0 i) = some x ∧
  ((Fc_written b (IntKind.wrap .i64 ((i : Int) + (2 : Int)))).bind fun x35 =>
       cond (x35.2.2 != (0 : Int))
       (some (tk0, (0 : Int), x35.2.2))
       ((Fc_White b x35.2.1).bind fun x37 =>
        (Fc_Stands b x37 ([62] : LB)).bind fun x38 =>
       cond (!x38)
        (some (tk0, (0 : Int), (23 : Int)))
        (some ((⟨(3 : Int), (0 : Int), x35.1, ([] : List TP), ([] : LB), (0 : Int)⟩ : TR), (IntKind.wrap .i64 (x37 + (1 : Int))), (0 : Int))))) = some y ∧ TokS x y := by
 obtain ⟨v, e, j, h1, h2, h3, h4, h5⟩ := written_two b (i + 2) hi hb hok
 unfold Fs_closing
 dsimp only
 rw [w64 (x := (i : Int) + 2) (by omega) (by omega), show (i : Int) + 2 = ((i + 2 : Nat) : Int) by omega, h1, h2, bS, bS]
 by_cases he : e = 0
 ·subst he
  rw [if_pos rfl]
  dsimp only
  obtain ⟨s1, s2⟩ := sk_le wsP b j h4
  rw [show ((0 : Int) != 0) = false from rfl, cF, cF, spaces_eq b _ j h4 hb, white_at b j h4 hb, bS, bS, sign_eq b _ _ s2 hb, stands_at b _ _ s2 hb (by decide), bS, bS]
  cases hh : hereP b (sk wsP b j) [62] with
  | false => rw [if_neg (c := false = true) (by simp)]; exact ⟨_, _, rfl, rfl, tokS_bad (e := 23) (by decide)⟩
  | true =>
   have hl := hereP_len hh s2
   simp only [List.length_cons, List.length_nil, Nat.zero_add] at hl
   rw [if_pos rfl, Bool.not_true, cF, w64 (by omega) (by omega)]
   exact ⟨_, _, rfl, rfl, rfl, fun _ => ⟨by show ((_ : Nat) : Int) = _; simp, ⟨rfl, rfl, rfl, rfl, rfl⟩⟩⟩
 ·rw [if_neg he]
  dsimp only
  rw [show (e != 0) = true by simpa using he, cT, cT]
  exact ⟨_, _, rfl, rfl, tokS_bad he⟩
theorem upTo_eq (b : LB) (i k : Nat) (t : Tk) (w : LB) (hw : w ≠ []) (hi : i + k ≤ b.length) (hb : b.length ≤ 1073741824) (hwl : w.length ≤ 100) : Fs_upTo ⟨b, (i : Int)⟩ t (k : Int) w =
  some (if Lib.index (b.drop (i + k)) w < 0 then (23, ⟨b, (i : Int)⟩, t) else (0, ⟨b, ((i + k + (Lib.index (b.drop (i + k)) w).toNat + w.length : Nat) : Int)⟩, ⟨t.Kind, t.At, t.Name, t.Pairs, (b.drop (i + k)).take (Lib.index (b.drop (i + k)) w).toNat, t.Refs⟩)) := by
 unfold Fs_upTo
 dsimp only
 rw [w64 (x := (i : Int) + (k : Int)) (by omega) (by omega), show (i : Int) + (k : Int) = ((i + k : Nat) : Int) by omega, slc_drop (by omega), bS]
 unfold L_bIndex
 rw [if_pos ⟨by rw [List.length_drop]; omega, by omega, hw⟩, bS]
 by_cases hn : Lib.index (b.drop (i + k)) w < 0
 ·rw [dT hn, cT, if_pos hn]
 ·obtain ⟨m, e1⟩ : ∃ m : Nat, Lib.index (b.drop (i + k)) w = (m : Int) := ⟨(Lib.index (b.drop (i + k)) w).toNat, by omega⟩
  obtain ⟨_, e2⟩ := index_occ e1 hw
  rw [List.length_drop] at e2
  rw [dF hn, cF, if_neg hn, e1, Int.toNat_natCast, slc_take0 (by rw [List.length_drop]; omega), bS, w64 (x := (k : Int) + (m : Int)) (by omega) (by omega), w64 (x := (k : Int) + (m : Int) + (w.length : Int)) (by omega) (by omega), w64 (by omega) (by omega)]
  congr 3
  congr 1
  omega
theorem instr_two (b : LB) (i : Nat) (hi : i + 2 ≤ b.length) (hb : b.length ≤ 1073741824) (hok : OkT (b.drop (i + 2))) : ∃ x y, Fs_instr ⟨b, (i : Int)⟩ (tok0 i) = some x ∧ Fc_instruction b (IntKind.wrap .i64 ((i : Int) + (2 : Int))) = some y ∧ TokS x y := by
 obtain ⟨v, e, j, h1, h2, h3, h4, h5⟩ := written_two b (i + 2) hi hb hok
 unfold Fs_instr Fc_instruction
 dsimp only
 rw [w64 (x := (i : Int) + 2) (by omega) (by omega), show (i : Int) + 2 = ((i + 2 : Nat) : Int) by omega, h1, h2, bS, bS]
 by_cases he : e = 0
 case neg =>
  rw [if_neg he]
  dsimp only
  rw [show (e != 0) = true by simpa using he, cT, cT]
  exact ⟨_, _, rfl, rfl, tokS_bad he⟩
 subst he
 rw [if_pos rfl]
 dsimp only
 obtain ⟨k1, k2, k3⟩ := h5 rfl
 have hvl : v.length ≤ 1073741824 := by rw [k2, List.length_take, List.length_drop]; omega
 rw [show ((0 : Int) != 0) = false from rfl, cF, cF, F_nameC, F_name1, bS, bS]
 cases nameP v with
 | false => exact ⟨_, _, rfl, rfl, tokS_bad (e := 24) (by decide)⟩
 | true =>
  rw [Bool.not_true, cF, cF, eqf_xmlV v hvl, small_eq v hvl, bS, bS]
  cases v.map lowB == [120, 109, 108] with
  | true => exact ⟨_, _, rfl, rfl, tokS_bad (e := 29) (by decide)⟩
  | false =>
   rw [cF, cF, here_eq b j _ h4, stands_at b j _ h4 hb (by decide), bS, bS]
   cases hh : hereP b j [63, 62] with
   | true =>
    have hl := hereP_len hh h4
    simp only [List.length_cons, List.length_nil, Nat.zero_add, Nat.reduceAdd] at hl
    rw [cT, cT, sign_eq b j _ h4 hb, bS, hh, if_pos rfl, w64 (by omega) (by omega)]
    exact ⟨_, _, rfl, rfl, rfl, fun _ => ⟨by show ((_ : Nat) : Int) = _; simp, ⟨rfl, rfl, rfl, rfl, rfl⟩⟩⟩
   | false =>
    obtain ⟨s1, s2⟩ := sk_le wsP b j h4
    rw [cF, cF, spaces_eq b _ j h4 hb, white_at b j h4 hb, bS, bS, find_at b _ _ s2 hb (by simp) (by decide), bS]
    cases hj : (((sk wsP b j : Nat) : Int) == (j : Int)) with
    | true => exact ⟨_, _, rfl, rfl, tokS_bad (e := 23) (by decide)⟩
    | false =>
     have hup := upTo_eq b (sk wsP b j) 0 ⟨(8 : Int), (i : Int), v, ([] : List TP), ([] : LB), (0 : Int)⟩ [63, 62] (by simp) (by omega) hb (by decide)
     rw [show ((0 : Nat) : Int) = 0 from rfl, Nat.add_zero] at hup
     rw [cF, hup, bS, Bool.false_or]
     by_cases hn : Lib.index (b.drop (sk wsP b j)) [63, 62] < 0
     ·rw [if_pos hn, if_pos hn]
      exact ⟨_, _, rfl, rfl, tokS_bad (e := 23) (by decide)⟩
     ·obtain ⟨m, e1⟩ : ∃ m : Nat, Lib.index (b.drop (sk wsP b j)) [63, 62] = (m : Int) := ⟨(Lib.index (b.drop (sk wsP b j)) [63, 62]).toNat, by omega⟩
      obtain ⟨_, e2⟩ := index_occ e1 (by simp)
      rw [List.length_drop] at e2
      simp only [List.length_cons, List.length_nil, Nat.zero_add, Nat.reduceAdd] at e2
      rw [if_neg hn, if_neg hn, e1, Int.toNat_natCast, dF (by omega), cF, show ((sk wsP b j : Nat) : Int) + (m : Int) = ((sk wsP b j + m : Nat) : Int) by omega, slc_seg (by omega) (by omega), bS, show sk wsP b j + m - sk wsP b j = m by omega, w64 (by omega) (by omega)]
      exact ⟨_, _, rfl, rfl, rfl, fun _ => ⟨by show ((_ : Nat) : Int) = _; simp, ⟨rfl, rfl, rfl, rfl, rfl⟩⟩⟩
theorem comment_two (b : LB) (i : Nat) (hi : i + 4 ≤ b.length) (hb : b.length ≤ 1073741824) : ∃ x y,
  ((Fs_upTo ⟨b, (i : Int)⟩ (tokK 7 i) (4 : Int) ([45, 45] : LB)).bind fun x14 => cond (x14.1 != (0 : Int)) (some x14) ((Fs_sign x14.2.1 ([62] : LB)).bind fun x17 => some (x17.1, x17.2, x14.2.2))) = some x ∧
  ((Fc_Find b (IntKind.wrap .i64 ((i : Int) + (4 : Int))) ([45, 45] : LB)).bind fun x14 =>
     (letJ (fun v17 : Bool => cond v17
      (some (tk0, (0 : Int), (23 : Int)))
      ((slc b (IntKind.wrap .i64 ((i : Int) + (4 : Int))) x14).bind fun x20 =>
      some ((⟨(7 : Int), (0 : Int), ([] : LB), ([] : List TP), x20, (0 : Int)⟩ : TR), (IntKind.wrap .i64 (x14 + (3 : Int))), (0 : Int)))) fun J16 => cond (decide (x14 < (0 : Int))) (J16 true) ((Fc_Stands b x14 ([45, 45, 62] : LB)).bind fun x18 =>
     J16 (!x18)))) = some y ∧ TokS x y := by
 have hup := upTo_eq b i 4 (tokK 7 i) [45, 45] (by simp) hi hb (by decide)
 rw [show ((4 : Nat) : Int) = 4 from rfl] at hup
 rw [hup, bS, w64 (x := (i : Int) + 4) (by omega) (by omega), show (i : Int) + 4 = ((i + 4 : Nat) : Int) by omega, find_at b _ _ hi hb (by simp) (by decide), bS]
 simp only [letJ]
 by_cases hn : Lib.index (b.drop (i + 4)) [45, 45] < 0
 ·rw [if_pos hn, if_pos hn]
  exact ⟨_, _, rfl, rfl, tokS_bad (e := 23) (by decide)⟩
 ·obtain ⟨m, e1⟩ : ∃ m : Nat, Lib.index (b.drop (i + 4)) [45, 45] = (m : Int) := ⟨(Lib.index (b.drop (i + 4)) [45, 45]).toNat, by omega⟩
  obtain ⟨e3, e2⟩ := index_occ e1 (by simp)
  rw [List.length_drop] at e2
  simp only [List.length_cons, List.length_nil, Nat.zero_add, Nat.reduceAdd] at e2
  rw [List.drop_drop] at e3
  rw [if_neg hn, if_neg hn, e1, Int.toNat_natCast, dF (by omega), cF, show ((i + 4 : Nat) : Int) + (m : Int) = ((i + 4 + m : Nat) : Int) by omega, stands_at b _ _ (by omega) hb (by decide), bS]
  dsimp only
  rw [show ((0 : Int) != 0) = false from rfl, cF, sign_eq b (i + 4 + m + ([45, 45] : LB).length) _ (by show i + 4 + m + 2 ≤ _; omega) hb, bS]
  have hh : hereP b (i + 4 + m) [45, 45, 62] = hereP b (i + 4 + m + ([45, 45] : LB).length) [62] := by
   have h0 : hereP b (i + 4 + m) [45, 45] = true := e3
   rw [hereP_cons, hereP_cons, hereP_nil, Bool.and_true, Bool.and_eq_true] at h0
   rw [hereP_cons, hereP_cons, h0.1, h0.2]; rfl
  rw [hh]
  cases hh2 : hereP b (i + 4 + m + ([45, 45] : LB).length) [62] with
  | false => rw [if_neg (c := false = true) (by simp)]; exact ⟨_, _, rfl, rfl, tokS_bad (e := 23) (by decide)⟩
  | true =>
   have hl := hereP_len hh2 (by show i + 4 + m + 2 ≤ _; omega)
   have hl : i + 4 + m + 2 + 1 ≤ b.length := hl
   rw [if_pos rfl, Bool.not_true, cF, slc_seg (by omega) (by omega), bS, w64 (by omega) (by omega), show i + 4 + m - (i + 4) = m by omega]
   exact ⟨_, _, rfl, rfl, rfl, fun _ => ⟨by show ((_ : Nat) : Int) = _; simp; omega, ⟨rfl, rfl, rfl, rfl, rfl⟩⟩⟩
theorem cdata_two (b : LB) (i : Nat) (hi : i + 9 ≤ b.length) (hb : b.length ≤ 1073741824) : ∃ x y, Fs_upTo ⟨b, (i : Int)⟩ (tokK 6 i) (9 : Int) ([93, 93, 62] : LB) = some x ∧
  ((Fc_Find b (IntKind.wrap .i64 ((i : Int) + (9 : Int))) ([93, 93, 62] : LB)).bind fun x23 =>
     cond (decide (x23 < (0 : Int)))
     (some (tk0, (0 : Int), (23 : Int)))
     ((slc b (IntKind.wrap .i64 ((i : Int) + (9 : Int))) x23).bind fun x25 =>
     some ((⟨(6 : Int), (0 : Int), ([] : LB), ([] : List TP), x25, (0 : Int)⟩ : TR), (IntKind.wrap .i64 (x23 + (3 : Int))), (0 : Int)))) = some y ∧ TokS x y := by
 have hup := upTo_eq b i 9 (tokK 6 i) [93, 93, 62] (by simp) hi hb (by decide)
 rw [show ((9 : Nat) : Int) = 9 from rfl] at hup
 rw [hup, w64 (x := (i : Int) + 9) (by omega) (by omega), show (i : Int) + 9 = ((i + 9 : Nat) : Int) by omega, find_at b _ _ hi hb (by simp) (by decide), bS]
 by_cases hn : Lib.index (b.drop (i + 9)) [93, 93, 62] < 0
 ·rw [if_pos hn, if_pos hn]
  exact ⟨_, _, rfl, rfl, tokS_bad (e := 23) (by decide)⟩
 ·obtain ⟨m, e1⟩ : ∃ m : Nat, Lib.index (b.drop (i + 9)) [93, 93, 62] = (m : Int) := ⟨(Lib.index (b.drop (i + 9)) [93, 93, 62]).toNat, by omega⟩
  obtain ⟨_, e2⟩ := index_occ e1 (by simp)
  rw [List.length_drop] at e2
  simp only [List.length_cons, List.length_nil, Nat.zero_add, Nat.reduceAdd] at e2
  rw [if_neg hn, if_neg hn, e1, Int.toNat_natCast, dF (by omega), cF, show ((i + 9 : Nat) : Int) + (m : Int) = ((i + 9 + m : Nat) : Int) by omega, slc_seg (by omega) (by omega), bS, show i + 9 + m - (i + 9) = m by omega, w64 (by omega) (by omega)]
  exact ⟨_, _, rfl, rfl, rfl, fun _ => ⟨by show ((_ : Nat) : Int) = _; simp, ⟨rfl, rfl, rfl, rfl, rfl⟩⟩⟩
theorem any_lp {α σ ρ : Type} {b : (σ → Option ρ) → σ → Option ρ} (l : List α) (P : α → Bool) (f : Nat → σ) (r e : ρ)
  (hs : ∀ (rec : σ → Option ρ) (k : Nat) (h : k < l.length), b rec (f k) = cond (P l[k]) (some r) (rec (f (k + 1))))
  (he : ∀ rec : σ → Option ρ, b rec (f l.length) = some e) : ∀ (n k : Nat), k ≤ l.length → l.length - k < n → iter b n (f k) = some (if (l.drop k).any P = true then r else e)
 | 0, k, _, h => by omega
 | n + 1, k, hk, h => by
  rw [iter_succ]
  by_cases hl : k < l.length
  ·rw [hs _ k hl, List.drop_eq_getElem_cons hl, List.any_cons]
   cases P l[k] with
   | true => rw [cT, Bool.true_or, if_pos rfl]
   | false => rw [cF, Bool.false_or, any_lp l P f r e hs he n (k + 1) (by omega) (by omega)]
  ·have : k = l.length := by omega
   subst this
   rw [he, List.drop_length]; rfl
theorem dup_s (k At : Int) (Nm : LB) (ps : List TP) (Tx : LB) (rf : Int) (x27 x31 : (LB × Int) × TS) (hl : ps.length ≤ 1073741824) :
  iter (Fs_tag_l1 k At Nm ps Tx rf x27 x31) FUEL (0 : Int) = some (if (ps.any fun p => p.Name == x27.1.1) = true then .inr ((27 : Int), x31.2, ⟨k, At, Nm, ps, Tx, rf⟩) else .inl ()) := by
 have := any_lp (b := Fs_tag_l1 k At Nm ps Tx rf x27 x31) ps (fun p => p.Name == x27.1.1) (fun n => (n : Int)) (.inr ((27 : Int), x31.2, ⟨k, At, Nm, ps, Tx, rf⟩)) (.inl ()) (fun rec i hi => by
  unfold Fs_tag_l1
  rw [dT (by omega), cT, idx_some hi, bS, w64 (x := (i : Int) + 1) (by omega) (by omega)]
  rfl) (fun rec => by
  unfold Fs_tag_l1
  rw [dF (by omega), cF]) FUEL 0 (Nat.zero_le _) (by unfold FUEL; omega)
 rw [List.drop_zero] at this
 exact this
theorem dup_r (ps : List TP) (x30 : LB × Int × Int) (hl : ps.length ≤ 1073741824) :
  iter (Fc_tag_l1 ps x30) FUEL ((0 : Int), (0 : Int), ([] : LB), ([] : List TP), ([] : LB), (0 : Int), (0 : Int)) = some (if (ps.any fun p => p.Name == x30.1) = true then .inr (tk0, (0 : Int), (27 : Int)) else .inl ((0 : Int), (0 : Int), ([] : LB), ([] : List TP), ([] : LB), (0 : Int))) := by
 have := any_lp (b := Fc_tag_l1 ps x30) ps (fun p => p.Name == x30.1) (fun n => ((0 : Int), (0 : Int), ([] : LB), ([] : List TP), ([] : LB), (0 : Int), (n : Int))) (.inr (tk0, (0 : Int), (27 : Int))) (.inl ((0 : Int), (0 : Int), ([] : LB), ([] : List TP), ([] : LB), (0 : Int))) (fun rec i hi => by
  unfold Fc_tag_l1
  dsimp only
  rw [dT (by omega), cT, idx_some hi, bS, w64 (x := (i : Int) + 1) (by omega) (by omega)]
  rfl) (fun rec => by
  unfold Fc_tag_l1
  dsimp only
  rw [dF (by omega), cF]) FUEL 0 (Nat.zero_le _) (by unfold FUEL; omega)
 rw [List.drop_zero] at this
 exact this
theorem okT_sk {b : LB} {j : Nat} (h : OkT b) (hj : j ≤ b.length) (hlt : j < sk wsP b j) : OkT (b.drop (sk wsP b j)) := by
 obtain ⟨c, h1, h2⟩ := sk_all (P := wsP) (s := b) (i := j) (k := sk wsP b j - 1) (sk wsP b j - 1 - j) (by omega) (by omega)
 have := (okT_at h h1 (ws_lo c h2)).2
 rwa [show sk wsP b j - 1 + 1 = sk wsP b j by omega] at this
theorem tag_two (b : LB) (i : Nat) (hi : i + 1 ≤ b.length) (hb' : b.length ≤ 65536) (hok : OkT b) (h60 : b[i]? = some 60) : ∃ x y, Fs_tag ⟨b, (i : Int)⟩ (tok0 i) = some x ∧ Fc_tag b (IntKind.wrap .i64 ((i : Int) + (1 : Int))) = some y ∧ TokS x y := by
 have hb : b.length ≤ 1073741824 := by omega
 obtain ⟨v, e, j, h1, h2, h3, h4, h5⟩ := written_two b (i + 1) hi hb (okT_at hok h60 (by decide)).2
 unfold Fs_tag Fc_tag
 dsimp only
 rw [w64 (x := (i : Int) + 1) (by omega) (by omega), show (i : Int) + 1 = ((i + 1 : Nat) : Int) by omega, h1, h2, bS, bS]
 by_cases he : e = 0
 case neg =>
  rw [if_neg he]
  dsimp only
  rw [show (e != 0) = true by simpa using he, cT, cT]
  exact ⟨_, _, rfl, rfl, tokS_bad he⟩
 subst he
 rw [if_pos rfl]
 dsimp only
 rw [show ((0 : Int) != 0) = false from rfl, cF, cF]
 suffices hloop : ∃ o q, iter Fs_tag_l0 FUEL (b, (j : Int), (2 : Int), (i : Int), v, ([] : List TP), ([] : LB), (0 : Int), ([] : LB), ([] : LB)) = some o ∧
   iter (Fc_tag_l0 b) FUEL ((0 : Int), (0 : Int), ([] : LB), ([] : List TP), ([] : LB), (0 : Int), (j : Int), (2 : Int), (0 : Int), v, ([] : List TP), ([] : LB), (0 : Int)) = some q ∧ TokS o q by
  obtain ⟨o, q, e1, e2, e3⟩ := hloop
  rw [e1, e2]
  exact ⟨_, _, rfl, rfl, e3⟩
 refine iter_two (b := Fs_tag_l0) (c := Fc_tag_l0 b) (fun x => b.length - x.2.1.toNat) (fun x y => ∃ (j : Nat) (ps : List TP) (u1 u2 : LB), x = (b, (j : Int), (2 : Int), (i : Int), v, ps, ([] : LB), (0 : Int), u1, u2) ∧
  y = ((0 : Int), (0 : Int), ([] : LB), ([] : List TP), ([] : LB), (0 : Int), (j : Int), (2 : Int), (0 : Int), v, ps, ([] : LB), (0 : Int)) ∧ j ≤ b.length ∧ ps.length ≤ j) _ ?_ FUEL FUEL _ _ ⟨j, [], [], [], rfl, rfl, h4, by simp⟩ (by unfold FUEL; dsimp only; omega) (by unfold FUEL; dsimp only; omega)
 clear h1 h2 h3 h4 h5
 rintro _ _ ⟨j, ps, u1, u2, rfl, rfl, g1, g2⟩
 obtain ⟨s1, s2⟩ := sk_le wsP b j g1
 have preS : ∀ rec, Fs_tag_l0 rec (b, (j : Int), (2 : Int), (i : Int), v, ps, ([] : LB), (0 : Int), u1, u2) =
   cond (hereP b (sk wsP b j) [47, 62]) (some (0, ⟨b, ((sk wsP b j + 2 : Nat) : Int)⟩, ⟨4, (i : Int), v, ps, [], 0⟩)) (cond (hereP b (sk wsP b j) [62]) (some (0, ⟨b, ((sk wsP b j + 1 : Nat) : Int)⟩, ⟨2, (i : Int), v, ps, [], 0⟩))
   (cond (((sk wsP b j : Nat) : Int) == (j : Int)) (some ((23 : Int), (⟨b, ((sk wsP b j : Nat) : Int)⟩ : TS), (⟨2, (i : Int), v, ps, [], 0⟩ : TK)))
   ((Fs_name (⟨b, ((sk wsP b j : Nat) : Int)⟩ : TS)).bind fun x27 =>
   cond (x27.1.2 != (0 : Int))
   (some (x27.1.2, x27.2, (⟨2, (i : Int), v, ps, [], 0⟩ : TK)))
   ((Fs_equals x27.2).bind fun x29 =>
   cond (x29.1 != (0 : Int))
    (some (x29.1, x29.2, (⟨2, (i : Int), v, ps, [], 0⟩ : TK)))
    ((Fs_quoted x29.2).bind fun x31 =>
    cond (x31.1.2 != (0 : Int))
    (some (x31.1.2, x31.2, (⟨2, (i : Int), v, ps, [], 0⟩ : TK)))
    ((Fr_ReadValue x31.1.1).bind fun x33 =>
    cond (x33.2.2 != (0 : Int))
     (some (x33.2.2, x31.2, (⟨2, (i : Int), v, ps, [], 0⟩ : TK)))
     (cond (ps.any fun p => p.Name == x27.1.1) (some ((27 : Int), x31.2, ⟨2, (i : Int), v, ps, [], 0⟩))
     ((app 32 ps [(⟨x27.1.1, x33.1⟩ : TP)]).bind fun _ =>
      (some (ps ++ [(⟨x27.1.1, x33.1⟩ : TP)])).bind fun a51 =>
     rec (x31.2.b, x31.2.at_, (2 : Int), (i : Int), v, a51, [], 0, x27.1.1, x33.1))))))))) := by
  intro rec
  unfold Fs_tag_l0
  dsimp only
  rw [spaces_eq b _ j g1 hb, bS, here_eq b _ _ s2, bS, here_eq b _ _ s2, sign_eq b _ _ s2 hb, sign_eq b _ _ s2 hb, bS]
  cases c1 : hereP b (sk wsP b j) [47, 62] with
  | true => rw [cT, cT, if_pos rfl]; rfl
  | false =>
   rw [cF, cF, bS]
   cases c2 : hereP b (sk wsP b j) [62] with
   | true => rw [cT, cT, if_pos rfl]; rfl
   | false =>
    rw [cF, cF]
    simp only [letJ, dup_s _ _ _ ps _ _ _ _ (show ps.length ≤ 1073741824 by omega), bS]
    cases ((sk wsP b j : Nat) : Int) == (j : Int) with
    | true => rfl
    | false =>
     rw [cF, cF]
     congr 1; funext x27
     congr 1
     congr 1; funext x29
     congr 1
     congr 1; funext x31
     congr 1
     congr 1; funext x33
     congr 1
     cases ps.any fun p => p.Name == x27.1.1 <;> rfl
 have preR : ∀ rec, Fc_tag_l0 b rec ((0 : Int), (0 : Int), ([] : LB), ([] : List TP), ([] : LB), (0 : Int), (j : Int), (2 : Int), (0 : Int), v, ps, ([] : LB), (0 : Int)) =
   cond (hereP b (sk wsP b j) [62]) (some (⟨2, 0, v, ps, [], 0⟩, ((sk wsP b j + 1 : Nat) : Int), 0)) (cond (hereP b (sk wsP b j) [47, 62]) (some (⟨4, 0, v, ps, [], 0⟩, ((sk wsP b j + 2 : Nat) : Int), 0))
   (cond (((sk wsP b j : Nat) : Int) == (j : Int)) (some (tk0, (0 : Int), (23 : Int)))
   ((Fc_written b ((sk wsP b j : Nat) : Int)).bind fun x30 =>
   cond (x30.2.2 != (0 : Int))
   (some (tk0, (0 : Int), x30.2.2))
   ((Fc_value b x30.2.1).bind fun x32 =>
   cond (decide (x32.2 < (0 : Int)))
    (some (tk0, (0 : Int), (23 : Int)))
    ((Fb_Read x32.1 true).bind fun x34 =>
    cond (x34.2.2 != (0 : Int))
    (some (tk0, (0 : Int), x34.2.2))
    (cond (ps.any fun p => p.Name == x30.1) (some (tk0, (0 : Int), (27 : Int)))
     ((app 32 ps [(⟨x30.1, x34.1⟩ : TP)]).bind fun _ =>
     rec ((0 : Int), (0 : Int), ([] : LB), ([] : List TP), ([] : LB), (0 : Int), x32.2, (2 : Int), (0 : Int), v, (ps ++ [(⟨x30.1, x34.1⟩ : TP)]), ([] : LB), (0 : Int))))))))) := by
  intro rec
  unfold Fc_tag_l0
  dsimp only
  rw [white_at b j g1 hb, bS, stands_at b _ _ s2 hb (by decide), bS, stands_at b _ _ s2 hb (by decide)]
  cases c2 : hereP b (sk wsP b j) [62] with
  | true =>
   have hl := hereP_len c2 s2
   simp only [List.length_cons, List.length_nil, Nat.zero_add] at hl
   rw [cT, cT, w64 (by omega) (by omega)]; rfl
  | false =>
   rw [cF, cF, bS]
   cases c1 : hereP b (sk wsP b j) [47, 62] with
   | true =>
    have hl := hereP_len c1 s2
    simp only [List.length_cons, List.length_nil, Nat.zero_add, Nat.reduceAdd] at hl
    rw [cT, cT, w64 (by omega) (by omega)]; rfl
   | false =>
    rw [cF, cF]
    simp only [letJ, dup_r ps _ (show ps.length ≤ 1073741824 by omega), bS]
    cases ((sk wsP b j : Nat) : Int) == (j : Int) with
    | true => rfl
    | false =>
     rw [cF, cF]
     congr 1; funext x30
     congr 1
     congr 1; funext x32
     congr 1
     congr 1; funext x34
     congr 1
     cases ps.any fun p => p.Name == x30.1 <;> rfl
 cases c1 : hereP b (sk wsP b j) [47, 62] with
 | true =>
  have c2 : hereP b (sk wsP b j) [62] = false := by
   have := hereP_get c1
   rw [hereP_one, this]; rfl
  rw [c1, c2] at preS preR
  exact .inr ⟨_, _, preS, preR, rfl, fun _ => ⟨rfl, ⟨rfl, rfl, rfl, rfl, rfl⟩⟩⟩
 | false =>
  cases c2 : hereP b (sk wsP b j) [62] with
  | true =>
   rw [c1, c2] at preS preR
   exact .inr ⟨_, _, preS, preR, rfl, fun _ => ⟨rfl, ⟨rfl, rfl, rfl, rfl, rfl⟩⟩⟩
  | false =>
   rw [c1, c2] at preS preR
   cases c3 : (((sk wsP b j : Nat) : Int) == (j : Int)) with
   | true =>
    rw [c3] at preS preR
    exact .inr ⟨_, _, preS, preR, tokS_bad (e := 23) (by decide)⟩
   | false =>
    rw [c3] at preS preR
    simp only [cF] at preS preR
    have hlt : j < sk wsP b j := by rw [beq_eq_false_iff_ne] at c3; omega
    obtain ⟨nm, e, j2, n1, n2, n3, n4, n5⟩ := written_two b (sk wsP b j) s2 hb (okT_sk hok g1 hlt)
    rw [n1] at preS
    rw [n2] at preR
    simp only [bS] at preS preR
    by_cases he : e = 0
    case neg =>
     rw [if_neg he] at preR
     rw [show (e != 0) = true by simpa using he] at preS preR
     exact .inr ⟨_, _, preS, preR, tokS_bad he⟩
    subst he
    obtain ⟨n5, _, _⟩ := n5 rfl
    rw [if_pos rfl] at preR
    simp only [show ((0 : Int) != 0) = false from rfl, cF, equals_eq b j2 n4 hb, value_two b j2 n4 hb, bS] at preS preR
    obtain ⟨p1, p2⟩ := sk_le wsP b j2 n4
    cases h61 : hereP b (sk wsP b j2) [61] with
    | false =>
     rw [h61] at preS preR
     exact .inr ⟨_, _, preS, preR, tokS_bad (e := 23) (by decide)⟩
    | true =>
     have hl61 := hereP_len h61 p2
     simp only [List.length_cons, List.length_nil, Nat.zero_add] at hl61
     obtain ⟨t1, t2⟩ := sk_le wsP b (sk wsP b j2 + 1) hl61
     simp only [h61, if_true, show ((0 : Int) != 0) = false from rfl, cF] at preS preR
     generalize sk wsP b (sk wsP b j2 + 1) = k2 at *
     rw [quoted_eq b k2 t2 hb] at preS
     simp only [bS] at preS
     by_cases hq : (quo b k2).1.2 = 0
     case neg =>
      have hq23 := quo_no b k2 hq
      rw [if_neg hq] at preR
      rw [hq23] at preS
      exact .inr ⟨_, _, preS, preR, tokS_bad (e := 23) (by decide)⟩
     obtain ⟨rv, j3, hqv, v1, v2, v3⟩ := quo_ok b k2 t2 hb hq
     rw [if_pos hq] at preR
     rw [hqv] at preS preR
     dsimp only at preS preR
     obtain ⟨⟨tx, ep, er⟩, hr⟩ := read_some rv true (by omega)
     unfold Fr_ReadValue at preS
     rw [hr] at preS
     rw [dF (show ¬ (j3 : Int) < 0 by omega), read_two rv true (by omega), hr] at preR
     simp only [show ((0 : Int) != 0) = false from rfl, cF, bS] at preS preR
     by_cases her : er = 0
     case neg =>
      rw [show (er != 0) = true by simpa using her] at preS preR
      exact .inr ⟨_, _, preS, preR, tokS_bad her⟩
     subst her
     simp only [show ((0 : Int) != 0) = false from rfl, cF] at preS preR
     cases hd : ps.any fun p => p.Name == nm with
     | true =>
      rw [hd] at preS preR
      exact .inr ⟨_, _, preS, preR, tokS_bad (e := 27) (by decide)⟩
     | false =>
      have happ : app 32 ps [(⟨nm, tx⟩ : TP)] = some (ps ++ [(⟨nm, tx⟩ : TP)]) := app_some (by simp; omega) (by simp; omega)
      rw [hd, happ] at preS preR
      exact .inl ⟨_, _, preS, preR, ⟨j3, ps ++ [(⟨nm, tx⟩ : TP)], nm, tx, rfl, rfl, v2, by simp; omega⟩, by dsimp only; rw [Int.toNat_natCast, Int.toNat_natCast]; omega⟩
theorem cnt_loop (b : LB) (f : Nat) (hf : f ≤ b.length) (hb : b.length ≤ 1073741824) : ∀ (n k : Nat) (c : Nat), k ≤ f → c ≤ k → f - k < n → iter (Fc_One_l0 b (f : Int)) n ((c : Int), (k : Int)) = some ((c + ((b.drop k).take (f - k)).count 38 : Nat) : Int)
 | 0, k, c, _, _, h => by omega
 | n + 1, k, c, hk, hc, h => by
  rw [iter_succ]
  unfold Fc_One_l0
  dsimp only
  by_cases hl : k < f
  ·have hkl : k < b.length := by omega
   rw [dT (by omega), cT, idx_some hkl, w64 (x := (c : Int) + 1) (by omega) (by omega), w64 (x := (k : Int) + 1) (by omega) (by omega)]
   simp only [letJ, bS]
   have hseg : (b.drop k).take (f - k) = b[k] :: (b.drop (k + 1)).take (f - (k + 1)) := by
    rw [List.drop_eq_getElem_cons hkl, show f - k = (f - (k + 1)) + 1 by omega, List.take_succ_cons]
   rw [hseg, List.count_cons, show (38 : Int) = ((38 : Nat) : Int) from rfl, byte_is _ 38 (by decide)]
   have e : (b[k] == UInt8.ofNat 38) = (b[k] == 38) := rfl
   rw [e, show (k : Int) + 1 = ((k + 1 : Nat) : Int) by omega, show (c : Int) + 1 = ((c + 1 : Nat) : Int) by omega]
   have r1 := cnt_loop b f hf hb n (k + 1) (c + 1) (by omega) (by omega) (by omega)
   have r2 := cnt_loop b f hf hb n (k + 1) c (by omega) (by omega) (by omega)
   unfold Fc_One_l0 at r1 r2
   cases b[k] == 38 with
   | true => rw [cT, if_pos rfl]; refine r1.trans ?_; congr 2; omega
   | false => rw [cF, if_neg (by simp)]; refine r2.trans ?_; congr 2
  ·have : k = f := by omega
   subst this
   rw [dF (by omega), cF, Nat.sub_self, List.take_zero]; rfl
abbrev textRef (b : LB) (i : Int) : Option (TR × Int × Int) :=
 ((Fc_Find b i ([60] : LB)).bind fun x43 =>
       letJ (fun a45 : Int =>
        (slc b i a45).bind fun x48 =>
        (Fb_Read x48 false).bind fun x49 =>
        cond (x49.2.2 != (0 : Int))
        (some (tk0, (0 : Int), x49.2.2))
        (letJ (fun a59 : Int =>
         some ((⟨(5 : Int), (0 : Int), ([] : LB), ([] : List TP), x49.1, a59⟩ : TR), a45, (0 : Int))) fun J60 =>
         (iter (Fc_One_l0 b a45) FUEL ((0 : Int), i)).bind fun o =>
        J60 o)) fun J46 =>
       cond (decide (x43 < (0 : Int)))
        (J46 (b.length : Int))
        (J46 x43))
theorem cnt_from (b : LB) (i f : Nat) (hf : f ≤ b.length) (hif : i ≤ f) (hb : b.length ≤ 1073741824) : iter (Fc_One_l0 b (f : Int)) FUEL ((0 : Int), (i : Int)) = some ((((b.drop i).take (f - i)).count 38 : Nat) : Int) := by
 have := cnt_loop b f hf hb FUEL i 0 hif (Nat.zero_le _) (by unfold FUEL; omega)
 rw [Nat.zero_add] at this
 exact this
theorem text_two (b : LB) (i : Nat) (hi : i < b.length) (hb : b.length ≤ 1073741824) (h60 : b[i]? ≠ some 60) : ∃ x y, Fs_text ⟨b, (i : Int)⟩ (tok0 i) = some x ∧ textRef b (i : Int) = some y ∧ TokS x y := by
 obtain ⟨f, T⟩ := text_ex hi h60
 obtain ⟨t1, t2, t3, t4⟩ := T
 have hseg : ((b.drop i).take (f - i)).length ≤ 1073741824 := by rw [List.length_take, List.length_drop]; omega
 obtain ⟨⟨tx, ep, er⟩, hr⟩ := read_some ((b.drop i).take (f - i)) false hseg
 rw [text_mk hb ⟨t1, t2, t3, t4⟩]
 unfold textR Fr_ReadText L_bCount
 rw [hr, bS, bS, bS]
 have core : ((slc b (i : Int) (f : Int)).bind fun x48 =>
        (Fb_Read x48 false).bind fun x49 =>
        cond (x49.2.2 != (0 : Int))
        (some (tk0, (0 : Int), x49.2.2))
        ((iter (Fc_One_l0 b (f : Int)) FUEL ((0 : Int), (i : Int))).bind fun o =>
        some ((⟨(5 : Int), (0 : Int), ([] : LB), ([] : List TP), x49.1, o⟩ : TR), (f : Int), (0 : Int)))) = some (if er = 0 then (⟨(5 : Int), (0 : Int), [], [], tx, ((((b.drop i).take (f - i)).count 38 : Nat) : Int)⟩, (f : Int), 0) else (tk0, 0, er)) := by
  rw [slc_seg (Nat.le_of_lt t1) t2, bS, read_two _ false hseg, hr, bS, cnt_from b i f t2 (Nat.le_of_lt t1) hb]
  dsimp only
  by_cases he : er = 0
  ·subst he
   rw [show ((0 : Int) != 0) = false from rfl, cF, if_pos rfl]; rfl
  ·rw [show (er != 0) = true by simpa using he, cT, if_neg he]
 have hfin : ∃ y, some (if er = 0 then (⟨(5 : Int), (0 : Int), [], [], tx, ((((b.drop i).take (f - i)).count 38 : Nat) : Int)⟩, (f : Int), 0) else (tk0, 0, er)) = some y ∧ TokS (er, (⟨b, (f : Int)⟩ : TS), (⟨(5 : Int), (i : Int), [], [], tx, ((Lib.countByte ((b.drop i).take (f - i)) 38 : Nat) : Int)⟩ : Tk)) y := by
  by_cases he : er = 0
  ·subst he
   rw [if_pos rfl]
   exact ⟨_, rfl, rfl, fun _ => ⟨rfl, ⟨rfl, rfl, rfl, rfl, rfl⟩⟩⟩
  ·rw [if_neg he]
   exact ⟨_, rfl, tokS_bad he⟩
 obtain ⟨y, hy1, hy2⟩ := hfin
 refine ⟨_, y, rfl, ?_, hy2⟩
 rw [← hy1, ← core]
 unfold textRef
 simp only [letJ]
 rw [find_at b i _ (Nat.le_of_lt hi) hb (by simp) (by decide), bS, index_one]
 by_cases hf : f = b.length
 ·have hno : Lib.indexByte (b.drop i) 60 < 0 := by
   by_cases hn : Lib.indexByte (b.drop i) 60 < 0
   ·exact hn
   ·obtain ⟨m, e1, e2⟩ := ixB_nat _ _ hn
    have := (Lib.indexByte_some e1).1
    rw [List.getElem?_drop] at this
    rw [List.length_drop] at e2
    exact absurd this (t3 (i + m) (by omega) (by omega))
  rw [if_pos hno, show decide ((-1 : Int) < 0) = true from rfl, cT, ← hf]
 ·have hx : Lib.indexByte (b.drop i) 60 = ((f - i : Nat) : Int) := by
   refine ixB_of ?_ fun k hk => ?_
   ·rw [List.getElem?_drop, show i + (f - i) = f by omega]
    rcases t4 with h4 | h4
    ·exact absurd h4 hf
    ·exact h4
   ·rw [List.getElem?_drop]; exact t3 (i + k) (by omega) (by omega)
  rw [hx, if_neg (by omega), dF (by omega), cF, show (i : Int) + ((f - i : Nat) : Int) = (f : Int) by omega]
abbrev commentRef (b : LB) (i : Int) : Option (TR × Int × Int) :=
 ((Fc_Find b (IntKind.wrap .i64 (i + (4 : Int))) ([45, 45] : LB)).bind fun x14 =>
     (letJ (fun v17 : Bool => cond v17
      (some (tk0, (0 : Int), (23 : Int)))
      ((slc b (IntKind.wrap .i64 (i + (4 : Int))) x14).bind fun x20 =>
      some ((⟨(7 : Int), (0 : Int), ([] : LB), ([] : List TP), x20, (0 : Int)⟩ : TR), (IntKind.wrap .i64 (x14 + (3 : Int))), (0 : Int)))) fun J16 => cond (decide (x14 < (0 : Int))) (J16 true) ((Fc_Stands b x14 ([45, 45, 62] : LB)).bind fun x18 =>
     J16 (!x18))))
abbrev cdataRef (b : LB) (i : Int) : Option (TR × Int × Int) :=
 ((Fc_Find b (IntKind.wrap .i64 (i + (9 : Int))) ([93, 93, 62] : LB)).bind fun x23 =>
     cond (decide (x23 < (0 : Int)))
     (some (tk0, (0 : Int), (23 : Int)))
     ((slc b (IntKind.wrap .i64 (i + (9 : Int))) x23).bind fun x25 =>
     some ((⟨(6 : Int), (0 : Int), ([] : LB), ([] : List TP), x25, (0 : Int)⟩ : TR), (IntKind.wrap .i64 (x23 + (3 : Int))), (0 : Int))))
abbrev closingRef (b : LB) (i : Int) : Option (TR × Int × Int) :=
 ((Fc_written b (IntKind.wrap .i64 (i + (2 : Int)))).bind fun x35 =>
       cond (x35.2.2 != (0 : Int))
       (some (tk0, (0 : Int), x35.2.2))
       ((Fc_White b x35.2.1).bind fun x37 =>
        (Fc_Stands b x37 ([62] : LB)).bind fun x38 =>
       cond (!x38)
        (some (tk0, (0 : Int), (23 : Int)))
        (some ((⟨(3 : Int), (0 : Int), x35.1, ([] : List TP), ([] : LB), (0 : Int)⟩ : TR), (IntKind.wrap .i64 (x37 + (1 : Int))), (0 : Int)))))
def oneRest (b : LB) (i : Nat) : Option (TR × Int × Int) :=
 cond (hereP b i [60, 33, 45, 45]) (commentRef b i)
 (cond (hereP b i [60, 33, 91, 67, 68, 65, 84, 65, 91]) (cdataRef b i)
 (cond (hereP b i [60, 33, 68, 79, 67, 84, 89, 80, 69]) (some (tk0, 0, 25))
 (cond (hereP b i [60, 33]) (some (tk0, 0, 23))
 (cond (hereP b i [60, 63]) (Fc_instruction b (IntKind.wrap .i64 ((i : Int) + (2 : Int))))
 (cond (hereP b i [60, 47]) (closingRef b i)
 (cond (hereP b i [60]) (Fc_tag b (IntKind.wrap .i64 ((i : Int) + (1 : Int)))) (textRef b i)))))))
theorem bind_eta3 (o : Option (TR × Int × Int)) : (o.bind fun x => some (x.1, x.2.1, x.2.2)) = o := by cases o <;> rfl
theorem one_eq (b : LB) (i : Nat) (hi : i < b.length) (hb : b.length ≤ 1073741824) : Fc_One b (i : Int) = cond (declP b i) (Fc_declaration b) (oneRest b i) := by
 have hle := Nat.le_of_lt hi
 unfold Fc_One
 simp only [letJ, bind_eta3]
 rw [stands_at b i [60, 33, 45, 45] hle hb (by decide), stands_at b i [60, 33, 91, 67, 68, 65, 84, 65, 91] hle hb (by decide), stands_at b i [60, 33, 68, 79, 67, 84, 89, 80, 69] hle hb (by decide), stands_at b i [60, 33] hle hb (by decide), stands_at b i [60, 63] hle hb (by decide), stands_at b i [60, 47] hle hb (by decide), idx_some hi]
 have h60 : ((b[i].toNat : Int) == 60) = hereP b i [60] := by
  rw [show (60 : Int) = ((60 : Nat) : Int) from rfl, byte_is _ 60 (by decide), hereP_one, List.getElem?_eq_getElem hi]; rfl
 simp only [bS, h60]
 unfold declP
 by_cases h0 : i = 0
 ·subst h0
  rw [show (((0 : Nat) : Int) == 0) = true from rfl, cT, show (0 : Int) = ((0 : Nat) : Int) from rfl, stands_at b 0 [60, 63, 120, 109, 108] hle hb (by decide), bS, dT rfl, Bool.true_and]
  cases hx : hereP b 0 [60, 63, 120, 109, 108] with
  | false =>
   rw [cF, cF, Bool.false_and, cF]
   unfold oneRest commentRef cdataRef closingRef textRef
   simp only [letJ]
   rfl
  | true =>
   have hl := hereP_len hx hle
   simp only [List.length_cons, List.length_nil, Nat.zero_add, Nat.reduceAdd] at hl
   rw [cT, show (5 : Int) = ((5 : Nat) : Int) from rfl, white_at b 5 hl hb, bS, Bool.true_and]
   have e : decide (((5 : Nat) : Int) < ((sk wsP b 5 : Nat) : Int)) = decide (5 < sk wsP b 5) := by rw [decide_eq_decide]; omega
   rw [e]
   cases decide (5 < sk wsP b 5) with
   | true => rfl
   | false =>
    rw [cF, cF]
    unfold oneRest commentRef cdataRef closingRef textRef
    simp only [letJ]
    rfl
 ·rw [show ((i : Int) == 0) = false by rw [beq_eq_false_iff_ne]; omega, cF, cF, dF h0, Bool.false_and, cF]
  unfold oneRest commentRef cdataRef closingRef textRef
  simp only [letJ]
  rfl
theorem token_two (b : LB) (i : Nat) (hi : i < b.length) (hb' : b.length ≤ 65536) (hok : OkT b) : ∃ x y, Fs_token ⟨b, (i : Int)⟩ (tok0 i) = some x ∧ Fc_One b (i : Int) = some y ∧ TokS x y := by
 have hb : b.length ≤ 1073741824 := by omega
 have hle := Nat.le_of_lt hi
 rw [token_eq b i hle hb, one_eq b i hi hb]
 cases hd : declP b i with
 | true =>
  unfold declP at hd
  simp only [Bool.and_eq_true, decide_eq_true_eq] at hd
  have hl := hereP_len hd.2.1 (Nat.zero_le _)
  simp only [List.length_cons, List.length_nil, Nat.zero_add, Nat.reduceAdd] at hl
  exact decl_two b hl hb
 | false =>
  rw [cF, cF]
  unfold tokRest oneRest
  have two : ∀ (c : UInt8), c.toNat < 128 → hereP b i [60, c] = true → i + 2 ≤ b.length ∧ OkT (b.drop (i + 2)) := by
   intro c hc h
   have hl := hereP_len h hle
   rw [hereP_cons, hereP_cons, hereP_nil, Bool.and_true, Bool.and_eq_true, beq_iff_eq, beq_iff_eq] at h
   exact ⟨hl, (okT_at hok h.2 hc).2⟩
  cases h1 : hereP b i [60, 33, 45, 45] with
  | true =>
   have hl := hereP_len h1 hle
   exact comment_two b i hl hb
  | false =>
  rw [cF, cF]
  cases h2 : hereP b i [60, 33, 91, 67, 68, 65, 84, 65, 91] with
  | true =>
   have hl := hereP_len h2 hle
   exact cdata_two b i hl hb
  | false =>
  rw [cF, cF]
  cases hereP b i [60, 33, 68, 79, 67, 84, 89, 80, 69] with
  | true => exact ⟨_, _, rfl, rfl, tokS_bad (e := 25) (by decide)⟩
  | false =>
  rw [cF, cF]
  cases hereP b i [60, 33] with
  | true => exact ⟨_, _, rfl, rfl, tokS_bad (e := 23) (by decide)⟩
  | false =>
  rw [cF, cF]
  cases h3 : hereP b i [60, 63] with
  | true => exact instr_two b i (two 63 (by decide) h3).1 hb (two 63 (by decide) h3).2
  | false =>
  rw [cF, cF]
  cases h4 : hereP b i [60, 47] with
  | true => exact closing_two b i (two 47 (by decide) h4).1 hb (two 47 (by decide) h4).2
  | false =>
  rw [cF, cF]
  cases h5 : hereP b i [60] with
  | true => exact tag_two b i hi hb' hok (hereP_get h5)
  | false =>
   exact text_two b i hi hb (by
    intro hc
    rw [hereP_one, hc] at h5
    cases h5)
def docT (t : Tk) : TR := ⟨t.Kind, t.At, t.Name, t.Pairs, t.Text, t.Refs⟩
theorem allr_step {b : LB} {L : List TR} {j : Nat} {r : TR} {n : Int} (hL : L.length ≤ 65536) (hj : j < b.length) (h : Fc_One b (j : Int) = some (r, n, 0)) (rec) : Fc_All_l0 b rec ((j : Int), L) = rec (n, L ++ [⟨r.Kind, (j : Int), r.Name, r.Pairs, r.Text, r.Refs⟩]) := by
 unfold Fc_All_l0
 dsimp only
 rw [dT (by omega), cT, h, bS]
 dsimp only
 rw [show ((0 : Int) != 0) = false from rfl, cF, app_some (by simp; omega) (by simp; omega), bS]
theorem allr_bad {b : LB} {L : List TR} {j : Nat} {r : TR} {n e : Int} (hj : j < b.length) (he : e ≠ 0) (h : Fc_One b (j : Int) = some (r, n, e)) (rec) : Fc_All_l0 b rec ((j : Int), L) = some (.inr ([], (j : Int), e)) := by
 unfold Fc_All_l0
 dsimp only
 rw [dT (by omega), cT, h, bS]
 dsimp only
 rw [show (e != 0) = true by simpa using he, cT]
theorem all_two_l0 (b : LB) (hb : b.length ≤ 65536) (hok : OkT b) : ∃ o q, iter F_scan_All_l0 FUEL (b, (0 : Int), ([] : List TK)) = some o ∧ iter (Fc_All_l0 b) FUEL ((0 : Int), ([] : List TR)) = some q ∧
  ((∃ L : List Tk, o = (L, 0, 0) ∧ q = .inl (L.map docT) ∧ L.length ≤ 65536 ∧ ∀ t ∈ L, t.Pairs.length ≤ 1073742000) ∨ (∃ (j : Nat) (e : Int), o = ([], (j : Int), e) ∧ q = .inr ([], (j : Int), e) ∧ e ≠ 0)) := by
 refine iter_two (b := F_scan_All_l0) (c := Fc_All_l0 b) (fun x => b.length - x.2.1.toNat) (fun x y => ∃ (j : Nat) (L : List Tk), x = (b, (j : Int), L) ∧ y = ((j : Int), L.map docT) ∧ j ≤ b.length ∧ L.length ≤ j ∧ ∀ t ∈ L, t.Pairs.length ≤ 1073742000) _ ?_ FUEL FUEL _ _ ⟨0, [], rfl, rfl, Nat.zero_le _, by simp, by simp⟩ (by unfold FUEL; dsimp only; omega) (by unfold FUEL; dsimp only; omega)
 rintro _ _ ⟨j, L, rfl, rfl, g1, g2, g3⟩
 by_cases hj : j = b.length
 ·right
  subst hj
  refine ⟨(L, 0, 0), .inl (L.map docT), fun rec => all_end b L rec, fun rec => ?_, .inl ⟨L, rfl, rfl, by omega, g3⟩⟩
  unfold Fc_All_l0
  dsimp only
  rw [dF (by omega), cF]
 ·have hjl : j < b.length := by omega
  obtain ⟨x, t1, e, j2, t, rfl, t2, t3⟩ := token_sp b j hjl hb
  obtain ⟨x', ⟨r, n, e'⟩, u1, u2, u3, u4⟩ := token_two b j hjl hb hok
  have hx : x' = (e, ⟨b, (j2 : Int)⟩, t) := by
   have := u1.symm.trans t1
   exact Option.some.inj this
  subst hx
  dsimp only at u3 u4
  subst u3
  by_cases he : e = 0
  ·left
   subst he
   have t4 := t3 rfl
   obtain ⟨v1, v2⟩ := u4 rfl
   subst v1
   refine ⟨(b, (j2 : Int), L ++ [t]), _, fun rec => all_step (by omega) hjl t1 rec, fun rec => allr_step (by rw [List.length_map]; omega) hjl u2 rec, ⟨j2, L ++ [t], rfl, ?_, t2, by rw [List.length_append]; have := t4.lt; simp; omega, fun t' ht' => ?_⟩, by have := t4.lt; dsimp only; rw [Int.toNat_natCast, Int.toNat_natCast]; omega⟩
   ·rw [List.map_append, List.map_cons, List.map_nil]
    congr 2
    unfold docT
    rw [t4.at_, v2.k, v2.n, v2.p, v2.x, v2.f]
   ·rcases List.mem_append.1 ht' with h | h
    ·exact g3 t' h
    ·rw [List.mem_singleton] at h
     subst h
     have := t4.len; omega
  ·right
   exact ⟨_, _, fun rec => all_bad hjl he t1 rec, fun rec => allr_bad hjl he u2 rec, .inr ⟨j, e, rfl, rfl, he⟩⟩
theorem all_two (p : LB) (hp : p.length ≤ 1073741824) : ∃ (L : List Tk) (a e : Int), F_scan_All p = some (L, a, e) ∧ Fc_All p = some (L.map docT, a, e) ∧ L.length ≤ 65536 ∧ ∀ t ∈ L, t.Pairs.length ≤ 1073742000 := by
 by_cases h6 : 65536 < p.length
 ·unfold F_scan_All Fc_All
  rw [dT (by omega), cT, cT]
  exact ⟨[], 0, 6, rfl, rfl, by simp, by simp⟩
 ·have hpl := pln_len p
  unfold Fc_All
  rw [dF (by omega), cF, text_eq p hp, bS, F_fault _ (by omega), all_eq p (by omega)]
  simp only [letJ]
  rcases fault_iff (pln p) (by omega) with ⟨f1, f2⟩ | ⟨i, e, f1, f2, _⟩
  ·rw [f1, bS, bS]
   dsimp only
   rw [show ((0 : Int) != 0) = false from rfl, cF, cF]
   obtain ⟨o, q, e1, e2, e3⟩ := all_two_l0 (pln p) (by omega) f2
   rw [e1, e2, bS]
   rcases e3 with ⟨L, rfl, rfl, h1, h2⟩ | ⟨j, e, rfl, rfl, h1⟩
   ·exact ⟨L, 0, 0, rfl, rfl, h1, h2⟩
   ·exact ⟨[], _, e, rfl, rfl, by simp, by simp⟩
  ·rw [f1, bS, bS]
   dsimp only
   rw [show (e != 0) = true by simpa using f2, cT, cT]
   exact ⟨[], _, e, rfl, rfl, by simp, by simp⟩
theorem spare_eq (p : LB) (hp : p.length ≤ 1073741824) : Fa_Spare p = some (p, [165]) := by
 unfold Fa_Spare mkG
 rw [w64 (by omega) (by omega), if_pos (by omega), bS, bS]
 have h1 : app 1 (List.replicate (Int.toNat (0 : Int)) (0 : UInt8)) p = some p := app_some (by simp; omega) (by simp; omega)
 rw [h1, bS, bS, show u8 (165 : Int) = some 165 from rfl, bS]
 have h2 : app 1 (List.replicate (Int.toNat (0 : Int)) (0 : UInt8) ++ p) [165] = some (p ++ [165]) := app_some (by simp; omega) (by simp; omega)
 rw [h2, bS, bS]
 have h3 : (List.replicate (Int.toNat (0 : Int)) (0 : UInt8) ++ p ++ [165] ++ []) = p ++ [165] := by simp
 have h4 : (List.replicate (Int.toNat (0 : Int)) (0 : UInt8) ++ p ++ [165]) = p ++ [165] := by simp
 rw [h3, h4, show (0 : Int) = ((0 : Nat) : Int) from rfl, idx_some (show 0 < (p ++ [165]).length by simp), bS]
 have h5 : slc (p ++ [165]) ((0 : Nat) : Int) (p.length : Int) = some p := by
  rw [show ((0 : Nat) : Int) = (0 : Int) from rfl, slc_take0 (by simp), List.take_left' rfl]
 rw [h5, bS, Int.toNat_natCast, List.drop_left' rfl]
theorem kept_eq (p : LB) (hp : p.length ≤ 1073741824) : Fa_Kept (p, [165]) p = some true := by
 unfold Fa_Kept Fa_Same
 dsimp only
 simp only [letJ]
 rw [bS, beq_self_eq_true, cT, show idx ([165] : LB) (0 : Int) = some 165 from rfl, bS, cT, w64 (by omega) (by omega)]
 have h5 : slc (p ++ [165]) (0 : Int) ((p.length : Int) + 1) = some (p ++ [165]) := by
  rw [show (p.length : Int) + 1 = (((p ++ [165]).length : Nat) : Int) by simp, slc_take0 (Nat.le_refl _), List.take_length]
 rw [h5, bS, idx_some (show p.length < (p ++ [165]).length by simp), bS]
 simp
theorem reads_l0 (L : List Tk) (a e : Int) (hL : L.length ≤ 65536) (hP : ∀ t ∈ L, t.Pairs.length ≤ 1073742000) : iter (Fl_ScanReads_l0 (L, a, e) (L.map docT, a, e)) FUEL (0 : Int) = some (.inl ()) := by
 obtain ⟨o, e1, e2⟩ := iter_spec (b := Fl_ScanReads_l0 (L, a, e) (L.map docT, a, e)) (fun i x => x = (i : Int)) (fun o => o = .inl ()) L.length (x0 := (0 : Int)) rfl (by
  rintro i _ rec hi rfl
  left
  refine ⟨((i + 1 : Nat) : Int), ?_, rfl⟩
  have hm : i < (L.map docT).length := by rw [List.length_map]; exact hi
  have hp := hP _ (List.getElem_mem hi)
  unfold Fl_ScanReads_l0
  simp only [letJ]
  rw [dT (by omega), cT, idx_some hi, idx_some hm, bS, bS, List.getElem_map, doc_eq _ hp, bS]
  have hs := same_self (docT L[i]) hp
  rw [show (⟨L[i].Kind, L[i].At, L[i].Name, L[i].Pairs, L[i].Text, L[i].Refs⟩ : TR) = docT L[i] from rfl, hs, bS, Bool.not_true, cF, bS, bS]
  rw [show (L[i].At != (docT L[i]).At) = false by simp [docT], cF, w64 (by omega) (by omega)]
  rfl) (by
  rintro _ rec rfl
  refine ⟨_, ?_, rfl⟩
  unfold Fl_ScanReads_l0
  dsimp only
  rw [dF (by omega), cF]) (n := FUEL) (by unfold FUEL; omega)
 rw [e1, e2]
theorem scanReads (p : LB) (hp : p.length ≤ 1073741824) : Fl_ScanReads p = some true := by
 obtain ⟨L, a, e, h1, h2, h3, h4⟩ := all_two p hp
 unfold Fl_ScanReads
 simp only [letJ]
 rw [awake_t, bS, Bool.not_true, cF, spare_eq p hp, bS]
 dsimp only
 rw [h1, h2, bS, bS]
 dsimp only
 rw [bne_self_eq_false, cF, bne_self_eq_false, cF, List.length_map, bne_self_eq_false, cF, plain_eq p hp, text_eq p hp, bS, bS, beq_self_eq_true, Bool.not_true, cF, kept_eq p hp, bS, Bool.not_true, cF, reads_l0 L a e h3 h4, bS]
end Go.Proofs.YtfokkdofcekdbaaGreatDoor
