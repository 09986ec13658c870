/- Joined by program out of Xe Xf Xg Xj Xk Xl Xk2 Xm Xn Xo Xp. No condition. -/
import Derived.Test.YtfokkdofcekdbaaDoorX1
import Derived.Test.YtfokkdofcekdbaaDoorLa
set_option linter.unusedSimpArgs false
set_option linter.unusedVariables false
set_option maxRecDepth 20000
namespace Go.Proofs.YtfokkdofcekdbaaDoor
open Go.Lib (decodeL decodeN)
/-! ## Decoding -/
/-- What is decoded hangs on the bytes that are there. -/
theorem decN_more {n m b0 b1 b2 b3 c1 c2 c3 : Nat} (h : badR (decodeN n b0 b1 b2 b3) = false) (hnm : n ≤ m) (h1 : 1 < n → c1 = b1) (h2 : 2 < n → c2 = b2) (h3 : 3 < n → c3 = b3) : decodeN m b0 c1 c2 c3 = decodeN n b0 b1 b2 b3 := by
  have hb : ¬ ((decodeN n b0 b1 b2 b3).1 = 65533 ∧ (decodeN n b0 b1 b2 b3).2 = 1) := by
    unfold badR at h; simpa using h
  unfold decodeN at hb ⊢
  by_cases a0 : b0 < 128
  · rw [if_pos a0, if_pos a0]
  rw [if_neg a0] at hb
  rw [if_neg a0, if_neg a0]
  by_cases a1 : b0 / 32 = 6 ∧ (1 < n ∧ b1 / 64 = 2)
  · have e1 := h1 a1.2.1
    rw [if_pos a1, if_pos ⟨a1.1, by omega, by rw [e1]; exact a1.2.2⟩, e1]
  rw [if_neg a1] at hb
  rw [if_neg a1]
  by_cases a2 : b0 / 16 = 14 ∧ (1 < n ∧ b1 / 64 = 2) ∧ (2 < n ∧ b2 / 64 = 2)
  · have e1 := h1 a2.2.1.1
    have e2 := h2 a2.2.2.1
    rw [if_pos a2, if_neg (by omega), if_pos ⟨a2.1, ⟨by omega, by rw [e1]; exact a2.2.1.2⟩, by omega, by rw [e2]; exact a2.2.2.2⟩, e1, e2]
  rw [if_neg a2] at hb
  rw [if_neg a2]
  by_cases a3 : b0 / 8 = 30 ∧ (1 < n ∧ b1 / 64 = 2) ∧ (2 < n ∧ b2 / 64 = 2) ∧ (3 < n ∧ b3 / 64 = 2)
  · have e1 := h1 a3.2.1.1
    have e2 := h2 a3.2.2.1.1
    have e3 := h3 a3.2.2.2.1
    rw [if_pos a3, if_neg (by omega), if_neg (by omega), if_pos ⟨a3.1, ⟨by omega, by rw [e1]; exact a3.2.1.2⟩, ⟨by omega, by rw [e2]; exact a3.2.2.1.2⟩, by omega, by rw [e3]; exact a3.2.2.2.2⟩, e1, e2, e3]
  rw [if_neg a3] at hb
  exact absurd ⟨rfl, rfl⟩ hb
theorem getD_appL {x y : List UInt8} {k : Nat} (h : k < x.length) : (x ++ y).getD k 0 = x.getD k 0 := by
  simp [List.getD, List.getElem?_append_left h]
theorem dec_app {x y : List UInt8} (hx : x ≠ []) (h : badR (decodeL x) = false) : decodeL (x ++ y) = decodeL x := by
  have hp : 0 < x.length := List.length_pos_iff.2 hx
  rw [Lib.decodeL_N x] at h ⊢
  rw [Lib.decodeL_N (x ++ y), getD_appL hp]
  exact decN_more h (by rw [List.length_append]; omega) (fun g => by rw [getD_appL g]) (fun g => by rw [getD_appL g]) (fun g => by rw [getD_appL g])
/-- A byte below 128 behind a text changes none of its characters. -/
theorem decN_stop {n m b0 b1 b2 b3 c1 c2 c3 : Nat} (hn : 1 ≤ n) (hnm : n ≤ m) (h1 : 1 < n → c1 = b1) (h2 : 2 < n → c2 = b2) (h3 : 3 < n → c3 = b3) (s1 : n = 1 → c1 < 128) (s2 : n = 2 → c2 < 128) (s3 : n = 3 → c3 < 128) : decodeN m b0 c1 c2 c3 = decodeN n b0 b1 b2 b3 := by
  have q1 : (1 < m ∧ c1 / 64 = 2) ↔ (1 < n ∧ b1 / 64 = 2) := by
    by_cases g : 1 < n
    · have := h1 g; subst this; constructor <;> rintro ⟨_, q⟩ <;> exact ⟨by omega, q⟩
    · have := s1 (by omega); constructor <;> rintro ⟨_, q⟩ <;> omega
  have q2 : (1 < n ∧ b1 / 64 = 2) → ((2 < m ∧ c2 / 64 = 2) ↔ (2 < n ∧ b2 / 64 = 2)) := by
    rintro ⟨g1, _⟩
    by_cases g : 2 < n
    · have := h2 g; subst this; constructor <;> rintro ⟨_, q⟩ <;> exact ⟨by omega, q⟩
    · have := s2 (by omega); constructor <;> rintro ⟨_, q⟩ <;> omega
  have q3 : (2 < n ∧ b2 / 64 = 2) → ((3 < m ∧ c3 / 64 = 2) ↔ (3 < n ∧ b3 / 64 = 2)) := by
    rintro ⟨g1, _⟩
    by_cases g : 3 < n
    · have := h3 g; subst this; constructor <;> rintro ⟨_, q⟩ <;> exact ⟨by omega, q⟩
    · have := s3 (by omega); constructor <;> rintro ⟨_, q⟩ <;> omega
  unfold decodeN
  by_cases a0 : b0 < 128
  · rw [if_pos a0, if_pos a0]
  rw [if_neg a0, if_neg a0]
  by_cases a1 : b0 / 32 = 6 ∧ (1 < n ∧ b1 / 64 = 2)
  · rw [if_pos a1, if_pos ⟨a1.1, q1.2 a1.2⟩, h1 a1.2.1]
  rw [if_neg a1, if_neg (fun h => a1 ⟨h.1, q1.1 h.2⟩)]
  by_cases a2 : b0 / 16 = 14 ∧ (1 < n ∧ b1 / 64 = 2) ∧ (2 < n ∧ b2 / 64 = 2)
  · rw [if_pos a2, if_pos ⟨a2.1, q1.2 a2.2.1, (q2 a2.2.1).2 a2.2.2⟩, h1 a2.2.1.1, h2 a2.2.2.1]
  rw [if_neg a2, if_neg (fun h => a2 ⟨h.1, q1.1 h.2.1, (q2 (q1.1 h.2.1)).1 h.2.2⟩)]
  by_cases a3 : b0 / 8 = 30 ∧ (1 < n ∧ b1 / 64 = 2) ∧ (2 < n ∧ b2 / 64 = 2) ∧ (3 < n ∧ b3 / 64 = 2)
  · rw [if_pos a3, if_pos ⟨a3.1, q1.2 a3.2.1, (q2 a3.2.1).2 a3.2.2.1, (q3 a3.2.2.1).2 a3.2.2.2⟩, h1 a3.2.1.1, h2 a3.2.2.1.1, h3 a3.2.2.2.1]
  rw [if_neg a3, if_neg (fun h => a3 ⟨h.1, q1.1 h.2.1, (q2 (q1.1 h.2.1)).1 h.2.2.1, (q3 ((q2 (q1.1 h.2.1)).1 h.2.2.1)).1 h.2.2.2⟩)]
theorem getD_appC {x y : List UInt8} {c : UInt8} {k : Nat} (h : x.length = k) : (x ++ c :: y).getD k 0 = c := by
  subst h; simp [List.getD]
theorem dec_stop {x y : List UInt8} {c : UInt8} (hx : x ≠ []) (hc : c.toNat < 128) : decodeL (x ++ c :: y) = decodeL x := by
  have hp : 0 < x.length := List.length_pos_iff.2 hx
  rw [Lib.decodeL_N x, Lib.decodeL_N (x ++ c :: y), getD_appL hp]
  exact decN_stop hp (by rw [List.length_append]; omega) (fun g => by rw [getD_appL g]) (fun g => by rw [getD_appL g]) (fun g => by rw [getD_appL g]) (fun g => by rw [getD_appC g]; exact hc) (fun g => by rw [getD_appC g]; exact hc) (fun g => by rw [getD_appC g]; exact hc)
theorem dec_ascii (c : UInt8) (y : List UInt8) (hc : c.toNat < 128) : decodeL (c :: y) = (c.toNat, 1) := by
  have := (dec_bytes (c :: y) 0 (by simp)).2.2.1
  simpa using this hc
/-- With a byte below 128 behind it a text is scanned as it is. -/
theorem agr_stop (x y : List UInt8) (c : UInt8) (hc : c.toNat < 128) : Agr x (x ++ c :: y) x.length :=
  ⟨by simp, Nat.le_refl _, by simp, fun j hj => by
    rw [List.drop_append_of_le_length (by omega)]
    exact (dec_stop (fun h => by have := congrArg List.length h; simp at this; omega) hc).symm⟩
/-! ## Texts of characters -/
inductive OkT : List UInt8 → Prop
  | nil : OkT []
  | cons {l : List UInt8} : l ≠ [] → badR (decodeL l) = false → charP ((decodeL l).1 : Int) = true → OkT (l.drop (decodeL l).2) → OkT l
theorem okT_inv {l : List UInt8} (h : OkT l) (hl : l ≠ []) : badR (decodeL l) = false ∧ charP ((decodeL l).1 : Int) = true ∧ OkT (l.drop (decodeL l).2) := by
  cases h with
  | nil => exact absurd rfl hl
  | cons _ a b c => exact ⟨a, b, c⟩
theorem dec_pos {l : List UInt8} (h : l ≠ []) : 1 ≤ (decodeL l).2 ∧ (decodeL l).2 ≤ l.length := by
  have := dec_bytes l 0 (List.length_pos_iff.2 h)
  simp only [List.drop_zero, Nat.zero_add] at this
  exact ⟨this.1, this.2.1⟩
theorem okT_app {x y : List UInt8} (hx : OkT x) (hy : OkT y) : OkT (x ++ y) := by
  induction hx with
  | nil => exact hy
  | @cons l h1 h2 h3 h4 ih =>
    have e := dec_app (y := y) h1 h2
    refine .cons (by simp [h1]) (by rw [e]; exact h2) (by rw [e]; exact h3) ?_
    rw [e, List.drop_append_of_le_length (dec_pos h1).2]
    exact ih
theorem okT_ascii (c : UInt8) (y : List UInt8) (hc : c.toNat < 128) (hp : charP (c.toNat : Int) = true) (hy : OkT y) : OkT (c :: y) := by
  have e := dec_ascii c y hc
  refine .cons (by simp) (by rw [e]; unfold badR; simp; omega) (by rw [e]; exact hp) (by rw [e]; exact hy)
theorem fault_step (b : List UInt8) (i : Nat) (hi : i < b.length) (hb : b.length ≤ 1073741824) (rec) : F_char_Fault_l0 b rec (i : Int) = if badR (decodeL (b.drop i)) then some (.inr ((i : Int), (20 : Int))) else if charP ((decodeL (b.drop i)).1 : Int) then rec ((i + (decodeL (b.drop i)).2 : Nat) : Int) else some (.inr ((i : Int), (21 : Int))) := by
  unfold F_char_Fault_l0
  rw [decide_eq_true (show (i : Int) < (b.length : Int) by omega), cond_true, F_next b i hi hb, Option.bind_some]
  cases badR (decodeL (b.drop i)) with
  | true => rfl
  | false => cases charP ((decodeL (b.drop i)).1 : Int) <;> rfl
theorem drop_nn {α : Type} {l : List α} {i : Nat} (h : i < l.length) : l.drop i ≠ [] := fun g => by
  have := congrArg List.length g; simp at this; omega
/-- The fault of a text: none, just if it is one of characters. -/
theorem fault_iff (b : List UInt8) (hb : b.length ≤ 1073741824) : (F_char_Fault b = some (0, 0) ∧ OkT b) ∨ (∃ (i : Nat) (e : Int), F_char_Fault b = some ((i : Int), e) ∧ e ≠ 0 ∧ ¬ OkT b ∧ i ≤ b.length) := by
  obtain ⟨o, e, h⟩ := iter_dec (b := F_char_Fault_l0 b) (fun x => b.length - x.toNat) (fun x => ∃ i : Nat, x = (i : Int) ∧ i ≤ b.length ∧ (OkT b ↔ OkT (b.drop i))) (fun o => (o = .inl () ∧ OkT b) ∨ ∃ (i : Nat) (f : Int), o = .inr ((i : Int), f) ∧ f ≠ 0 ∧ ¬ OkT b ∧ i ≤ b.length) (by
    rintro _ ⟨i, rfl, hi, hiff⟩
    by_cases hlt : i < b.length
    · obtain ⟨d1, d2, _⟩ := dec_bytes b i hlt
      have hne := drop_nn hlt
      simp only [fault_step b i hlt hb]
      cases hbad : badR (decodeL (b.drop i)) with
      | true =>
        right
        exact ⟨_, fun _ => rfl, .inr ⟨i, 20, rfl, by decide, fun h => (by have := (okT_inv (hiff.1 h) hne).1; rw [hbad] at this; cases this), hi⟩⟩
      | false =>
        cases hc : charP ((decodeL (b.drop i)).1 : Int) with
        | false =>
          right
          exact ⟨_, fun _ => rfl, .inr ⟨i, 21, rfl, by decide, fun h => (by have := (okT_inv (hiff.1 h) hne).2.1; rw [hc] at this; cases this), hi⟩⟩
        | true =>
          left
          refine ⟨_, fun _ => rfl, ⟨i + (decodeL (b.drop i)).2, rfl, d2, hiff.trans ?_⟩, by rw [Int.toNat_natCast, Int.toNat_natCast]; omega⟩
          rw [← List.drop_drop]
          exact ⟨fun h => (okT_inv h hne).2.2, fun h => .cons hne hbad hc h⟩
    · right
      refine ⟨.inl (), fun rec => ?_, .inl ⟨rfl, ?_⟩⟩
      · unfold F_char_Fault_l0
        rw [decide_eq_false (by omega), cond_false]
      · rw [hiff, List.drop_eq_nil_of_le (by omega)]; exact .nil) FUEL (0 : Int) ⟨0, rfl, Nat.zero_le _, by rw [List.drop_zero]⟩ (by unfold FUEL; omega)
  unfold F_char_Fault
  simp only [letJ]
  rw [e, Option.bind_some]
  rcases h with ⟨rfl, h⟩ | ⟨i, f, rfl, hf, hn, hi⟩
  · exact .inl ⟨rfl, h⟩
  · exact .inr ⟨i, f, rfl, hf, hn, hi⟩
/-- The fault behind a text of characters. -/
theorem fault_behind (x y : List UInt8) (c : UInt8) (hx : OkT x) (hl : (x ++ c :: y).length ≤ 1073741824) (hc : c.toNat < 128) (hp : charP (c.toNat : Int) = false) : F_char_Fault (x ++ c :: y) = some ((x.length : Int), 21) := by
  have hlen : (x ++ c :: y).length = x.length + 1 + y.length := by simp; omega
  obtain ⟨o, e, h⟩ := iter_dec (b := F_char_Fault_l0 (x ++ c :: y)) (fun k => x.length - k.toNat) (fun k => ∃ i : Nat, k = (i : Int) ∧ i ≤ x.length ∧ OkT (x.drop i)) (fun o => o = .inr ((x.length : Int), 21)) (by
    rintro _ ⟨i, rfl, hi, hok⟩
    simp only [fault_step (x ++ c :: y) i (by omega) hl]
    by_cases hlt : i < x.length
    · left
      have hne := drop_nn hlt
      have d := dec_pos hne
      obtain ⟨g1, g2, g3⟩ := okT_inv hok hne
      have hd : decodeL ((x ++ c :: y).drop i) = decodeL (x.drop i) := by
        rw [List.drop_append_of_le_length (by omega)]; exact dec_stop hne hc
      rw [hd, g1, g2]
      rw [List.length_drop] at d
      exact ⟨_, fun _ => rfl, ⟨i + (decodeL (x.drop i)).2, rfl, by omega, by rw [← List.drop_drop]; exact g3⟩, by rw [Int.toNat_natCast, Int.toNat_natCast]; omega⟩
    · right
      have : i = x.length := by omega
      subst this
      rw [List.drop_left, dec_ascii c y hc]
      have hb : badR (c.toNat, 1) = false := by unfold badR; simp; omega
      rw [hb]
      refine ⟨_, fun _ => ?_, rfl⟩
      show (if charP (c.toNat : Int) = true then _ else _) = _
      rw [hp]; rfl) FUEL (0 : Int) ⟨0, rfl, Nat.zero_le _, by rw [List.drop_zero]; exact hx⟩ (by unfold FUEL; omega)
  unfold F_char_Fault
  simp only [letJ]
  rw [e, Option.bind_some, h]
end Go.Proofs.YtfokkdofcekdbaaDoor

set_option maxRecDepth 20000
namespace Go.Proofs.YtfokkdofcekdbaaDoor
open Go.Lib (decodeL decodeN)
/-! ## Lines -/
def lnR : Bool → List UInt8 → List UInt8
  | _, [] => []
  | pc, c :: l => if c = 13 then 10 :: lnR true l else if c = 10 ∧ pc = true then lnR false l else c :: lnR false l
theorem lnR_len : ∀ (pc : Bool) (l : List UInt8), (lnR pc l).length ≤ l.length
  | _, [] => Nat.le_refl _
  | pc, c :: l => by
    have h1 := lnR_len true l
    have h2 := lnR_len false l
    simp only [lnR]
    split
    · simp; omega
    · split
      · simp; omega
      · simp; omega
theorem lnR_app (c : UInt8) (y : List UInt8) (hc : c ≠ 10) : ∀ (x : List UInt8) (pc : Bool), lnR pc (x ++ c :: y) = lnR pc x ++ lnR false (c :: y)
  | [], pc => by simp [lnR, hc]
  | d :: x, pc => by
    have e1 : ∀ t, lnR pc (d :: t) = if d = 13 then 10 :: lnR true t else if d = 10 ∧ pc = true then lnR false t else d :: lnR false t := fun t => by simp only [lnR]
    rw [List.cons_append, e1, e1, lnR_app c y hc x true, lnR_app c y hc x false]
    split
    · rfl
    · split
      · rfl
      · rfl
theorem lnR_hi (t : List UInt8) : ∀ (x : List UInt8) (pc : Bool), x ≠ [] → (∀ c ∈ x, 128 ≤ c.toNat) → lnR pc (x ++ t) = x ++ lnR false t
  | [], _, h, _ => absurd rfl h
  | c :: x, pc, _, h => by
    have hc := h c List.mem_cons_self
    have n13 : ¬ c = 13 := fun e => by subst e; exact absurd hc (by decide)
    have n10 : ¬ (c = 10 ∧ pc = true) := fun e => by rw [e.1] at hc; exact absurd hc (by decide)
    simp only [List.cons_append, lnR]
    rw [if_neg n13, if_neg n10]
    cases x with
    | nil => rfl
    | cons d x => rw [lnR_hi t (d :: x) false (by simp) (fun e he => h e (List.mem_cons_of_mem _ he))]
theorem lnR_step (p : List UInt8) (i : Nat) (hi : i < p.length) : lnR (decide (0 < i ∧ p.getD (i - 1) 0 = 13)) (p.drop i) = lnP p i ++ lnR (decide (0 < i + 1 ∧ p.getD (i + 1 - 1) 0 = 13)) (p.drop (i + 1)) := by
  have hg : p.getD i 0 = p[i] := by simp [List.getD, hi]
  rw [List.drop_eq_getElem_cons hi, Nat.add_sub_cancel]
  simp only [lnR]
  unfold lnP
  rw [hg]
  by_cases h13 : p[i] = 13
  · rw [if_pos h13, if_pos h13, decide_eq_true (by exact ⟨by omega, h13⟩)]; rfl
  · rw [if_neg h13, if_neg h13, decide_eq_false (show ¬ (0 < i + 1 ∧ p[i] = 13) from fun h => h13 h.2)]
    by_cases h10 : p[i] = 10 ∧ 0 < i ∧ p.getD (i - 1) 0 = 13
    · rw [if_pos ⟨h10.1, decide_eq_true h10.2⟩, if_pos h10]; rfl
    · rw [if_neg (fun h => h10 ⟨h.1, of_decide_eq_true h.2⟩), if_neg h10]; rfl
theorem lines_eq (p : List UInt8) (hp : p.length ≤ 1073741824) : F_char_Lines p = some (lnR false p) := by
  obtain ⟨o, e, h⟩ := iter_dec (b := F_char_Lines_l0 p) (fun x => p.length - x.2.toNat) (fun x => ∃ (l : List UInt8) (i : Nat), x = (l, (i : Int)) ∧ i ≤ p.length ∧ l.length ≤ i ∧ l ++ lnR (decide (0 < i ∧ p.getD (i - 1) 0 = 13)) (p.drop i) = lnR false p) (fun o => o = lnR false p) (by
    rintro _ ⟨l, i, rfl, hi, hl, hE⟩
    by_cases hlt : i < p.length
    · left
      have := lnP_len p i
      rw [lnR_step p i hlt, ← List.append_assoc] at hE
      exact ⟨_, fun rec => lines_step1 p i l hlt hl hp rec, ⟨_, i + 1, rfl, by omega, by rw [List.length_append]; omega, hE⟩, by dsimp only; omega⟩
    · right
      rw [List.drop_eq_nil_of_le (by omega)] at hE
      refine ⟨l, fun rec => ?_, by rw [← hE]; simp [lnR]⟩
      unfold F_char_Lines_l0; dsimp only; rw [decide_eq_false (by omega), cond_false]) FUEL (([] : List UInt8), (0 : Int)) ⟨[], 0, rfl, Nat.zero_le _, Nat.le_refl _, by simp⟩ (by unfold FUEL; dsimp only; omega)
  unfold F_char_Lines
  simp only [letJ]
  rw [show mkG 1 (0 : Int) (p.length : Int) = some () by unfold mkG; rw [if_pos (by omega)], Option.bind_some, Option.bind_some, show (List.replicate (Int.toNat (0 : Int)) (0 : UInt8)) = [] from rfl, e, Option.bind_some, h]
/-- What lies behind a mark. -/
def strip (p : List UInt8) : List UInt8 := if ([239, 187, 191] : List UInt8).isPrefixOf p = true then p.drop 3 else p
theorem strip_len (p : List UInt8) : (strip p).length ≤ p.length := by
  unfold strip; split
  · rw [List.length_drop]; omega
  · exact Nat.le_refl _
theorem isPre_app {c : UInt8} {y : List UInt8} : ∀ (w x : List UInt8), c ∉ w → w.isPrefixOf (x ++ c :: y) = w.isPrefixOf x
  | [], _, _ => by simp [List.isPrefixOf]
  | d :: w, [], h => by
    have : ¬ d = c := fun e => h (by rw [e]; exact List.mem_cons_self)
    simp [List.isPrefixOf, this]
  | d :: w, e :: x, h => by
    simp only [List.cons_append, List.isPrefixOf]
    rw [isPre_app w x (fun g => h (List.mem_cons_of_mem _ g))]
theorem strip_app (x y : List UInt8) (c : UInt8) (hc : c.toNat < 128) : strip (x ++ c :: y) = strip x ++ c :: y := by
  have hn : c ∉ ([239, 187, 191] : List UInt8) := by
    intro h
    simp at h
    rcases h with rfl | rfl | rfl <;> exact absurd hc (by decide)
  unfold strip
  rw [isPre_app _ _ hn]
  split
  · rename_i h
    rw [isPre_take, Bool.and_eq_true, decide_eq_true_eq] at h
    rw [List.drop_append_of_le_length (by simpa using h.1)]
  · rfl
def pln (p : List UInt8) : List UInt8 := lnR false (strip p)
theorem pln_len (p : List UInt8) : (pln p).length ≤ p.length := Nat.le_trans (lnR_len _ _) (strip_len p)
theorem plain_eq (p : List UInt8) (hp : p.length ≤ 1073741824) : F_scan_Plain p = some (pln p) := by
  unfold F_scan_Plain F_bytes_TrimPrefix
  rw [show u8 (239 : Int) = some 239 from rfl, show u8 (187 : Int) = some 187 from rfl, show u8 (191 : Int) = some 191 from rfl, Option.bind_some, Option.bind_some, Option.bind_some, hasPrefix_eq, Option.bind_some]
  unfold pln strip
  cases h : ([239, 187, 191] : List UInt8).isPrefixOf p with
  | true =>
    have h' := h
    rw [isPre_take, Bool.and_eq_true, decide_eq_true_eq] at h'
    rw [cond_true, if_pos rfl, show slc p ((([239, 187, 191] : List UInt8).length : Nat) : Int) (p.length : Int) = some (p.drop 3) from slc_drop (n := 3) (by simpa using h'.1), Option.bind_some, Option.bind_some, lines_eq _ (by rw [List.length_drop]; omega), Option.bind_some]
  | false => rw [cond_false, if_neg (by simp), Option.bind_some, lines_eq p hp, Option.bind_some]
theorem text_eq (p : List UInt8) (hp : p.length ≤ 1073741824) : F_lecternref03_Text p = some (pln p) := by
  obtain ⟨r, r1, r2, _⟩ := plain_two p hp
  rw [plain_eq p hp] at r1
  rw [r2, r1]
theorem decN_cut {n b0 b1 b2 b3 w c1 c2 c3 : Nat} (h : badR (decodeN n b0 b1 b2 b3) = false) (hw : (decodeN n b0 b1 b2 b3).2 = w) (h1 : 1 < w → c1 = b1) (h2 : 2 < w → c2 = b2) (h3 : 3 < w → c3 = b3) : decodeN w b0 c1 c2 c3 = decodeN n b0 b1 b2 b3 := by
  have hb : ¬ ((decodeN n b0 b1 b2 b3).1 = 65533 ∧ (decodeN n b0 b1 b2 b3).2 = 1) := by
    unfold badR at h; simpa using h
  unfold decodeN at hb hw ⊢
  by_cases a0 : b0 < 128
  · rw [if_pos a0, if_pos a0]
  rw [if_neg a0] at hb hw
  rw [if_neg a0, if_neg a0]
  by_cases a1 : b0 / 32 = 6 ∧ (1 < n ∧ b1 / 64 = 2)
  · rw [if_pos a1] at hb hw
    rw [if_pos a1]
    split at hw
    · have hw : 2 = w := hw
      subst hw
      have e1 := h1 (by omega)
      rw [if_pos ⟨a1.1, by omega, by rw [e1]; exact a1.2.2⟩, e1]
    · rename_i hx; rw [if_neg hx] at hb; exact absurd ⟨rfl, rfl⟩ hb
  rw [if_neg a1] at hb hw
  rw [if_neg a1]
  by_cases a2 : b0 / 16 = 14 ∧ (1 < n ∧ b1 / 64 = 2) ∧ (2 < n ∧ b2 / 64 = 2)
  · rw [if_pos a2] at hb hw
    rw [if_pos a2]
    split at hw
    · have hw : 3 = w := hw
      subst hw
      have e1 := h1 (by omega)
      have e2 := h2 (by omega)
      rw [if_neg (by omega), if_pos ⟨a2.1, ⟨by omega, by rw [e1]; exact a2.2.1.2⟩, by omega, by rw [e2]; exact a2.2.2.2⟩, e1, e2]
    · rename_i hx; rw [if_neg hx] at hb; exact absurd ⟨rfl, rfl⟩ hb
  rw [if_neg a2] at hb hw
  rw [if_neg a2]
  by_cases a3 : b0 / 8 = 30 ∧ (1 < n ∧ b1 / 64 = 2) ∧ (2 < n ∧ b2 / 64 = 2) ∧ (3 < n ∧ b3 / 64 = 2)
  · rw [if_pos a3] at hb hw
    rw [if_pos a3]
    split at hw
    · have hw : 4 = w := hw
      subst hw
      have e1 := h1 (by omega)
      have e2 := h2 (by omega)
      have e3 := h3 (by omega)
      rw [if_neg (by omega), if_neg (by omega), if_pos ⟨a3.1, ⟨by omega, by rw [e1]; exact a3.2.1.2⟩, ⟨by omega, by rw [e2]; exact a3.2.2.1.2⟩, by omega, by rw [e3]; exact a3.2.2.2.2⟩, e1, e2, e3]
    · rename_i hx; rw [if_neg hx] at hb; exact absurd ⟨rfl, rfl⟩ hb
  rw [if_neg a3] at hb
  exact absurd ⟨rfl, rfl⟩ hb
theorem getD_take {l : List UInt8} {k w : Nat} (h : k < w) : (l.take w).getD k 0 = l.getD k 0 := by
  simp [List.getD, List.getElem?_take, h]
theorem dec_take {l : List UInt8} (hl : l ≠ []) (h : badR (decodeL l) = false) : decodeL (l.take (decodeL l).2) = decodeL l := by
  have hp := dec_pos hl
  generalize hw : (decodeL l).2 = w at hp ⊢
  rw [Lib.decodeL_N l] at h hw ⊢
  rw [Lib.decodeL_N (l.take w), getD_take (by omega), show (l.take w).length = w by rw [List.length_take]; omega]
  exact decN_cut h hw (fun g => by rw [getD_take g]) (fun g => by rw [getD_take g]) (fun g => by rw [getD_take g])
/-- Lines of a text of characters are such. -/
theorem lnR_ok {l : List UInt8} (h : OkT l) : ∀ pc, OkT (lnR pc l) := by
  induction h with
  | nil => intro pc; exact .nil
  | @cons l h1 h2 h3 h4 ih =>
    intro pc
    cases l with
    | nil => exact absurd rfl h1
    | cons c l' =>
      by_cases hc : c.toNat < 128
      · have e := dec_ascii c l' hc
        rw [e] at h3 ih
        have ih' : ∀ pc, OkT (lnR pc l') := ih
        simp only [lnR]
        split
        · exact okT_ascii 10 _ (by decide) (by decide) (ih' true)
        · split
          · exact ih' false
          · exact okT_ascii c _ hc h3 (ih' false)
      · have hd := dec_bytes (c :: l') 0 (by simp)
        simp only [List.drop_zero, Nat.zero_add] at hd
        obtain ⟨d1, d2, _, d4⟩ := hd
        have hsp : lnR pc (c :: l') = (c :: l').take (decodeL (c :: l')).2 ++ lnR false ((c :: l').drop (decodeL (c :: l')).2) := by
          conv => lhs; rw [← List.take_append_drop (decodeL (c :: l')).2 (c :: l')]
          refine lnR_hi _ _ _ ?_ ?_
          · intro hx; have := congrArg List.length hx; rw [List.length_take] at this; simp at this d2; omega
          · intro x hx
            rw [List.mem_take_iff_getElem] at hx
            obtain ⟨k, hk, rfl⟩ := hx
            have hk1 : k < (c :: l').length := by omega
            by_cases k0 : k = 0
            · subst k0; show 128 ≤ c.toNat; omega
            · have := d4 k (by omega) (by omega)
              rw [show (c :: l').getD k 0 = (c :: l')[k] by simp only [List.getD, List.getElem?_eq_getElem hk1, Option.getD_some]] at this
              exact this
        rw [hsp]
        have e1 := dec_take h1 h2
        have hne : (c :: l').take (decodeL (c :: l')).2 ≠ [] := by
          intro hx; have := congrArg List.length hx; rw [List.length_take] at this; simp at this d2; omega
        have e2 : decodeL ((c :: l').take (decodeL (c :: l')).2 ++ lnR false ((c :: l').drop (decodeL (c :: l')).2)) = decodeL (c :: l') := by
          rw [dec_app hne (by rw [e1]; exact h2), e1]
        refine .cons (by simp [hne]) (by rw [e2]; exact h2) (by rw [e2]; exact h3) ?_
        rw [e2]
        have hlen : ((c :: l').take (decodeL (c :: l')).2).length = (decodeL (c :: l')).2 := by rw [List.length_take]; omega
        rw [show ∀ z : List UInt8, ((c :: l').take (decodeL (c :: l')).2 ++ z).drop (decodeL (c :: l')).2 = z from fun z => by
          conv => lhs; rw [← hlen]
          rw [hlen, List.drop_append_of_le_length (by omega), List.drop_eq_nil_of_le (by omega), List.nil_append]]
        exact ih false
end Go.Proofs.YtfokkdofcekdbaaDoor

set_option maxRecDepth 20000
namespace Go.Proofs.YtfokkdofcekdbaaDoor
open Go.Lib (decodeL decodeN)
/-! ## Texts -/
def textR (b : List UInt8) (i f : Nat) : Option (Int × T_scan_scanner × Tk) :=
  (F_refer_ReadText ((b.drop i).take (f - i))).bind fun x => (L_bCount ((b.drop i).take (f - i)) ([38] : List UInt8)).bind fun y => some (x.2.2, (⟨b, (f : Int)⟩ : T_scan_scanner), (⟨(5 : Int), (i : Int), [], [], x.1, y⟩ : Tk))
structure TxtAt (b : List UInt8) (i f : Nat) : Prop where
  lt : i < f
  le : f ≤ b.length
  no : ∀ x, i ≤ x → x < f → b[x]? ≠ some 60
  ed : f = b.length ∨ b[f]? = some 60
theorem text_mk {b : List UInt8} {i f : Nat} (hb : b.length ≤ 1073741824) (h : TxtAt b i f) : F_scan_scanner_text ⟨b, (i : Int)⟩ (tok0 i) = textR b i f := by
  obtain ⟨h1, h2, h3, h4⟩ := h
  have core : ∀ a : List UInt8, a = (b.drop i).take (f - i) → ((F_refer_ReadText a).bind fun x10 =>
    (L_bCount a ([38] : List UInt8)).bind fun x13 =>
   some (x10.2.2, (⟨b, (IntKind.wrap .i64 ((i : Int) + (a.length : Int)))⟩ : T_scan_scanner), (⟨(5 : Int), (i : Int), ([] : List UInt8), ([] : List T_scan_Pair), x10.1, x13⟩ : T_scan_Token))) = textR b i f := by
    intro a ha
    have hal : a.length = f - i := by rw [ha, List.length_take, List.length_drop]; omega
    rw [hal, w64 (by omega) (by omega), show (i : Int) + ((f - i : Nat) : Int) = (f : Int) by omega, ha]
    rfl
  unfold F_scan_scanner_text
  dsimp only
  rw [slc_drop (by omega), Option.bind_some]
  simp only [letJ]
  unfold L_bIndexByte
  rw [Option.bind_some]
  have h60' : ((60 : Int).toNat.toUInt8) = 60 := by decide
  rw [h60']
  by_cases hf : f = b.length
  · have hno : Lib.indexByte (b.drop i) 60 < 0 := by
      apply Classical.byContradiction; intro hn
      obtain ⟨m, e1, e2⟩ := ixB_nat (b.drop i) 60 hn
      have := (Lib.indexByte_some e1).1
      rw [List.getElem?_drop] at this
      rw [List.length_drop] at e2
      exact h3 (i + m) (by omega) (by omega) this
    rw [decide_eq_false (by omega), cond_false]
    exact core _ (by rw [List.take_of_length_le (by rw [List.length_drop]; omega)])
  · have hx : Lib.indexByte (b.drop i) 60 = ((f - i : Nat) : Int) := by
      refine ixB_of ?_ fun k hk => ?_
      · rw [List.getElem?_drop, show i + (f - i) = f by omega]
        rcases h4 with h4 | h4
        · exact absurd h4 hf
        · exact h4
      · rw [List.getElem?_drop]; exact h3 (i + k) (by omega) (by omega)
    rw [hx, decide_eq_true (by omega), cond_true, slc_take0 (by rw [List.length_drop]; omega), Option.bind_some]
    exact core _ rfl
theorem text_ex {b : List UInt8} {i : Nat} (hi : i < b.length) (h60 : b[i]? ≠ some 60) : ∃ f, TxtAt b i f := by
  by_cases hn : Lib.indexByte (b.drop i) 60 < 0
  · refine ⟨b.length, hi, Nat.le_refl _, fun x h1 h2 => ?_, .inl rfl⟩
    have hge := Lib.indexByte_ge (b.drop i) 60
    have := Lib.indexByte_none (show Lib.indexByte (b.drop i) 60 = -1 by omega) (x - i)
    rwa [List.getElem?_drop, show i + (x - i) = x by omega] at this
  · obtain ⟨m, e1, e2⟩ := ixB_nat (b.drop i) 60 hn
    obtain ⟨g1, g2⟩ := Lib.indexByte_some e1
    rw [List.getElem?_drop] at g1
    rw [List.length_drop] at e2
    refine ⟨i + m, ?_, by omega, fun x h1 h2 => ?_, .inr g1⟩
    · rcases Nat.eq_zero_or_pos m with rfl | h
      · exact absurd g1 h60
      · omega
    · have := g2 (x - i) (by omega)
      rwa [List.getElem?_drop, show i + (x - i) = x by omega] at this
theorem hereP_hd {b : List UInt8} {i : Nat} {w : List UInt8} (h : b[i]? ≠ some 60) : hereP b i (60 :: w) = false := by
  rw [Bool.eq_false_iff]; intro hc; exact h (hereP_get hc)
theorem token_text {b : List UInt8} {i : Nat} (hi : i ≤ b.length) (hb : b.length ≤ 1073741824) (h60 : b[i]? ≠ some 60) : F_scan_scanner_token ⟨b, (i : Int)⟩ (tok0 i) = F_scan_scanner_text ⟨b, (i : Int)⟩ (tok0 i) := by
  have hd : declP b i = false := by
    unfold declP
    by_cases h0 : i = 0
    · subst h0; rw [hereP_hd h60, Bool.false_and, Bool.and_false]
    · rw [decide_eq_false h0, Bool.false_and]
  rw [token_eq b i hi hb, hd, cond_false]
  unfold tokRest
  rw [hereP_hd h60, hereP_hd h60, hereP_hd h60, hereP_hd h60, hereP_hd h60, hereP_hd h60, hereP_hd h60]
  rfl
/-! ## The chain -/
inductive Tr (b : List UInt8) : List Tk → Nat → Prop
  | nil : Tr b [] 0
  | snoc {L : List Tk} {j k : Nat} {t : Tk} : Tr b L j → j < b.length → F_scan_scanner_token ⟨b, (j : Int)⟩ (tok0 j) = some (0, ⟨b, (k : Int)⟩, t) → TokOk b j t k → k ≤ b.length → Tr b (L ++ [t]) k
theorem tr_le {b : List UInt8} {L : List Tk} {j : Nat} (h : Tr b L j) : j ≤ b.length ∧ L.length ≤ j := by
  induction h with
  | nil => exact ⟨Nat.zero_le _, Nat.le_refl _⟩
  | snoc h1 h2 h3 h4 h5 ih => have := h4.lt; exact ⟨h5, by simp; omega⟩
theorem all_step {b : List UInt8} {L : List Tk} {j k : Nat} {t : Tk} (hL : L.length ≤ 65536) (hj : j < b.length) (h : F_scan_scanner_token ⟨b, (j : Int)⟩ (tok0 j) = some (0, ⟨b, (k : Int)⟩, t)) (rec) : F_scan_All_l0 rec (b, (j : Int), L) = rec (b, (k : Int), L ++ [t]) := by
  have hne : ((j : Int) == (b.length : Int)) = false := by rw [beq_eq_false_iff_ne]; omega
  have h' : F_scan_scanner_token ⟨b, (j : Int)⟩ ⟨(0 : Int), (j : Int), ([] : List UInt8), ([] : List T_scan_Pair), ([] : List UInt8), (0 : Int)⟩ = some (0, ⟨b, (k : Int)⟩, t) := h
  unfold F_scan_All_l0
  dsimp only
  rw [hne, cond_false, h', Option.bind_some]
  dsimp only
  rw [show ((0 : Int) != 0) = false from rfl, cond_false, app_some (by simp; omega) (by simp; omega), Option.bind_some, Option.bind_some]
theorem all_bad {b : List UInt8} {L : List Tk} {j : Nat} {e : Int} {s : T_scan_scanner} {t : Tk} (hj : j < b.length) (he : e ≠ 0) (h : F_scan_scanner_token ⟨b, (j : Int)⟩ (tok0 j) = some (e, s, t)) (rec) : F_scan_All_l0 rec (b, (j : Int), L) = some ([], (j : Int), e) := by
  have hne : ((j : Int) == (b.length : Int)) = false := by rw [beq_eq_false_iff_ne]; omega
  have h' : F_scan_scanner_token ⟨b, (j : Int)⟩ ⟨(0 : Int), (j : Int), ([] : List UInt8), ([] : List T_scan_Pair), ([] : List UInt8), (0 : Int)⟩ = some (e, s, t) := h
  unfold F_scan_All_l0
  dsimp only
  rw [hne, cond_false, h', Option.bind_some]
  dsimp only
  rw [show (e != 0) = true by simpa using he, cond_true]
theorem all_end (b : List UInt8) (L : List Tk) (rec) : F_scan_All_l0 rec (b, (b.length : Int), L) = some (L, (0 : Int), (0 : Int)) := by
  unfold F_scan_All_l0
  dsimp only
  rw [show ((b.length : Int) == (b.length : Int)) = true by simp, cond_true]
theorem tr_iter {b : List UInt8} (hb : b.length ≤ 65536) {L : List Tk} {j : Nat} (h : Tr b L j) : ∀ m, iter F_scan_All_l0 (L.length + m) (b, (0 : Int), ([] : List T_scan_Token)) = iter F_scan_All_l0 m (b, (j : Int), L) := by
  induction h with
  | nil => intro m; rw [List.length_nil, Nat.zero_add]; rfl
  | @snoc L j k t h1 h2 h3 h4 h5 ih =>
    intro m
    have := tr_le h1
    rw [List.length_append, List.length_singleton, Nat.add_assoc, ih (1 + m), Nat.add_comm 1 m]
    exact all_step (by omega) h2 h3 _
theorem tr_end {b : List UInt8} (hb : b.length ≤ 65536) {L : List Tk} (h : Tr b L b.length) : iter F_scan_All_l0 FUEL (b, (0 : Int), ([] : List T_scan_Token)) = some (L, 0, 0) := by
  have := tr_le h
  obtain ⟨m, hm⟩ : ∃ m, FUEL = L.length + (m + 1) := ⟨FUEL - L.length - 1, by unfold FUEL; omega⟩
  rw [hm, tr_iter hb h]
  exact all_end b L _
theorem tr_bad {b : List UInt8} (hb : b.length ≤ 65536) {L : List Tk} {j : Nat} (h : Tr b L j) (hj : j < b.length) {e : Int} {s : T_scan_scanner} {t : Tk} (he : e ≠ 0) (ht : F_scan_scanner_token ⟨b, (j : Int)⟩ (tok0 j) = some (e, s, t)) : iter F_scan_All_l0 FUEL (b, (0 : Int), ([] : List T_scan_Token)) = some ([], (j : Int), e) := by
  have := tr_le h
  obtain ⟨m, hm⟩ : ∃ m, FUEL = L.length + (m + 1) := ⟨FUEL - L.length - 1, by unfold FUEL; omega⟩
  rw [hm, tr_iter hb h]
  exact all_bad hj he ht _
theorem all_loop (b : List UInt8) (hb : b.length ≤ 65536) : (∃ L, iter F_scan_All_l0 FUEL (b, (0 : Int), ([] : List T_scan_Token)) = some (L, 0, 0) ∧ Tr b L b.length) ∨
    (∃ L j e s t, iter F_scan_All_l0 FUEL (b, (0 : Int), ([] : List T_scan_Token)) = some ([], ((j : Nat) : Int), e) ∧ e ≠ 0 ∧ Tr b L j ∧ j < b.length ∧ F_scan_scanner_token ⟨b, (j : Int)⟩ (tok0 j) = some (e, s, t)) := by
  obtain ⟨o, e1, e2⟩ := iter_dec (b := F_scan_All_l0) (fun x => b.length - x.2.1.toNat) (fun x => ∃ (j : Nat) (L : List Tk), x = (b, (j : Int), L) ∧ j ≤ b.length ∧ Tr b L j) (fun o => (∃ L, o = (L, 0, 0) ∧ Tr b L b.length) ∨ (∃ L j e s t, o = ([], ((j : Nat) : Int), e) ∧ e ≠ 0 ∧ Tr b L j ∧ j < b.length ∧ F_scan_scanner_token ⟨b, (j : Int)⟩ (tok0 j) = some (e, s, t))) (by
    rintro _ ⟨j, L, rfl, g1, g2⟩
    have g3 := tr_le g2
    by_cases hj : j = b.length
    · right
      subst hj
      exact ⟨(L, 0, 0), fun rec => all_end b L rec, .inl ⟨L, rfl, g2⟩⟩
    · obtain ⟨_, t1, e, j2, t, rfl, t2, t3⟩ := token_sp b j (by omega) (by omega)
      by_cases he : e = 0
      · left
        subst he
        have t4 := t3 rfl
        exact ⟨(b, (j2 : Int), L ++ [t]), fun rec => all_step (by omega) (by omega) t1 rec, ⟨j2, _, rfl, t2, .snoc g2 (by omega) t1 t4 t2⟩, by have := t4.lt; dsimp only; omega⟩
      · right
        exact ⟨_, fun rec => all_bad (by omega) he t1 rec, .inr ⟨L, j, e, _, t, rfl, he, g2, by omega, t1⟩⟩) FUEL (b, (0 : Int), ([] : List T_scan_Token)) ⟨0, [], rfl, Nat.zero_le _, .nil⟩ (by unfold FUEL; dsimp only; omega)
  rcases e2 with ⟨L, rfl, h⟩ | ⟨L, j, e, s, t, rfl, h⟩
  · exact .inl ⟨L, e1, h⟩
  · exact .inr ⟨L, j, e, s, t, e1, h⟩
/-- What is told of a text. -/
theorem all_eq (p : List UInt8) (hp : p.length ≤ 65536) : F_scan_All p = (F_char_Fault (pln p)).bind fun x4 => cond (x4.2 != (0 : Int)) (some ([], x4.1, x4.2)) (iter F_scan_All_l0 FUEL (pln p, (0 : Int), ([] : List T_scan_Token))) := by
  have hbind : ∀ o : Option (List T_scan_Token × Int × Int), (o.bind fun x => some x) = o := fun o => by cases o <;> rfl
  unfold F_scan_All
  rw [decide_eq_false (by omega), cond_false, plain_eq p (by omega), Option.bind_some]
  dsimp only
  rw [hbind]
theorem all_ok {p : List UInt8} {L : List Tk} {a : Int} (hp : p.length ≤ 65536) (h : F_scan_All p = some (L, a, 0)) : OkT (pln p) ∧ Tr (pln p) L (pln p).length ∧ a = 0 := by
  have hl := pln_len p
  rw [all_eq p hp] at h
  rcases fault_iff (pln p) (by omega) with ⟨f1, f2⟩ | ⟨i, e, f1, f2, _⟩
  · rw [f1, Option.bind_some] at h
    dsimp only at h
    rw [show ((0 : Int) != 0) = false from rfl, cond_false] at h
    rcases all_loop (pln p) (by omega) with ⟨L', g1, g2⟩ | ⟨L', j, e, s, t, g1, g2, _⟩
    · rw [g1] at h
      have h := Option.some.inj h
      injection h with h1 h2
      injection h2 with h2 _
      subst h1
      exact ⟨f2, g2, h2.symm⟩
    · rw [g1] at h
      have h := Option.some.inj h
      injection h with _ h2
      injection h2 with _ h2
      exact absurd h2 g2
  · rw [f1, Option.bind_some] at h
    dsimp only at h
    rw [show (e != 0) = true by simpa using f2, cond_true] at h
    have h := Option.some.inj h
    injection h with _ h2
    injection h2 with _ h2
    exact absurd h2 f2
/-- A chain of one text is one of another that agrees with it. -/
theorem tr_same {U V : List UInt8} {n : Nat} (A : Agr U V n) (hU : U.length ≤ 65536) (hV : V.length ≤ 65536) (hE : ∀ k, k ≤ n → (k = U.length ∨ U[k]? = some 60) → (k = V.length ∨ V[k]? = some 60)) {L : List Tk} {j : Nat} (h : Tr U L j) : j ≤ n → Tr V L j := by
  have a1 := A.u
  have a2 := A.v
  induction h with
  | nil => intro _; exact .nil
  | @snoc L j k t h1 h2 h3 h4 h5 ih =>
    intro hk
    have hlt := h4.lt
    have key : F_scan_scanner_token ⟨V, (j : Int)⟩ (tok0 j) = some (0, ⟨V, (k : Int)⟩, t) := by
      by_cases h60 : U[j]? = some 60
      · exact token_same A (by omega) (by omega) h2 h60 h3 hk
      · obtain ⟨f, hf⟩ := text_ex h2 h60
        have h60V : V[j]? ≠ some 60 := by rw [← A.get (by omega)]; exact h60
        rw [token_text (by omega) (by omega) h60, text_mk (by omega) hf] at h3
        obtain ⟨r, hr⟩ := read_some ((U.drop j).take (f - j)) false (by rw [List.length_take, List.length_drop]; omega)
        have hrt : F_refer_ReadText ((U.drop j).take (f - j)) = some (r.1, r.2.1, r.2.2) := by unfold F_refer_ReadText; rw [hr]; rfl
        have hc : L_bCount ((U.drop j).take (f - j)) [38] = some ((Lib.countByte ((U.drop j).take (f - j)) 38 : Nat) : Int) := rfl
        have hk2 : f = k := by
          unfold textR at h3
          rw [hrt, Option.bind_some, hc, Option.bind_some] at h3
          exact (inj3 h3).2.1
        subst hk2
        have hfV : TxtAt V j f := ⟨hf.lt, by omega, fun x g1 g2 => by rw [← A.get (by omega)]; exact hf.no x g1 g2, hE f hk hf.ed⟩
        rw [token_text (by omega) (by omega) h60V, text_mk (by omega) hfV]
        unfold textR at h3 ⊢
        rw [← A.seg (by omega), hrt, Option.bind_some, hc, Option.bind_some]
        rw [hrt, Option.bind_some, hc, Option.bind_some] at h3
        obtain ⟨q1, _, q3⟩ := inj3 h3
        rw [q1, q3]
    obtain ⟨_, t1, e, j2, t', rfl, t2, t3⟩ := token_sp V j (by omega) (by omega)
    have t1' : F_scan_scanner_token ⟨V, (j : Int)⟩ (tok0 j) = some (e, ⟨V, (j2 : Int)⟩, t') := t1
    rw [key] at t1'
    obtain ⟨q1, q2, q3⟩ := inj3 t1'
    subst q1 q2 q3
    exact .snoc (ih (by omega)) (by omega) key (t3 rfl) t2
end Go.Proofs.YtfokkdofcekdbaaDoor

set_option maxRecDepth 20000
namespace Go.Proofs.YtfokkdofcekdbaaDoor
open Go.Lib (decodeL decodeN)
/-- Within a character stand bytes that begin none. -/
theorem decN_cont {n b0 b1 b2 b3 : Nat} (h : badR (decodeN n b0 b1 b2 b3) = false) : (2 ≤ (decodeN n b0 b1 b2 b3).2 → b1 / 64 = 2) ∧ (3 ≤ (decodeN n b0 b1 b2 b3).2 → b2 / 64 = 2) ∧ (4 ≤ (decodeN n b0 b1 b2 b3).2 → b3 / 64 = 2) := by
  have hb : ¬ ((decodeN n b0 b1 b2 b3).1 = 65533 ∧ (decodeN n b0 b1 b2 b3).2 = 1) := by
    unfold badR at h; simpa using h
  unfold decodeN at hb ⊢
  by_cases a0 : b0 < 128
  · rw [if_pos a0]; exact ⟨fun h => (by simp at h), fun h => (by simp at h), fun h => (by simp at h)⟩
  rw [if_neg a0] at hb
  rw [if_neg a0]
  by_cases a1 : b0 / 32 = 6 ∧ (1 < n ∧ b1 / 64 = 2)
  · rw [if_pos a1]
    refine ⟨fun _ => a1.2.2, fun h => ?_, fun h => ?_⟩ <;> split at h <;> simp at h
  rw [if_neg a1] at hb
  rw [if_neg a1]
  by_cases a2 : b0 / 16 = 14 ∧ (1 < n ∧ b1 / 64 = 2) ∧ (2 < n ∧ b2 / 64 = 2)
  · rw [if_pos a2]
    refine ⟨fun _ => a2.2.1.2, fun _ => a2.2.2.2, fun h => ?_⟩
    split at h <;> simp at h
  rw [if_neg a2] at hb
  rw [if_neg a2]
  by_cases a3 : b0 / 8 = 30 ∧ (1 < n ∧ b1 / 64 = 2) ∧ (2 < n ∧ b2 / 64 = 2) ∧ (3 < n ∧ b3 / 64 = 2)
  · rw [if_pos a3]
    exact ⟨fun _ => a3.2.1.2, fun _ => a3.2.2.1.2, fun _ => a3.2.2.2.2⟩
  rw [if_neg a3] at hb
  exact absurd ⟨rfl, rfl⟩ hb
theorem decN_bad {n b0 b1 b2 b3 : Nat} (h : b0 / 64 = 2) : decodeN n b0 b1 b2 b3 = (65533, 1) := by
  unfold decodeN
  rw [if_neg (by omega), if_neg (by omega), if_neg (by omega), if_neg (by omega)]
theorem dec_bad {l : List UInt8} (h : (l.getD 0 0).toNat / 64 = 2) : decodeL l = (65533, 1) := by
  rw [Lib.decodeL_N l]; exact decN_bad h
theorem dec_w4 {l : List UInt8} : (decodeL l).2 ≤ 4 := by
  rw [Lib.decodeL_N l]; exact (decN_facts _ _ _ _ _).2.2.2.2
theorem dec_cont {l : List UInt8} (h : badR (decodeL l) = false) {k : Nat} (h1 : 1 ≤ k) (h2 : k < (decodeL l).2) : (l.getD k 0).toNat / 64 = 2 := by
  have h4 := dec_w4 (l := l)
  rw [Lib.decodeL_N l] at h h2 h4
  obtain ⟨g1, g2, g3⟩ := decN_cont h
  have : k = 1 ∨ k = 2 ∨ k = 3 := by omega
  rcases this with rfl | rfl | rfl
  · exact g1 (by omega)
  · exact g2 (by omega)
  · exact g3 (by omega)
/-- A text of characters is decoded alike, whatever stands behind. -/
theorem dec_all {x : List UInt8} (h : OkT x) (y : List UInt8) : ∀ j, j < x.length → decodeL ((x ++ y).drop j) = decodeL (x.drop j) := by
  induction h with
  | nil => intro j hj; simp at hj
  | @cons l h1 h2 h3 h4 ih =>
    intro j hj
    have hp := dec_pos h1
    by_cases h0 : j = 0
    · subst h0; rw [List.drop_zero, List.drop_zero]; exact dec_app h1 h2
    by_cases hw : j < (decodeL l).2
    · have hc := dec_cont h2 (by omega) hw
      rw [dec_bad (l := (l ++ y).drop j) (by rw [getD_drop, Nat.add_zero, getD_appL hj]; exact hc), dec_bad (l := l.drop j) (by rw [getD_drop, Nat.add_zero]; exact hc)]
    · have := ih (j - (decodeL l).2) (by rw [List.length_drop]; omega)
      rw [List.drop_drop, show (decodeL l).2 + (j - (decodeL l).2) = j by omega] at this
      rw [← this, ← List.drop_append_of_le_length hp.2, List.drop_drop, show (decodeL l).2 + (j - (decodeL l).2) = j by omega]
theorem agr_cut {t : List UInt8} {n : Nat} (hn : n ≤ t.length) (h : OkT (t.take n)) : Agr t (t.take n) n :=
  ⟨by rw [List.take_take, Nat.min_self], hn, by rw [List.length_take]; omega, fun j hj => by
    have := dec_all h (t.drop n) j (by rw [List.length_take]; omega)
    rwa [List.take_append_drop] at this⟩
theorem okT_one {l : List UInt8} (h1 : l ≠ []) (h2 : badR (decodeL l) = false) (h3 : charP ((decodeL l).1 : Int) = true) : OkT (l.take (decodeL l).2) := by
  have hp := dec_pos h1
  have e := dec_take h1 h2
  refine .cons (fun h => by have := congrArg List.length h; rw [List.length_take, List.length_nil] at this; omega) (by rw [e]; exact h2) (by rw [e]; exact h3) ?_
  rw [e, List.drop_eq_nil_of_le (by rw [List.length_take]; omega)]
  exact .nil
/-- Cut off a text of characters is such, or it is cut within one. -/
theorem cut_ok {t : List UInt8} (h : OkT t) : ∀ n, n ≤ t.length → (OkT (t.take n) ∧ (n < t.length → ¬ (t.getD n 0).toNat / 64 = 2)) ∨ (∃ z y, t.take n = z ++ y ∧ OkT z ∧ y ≠ [] ∧ badR (decodeL y) = true ∧ y.length < 4 ∧ n < t.length ∧ (t.getD n 0).toNat / 64 = 2) := by
  induction h with
  | nil => intro n hn; left; rw [List.take_nil]; exact ⟨.nil, fun h => (by simp at h)⟩
  | @cons l h1 h2 h3 h4 ih =>
    intro n hn
    have hp := dec_pos h1
    have h4' := dec_w4 (l := l)
    by_cases hw : (decodeL l).2 ≤ n
    · have e1 : l.take n = l.take (decodeL l).2 ++ (l.drop (decodeL l).2).take (n - (decodeL l).2) := by
        conv => lhs; rw [show n = (decodeL l).2 + (n - (decodeL l).2) by omega]
        exact List.take_add
      have e2 : (l.drop (decodeL l).2).getD (n - (decodeL l).2) 0 = l.getD n 0 := by rw [getD_drop, show (decodeL l).2 + (n - (decodeL l).2) = n by omega]
      rcases ih (n - (decodeL l).2) (by rw [List.length_drop]; omega) with ⟨g1, g2⟩ | ⟨z, y, g1, g2, g3, g4, g5, g6, g7⟩
      · left
        rw [e1]
        exact ⟨okT_app (okT_one h1 h2 h3) g1, fun hlt => by rw [← e2]; exact g2 (by rw [List.length_drop]; omega)⟩
      · right
        rw [List.length_drop] at g6
        exact ⟨l.take (decodeL l).2 ++ z, y, by rw [e1, g1, List.append_assoc], okT_app (okT_one h1 h2 h3) g2, g3, g4, g5, by omega, by rw [← e2]; exact g7⟩
    · by_cases h0 : n = 0
      · subst h0
        left
        rw [List.take_zero]
        refine ⟨.nil, fun _ hc => ?_⟩
        rw [dec_bad hc] at h2
        exact absurd h2 (by decide)
      · right
        have hne : l.take n ≠ [] := fun h => by have := congrArg List.length h; rw [List.length_take, List.length_nil] at this; omega
        refine ⟨[], l.take n, rfl, .nil, hne, ?_, by rw [List.length_take]; omega, by omega, dec_cont h2 (by omega) (by omega)⟩
        cases hb : badR (decodeL (l.take n)) with
        | true => rfl
        | false =>
          have e := dec_app (y := l.drop n) hne hb
          rw [List.take_append_drop] at e
          have := (dec_pos hne).2
          rw [← e, List.length_take] at this
          omega
theorem fault_cut (z y : List UInt8) (hz : OkT z) (hy : y ≠ []) (hb : badR (decodeL y) = true) (hl : (z ++ y).length ≤ 1073741824) : F_char_Fault (z ++ y) = some ((z.length : Int), 20) := by
  have hyl : 0 < y.length := List.length_pos_iff.2 hy
  have hlen : (z ++ y).length = z.length + y.length := List.length_append
  obtain ⟨o, e, h⟩ := iter_dec (b := F_char_Fault_l0 (z ++ y)) (fun k => z.length - k.toNat) (fun k => ∃ i : Nat, k = (i : Int) ∧ i ≤ z.length ∧ OkT (z.drop i)) (fun o => o = .inr ((z.length : Int), 20)) (by
    rintro _ ⟨i, rfl, hi, hok⟩
    simp only [fault_step (z ++ y) i (by omega) hl]
    by_cases hlt : i < z.length
    · left
      have hne := drop_nn hlt
      have d := dec_pos hne
      obtain ⟨g1, g2, g3⟩ := okT_inv hok hne
      have hd : decodeL ((z ++ y).drop i) = decodeL (z.drop i) := dec_all hz y i hlt
      rw [hd, g1, g2]
      rw [List.length_drop] at d
      exact ⟨_, fun _ => rfl, ⟨i + (decodeL (z.drop i)).2, rfl, by omega, by rw [← List.drop_drop]; exact g3⟩, by rw [Int.toNat_natCast, Int.toNat_natCast]; omega⟩
    · right
      have : i = z.length := by omega
      subst this
      rw [List.drop_left, hb]
      exact ⟨_, fun _ => rfl, rfl⟩) FUEL (0 : Int) ⟨0, rfl, Nat.zero_le _, by rw [List.drop_zero]; exact hz⟩ (by unfold FUEL; omega)
  unfold F_char_Fault
  simp only [letJ]
  rw [e, Option.bind_some, h]
end Go.Proofs.YtfokkdofcekdbaaDoor

set_option maxRecDepth 20000
namespace Go.Proofs.YtfokkdofcekdbaaDoor
theorem tr_pos {b : List UInt8} {L : List Tk} {j : Nat} (h : Tr b L j) : ∀ m, m < L.length → ∃ (i k : Nat) (t : Tk), L[m]? = some t ∧ Tr b (L.take m) i ∧ i < b.length ∧ F_scan_scanner_token ⟨b, (i : Int)⟩ (tok0 i) = some (0, ⟨b, (k : Int)⟩, t) ∧ TokOk b i t k ∧ k ≤ j ∧ Tr b (L.take (m + 1)) k := by
  induction h with
  | nil => intro m hm; simp at hm
  | @snoc L j k t h1 h2 h3 h4 h5 ih =>
    intro m hm
    rw [List.length_append, List.length_singleton] at hm
    by_cases hlt : m < L.length
    · obtain ⟨i, k', t', g1, g2, g3, g4, g5, g6, g7⟩ := ih m hlt
      have := h4.lt
      refine ⟨i, k', t', ?_, ?_, g3, g4, g5, by omega, ?_⟩
      · rw [List.getElem?_append_left hlt]; exact g1
      · rw [List.take_append_of_le_length (by omega)]; exact g2
      · rw [List.take_append_of_le_length (by omega)]; exact g7
    · have : m = L.length := by omega
      subst this
      refine ⟨j, k, t, ?_, ?_, h2, h3, h4, Nat.le_refl _, ?_⟩
      · rw [List.getElem?_append_right (Nat.le_refl _), Nat.sub_self]; rfl
      · rw [List.take_append_of_le_length (Nat.le_refl _), List.take_length]; exact h1
      · rw [List.take_of_length_le (by simp)]; exact .snoc h1 h2 h3 h4 h5
theorem tr_one {b : List UInt8} {L : List Tk} {i : Nat} (h : Tr b L i) : ∀ (L' : List Tk) (i' : Nat), Tr b L' i' → L' = L → i' = i := by
  induction h with
  | nil =>
    intro L' i' h' e
    cases h' with
    | nil => rfl
    | snoc => simp at e
  | @snoc L j k t h1 h2 h3 h4 h5 ih =>
    intro L' i' h' e
    cases h' with
    | nil => simp at e
    | @snoc M j' _ t' g1 g2 g3 g4 g5 =>
      have e1 : M = L ∧ t' = t := by
        have := List.append_inj' e rfl
        exact ⟨this.1, by simpa using this.2⟩
      have hj := ih M j' g1 e1.1
      subst hj
      rw [g3] at h3
      exact (inj3 h3).2.1
theorem doc_eq (t : Tk) (hl : t.Pairs.length ≤ 1073742000) : F_lecternlaw03_doc t = some ⟨t.Kind, t.At, t.Name, t.Pairs, t.Text, t.Refs⟩ := by
  obtain ⟨o, e1, e2⟩ := iter_spec (b := F_lecternlaw03_doc_l0 t) (fun i x => x = (t.Kind, t.At, t.Name, t.Pairs.take i, t.Text, t.Refs, (i : Int))) (fun o => o = (t.Kind, t.At, t.Name, t.Pairs, t.Text, t.Refs)) t.Pairs.length (x0 := (t.Kind, t.At, t.Name, ([] : List T_scan_Pair), t.Text, t.Refs, (0 : Int))) rfl (by
    rintro i _ rec hi rfl
    left
    refine ⟨(t.Kind, t.At, t.Name, t.Pairs.take (i + 1), t.Text, t.Refs, ((i + 1 : Nat) : Int)), ?_, rfl⟩
    unfold F_lecternlaw03_doc_l0
    dsimp only
    rw [decide_eq_true (by omega), cond_true, idx_some hi, Option.bind_some, app_some (by simp; omega) (by simp; omega), Option.bind_some, w64 (by omega) (by omega), List.take_add_one, List.getElem?_eq_getElem hi]
    rfl) (by
    rintro _ rec rfl
    refine ⟨_, ?_, rfl⟩
    unfold F_lecternlaw03_doc_l0
    dsimp only
    rw [decide_eq_false (by omega), cond_false, List.take_length]) (n := FUEL) (by unfold FUEL; omega)
  unfold F_lecternlaw03_doc
  simp only [letJ]
  rw [e1, Option.bind_some, e2]
theorem same_self (t : T_lecternref03_Token) (hl : t.Pairs.length ≤ 1073742000) : F_lecternref03_Same t t = some true := by
  obtain ⟨o, e1, e2⟩ := iter_spec (b := F_lecternref03_Same_l0 t t) (fun i x => x = (i : Int)) (fun o => o = .inl ()) t.Pairs.length (x0 := (0 : Int)) rfl (by
    rintro i _ rec hi rfl
    left
    refine ⟨((i + 1 : Nat) : Int), ?_, rfl⟩
    unfold F_lecternref03_Same_l0
    rw [decide_eq_true (by omega), cond_true, idx_some hi, Option.bind_some, Option.bind_some, beq_self_eq_true, beq_self_eq_true, w64 (by omega) (by omega)]
    rfl) (by
    rintro _ rec rfl
    refine ⟨_, ?_, rfl⟩
    unfold F_lecternref03_Same_l0
    rw [decide_eq_false (by omega), cond_false]) (n := FUEL) (by unfold FUEL; omega)
  unfold F_lecternref03_Same
  simp only [letJ, bne, beq_self_eq_true, Bool.not_true, Bool.or_self, cond_false]
  rw [e1, Option.bind_some, e2]
end Go.Proofs.YtfokkdofcekdbaaDoor

set_option maxRecDepth 20000
namespace Go.Proofs.YtfokkdofcekdbaaDoor
theorem lnR_no13 : ∀ (l : List UInt8) (pc : Bool), (13 : UInt8) ∉ lnR pc l
  | [], _ => by simp [lnR]
  | c :: l, pc => by
    have h1 := lnR_no13 l true
    have h2 := lnR_no13 l false
    simp only [lnR]
    split
    · simp [h1]
    · split
      · exact h2
      · rename_i h _
        simp only [List.mem_cons, not_or]
        exact ⟨fun e => h e.symm, h2⟩
theorem lnR_id : ∀ (l : List UInt8), (13 : UInt8) ∉ l → lnR false l = l
  | [], _ => rfl
  | c :: l, h => by
    simp only [List.mem_cons, not_or] at h
    simp only [lnR]
    rw [if_neg (fun e => h.1 e.symm), if_neg (by simp), lnR_id l h.2]
abbrev bom : List UInt8 := [239, 187, 191]
theorem lnR_hd {c : UInt8} {l : List UInt8} {w : List UInt8} (h : (c :: w).isPrefixOf (lnR false l) = true) (hc : 128 ≤ c.toNat) : ∃ l', l = c :: l' ∧ w.isPrefixOf (lnR false l') = true := by
  cases l with
  | nil => simp [lnR] at h
  | cons d l' =>
    simp only [lnR] at h
    split at h
    · simp [List.isPrefixOf] at h
      rw [h.1] at hc; exact absurd hc (by decide)
    · rw [if_neg (by simp)] at h
      simp [List.isPrefixOf] at h
      exact ⟨l', by rw [h.1], by simpa using h.2⟩
theorem bom_back {l : List UInt8} (h : bom.isPrefixOf (lnR false l) = true) : bom.isPrefixOf l = true := by
  obtain ⟨l1, e1, h1⟩ := lnR_hd h (by decide)
  obtain ⟨l2, e2, h2⟩ := lnR_hd h1 (by decide)
  obtain ⟨l3, e3, h3⟩ := lnR_hd h2 (by decide)
  rw [e1, e2, e3]
  simp [bom, List.isPrefixOf]
/-- A text that begins with what could be taken for a mark is at least a mark shorter than what it comes of. -/
theorem bom_len {p : List UInt8} {n : Nat} (h : bom.isPrefixOf ((pln p).take n) = true) : (pln p).length + 3 ≤ p.length := by
  have h1 : bom.isPrefixOf (pln p) = true := by
    rw [List.isPrefixOf_iff_prefix] at h ⊢
    exact h.trans (List.take_prefix _ _)
  have h2 := bom_back (l := strip p) h1
  have hl := lnR_len false (strip p)
  unfold pln
  cases hb : ([239, 187, 191] : List UInt8).isPrefixOf p with
  | false =>
    have : strip p = p := by unfold strip; rw [if_neg (by simp [hb])]
    rw [this] at h2
    rw [hb] at h2; cases h2
  | true =>
    have e : strip p = p.drop 3 := by unfold strip; rw [if_pos hb]
    have h3 := hb
    rw [isPre_take, Bool.and_eq_true, decide_eq_true_eq] at h3
    have h4 : 3 ≤ p.length := by simpa using h3.1
    rw [e, List.length_drop] at hl
    rw [e]
    omega
def mrk (x : List UInt8) : List UInt8 := if bom.isPrefixOf x = true then bom ++ x else x
theorem pln_mrk {x : List UInt8} (h : (13 : UInt8) ∉ x) : pln (mrk x) = x := by
  unfold mrk pln
  split
  · have : strip (bom ++ x) = x := by unfold strip; rw [if_pos (by simp [bom, List.isPrefixOf])]; rfl
    rw [this, lnR_id x h]
  · rename_i hb
    have : strip x = x := by unfold strip; rw [if_neg hb]
    rw [this, lnR_id x h]
end Go.Proofs.YtfokkdofcekdbaaDoor

set_option maxRecDepth 20000
namespace Go.Proofs.YtfokkdofcekdbaaDoor
open Go.Lib (decodeL decodeN)
/-- The first token from a place on. -/
theorem cuts_l0 (n : Int) (L : List Tk) (a e : Int) (m : Nat) (hL : L.length ≤ 1073741824) (hm : m ≤ L.length) (h1 : ∀ (k : Nat) (t : Tk), k < m → L[k]? = some t → t.At < n) (h2 : ∀ t, L[m]? = some t → n ≤ t.At) : iter (F_lecternlaw03_ScanCuts_l0 n (L, a, e)) FUEL (0 : Int) = some (m : Int) := by
  obtain ⟨o, e1, e2⟩ := iter_spec (b := F_lecternlaw03_ScanCuts_l0 n (L, a, e)) (fun i x => x = (i : Int)) (fun o => o = (m : Int)) m (x0 := (0 : Int)) rfl (by
    rintro i _ rec hi rfl
    left
    refine ⟨((i + 1 : Nat) : Int), ?_, rfl⟩
    unfold F_lecternlaw03_ScanCuts_l0
    simp only [letJ]
    rw [decide_eq_true (by omega), cond_true, idx_some (show i < L.length by omega), Option.bind_some, decide_eq_true (h1 i _ hi (List.getElem?_eq_getElem (by omega))), cond_true, w64 (by omega) (by omega)]
    rfl) (by
    rintro _ rec rfl
    refine ⟨_, ?_, rfl⟩
    unfold F_lecternlaw03_ScanCuts_l0
    simp only [letJ]
    by_cases hlt : m < L.length
    · have := h2 _ (List.getElem?_eq_getElem hlt)
      rw [decide_eq_true (by omega), cond_true, idx_some hlt, Option.bind_some, decide_eq_false (by omega), cond_false]
    · rw [decide_eq_false (by omega), cond_false, cond_false]) (n := FUEL) (by unfold FUEL; omega)
  rw [e1, e2]
theorem cuts_l1 (L M : List Tk) (a e c f : Int) (hM : M.length ≤ 1073741824) (h : ∀ (k : Nat) (t : Tk), M[k]? = some t → L[k]? = some t ∧ t.Pairs.length ≤ 1073742000) : iter (F_lecternlaw03_ScanCuts_l1 (L, a, e) (M, c, f)) FUEL (0 : Int) = some (.inl ()) := by
  obtain ⟨o, e1, e2⟩ := iter_spec (b := F_lecternlaw03_ScanCuts_l1 (L, a, e) (M, c, f)) (fun i x => x = (i : Int)) (fun o => o = .inl ()) M.length (x0 := (0 : Int)) rfl (by
    rintro i _ rec hi rfl
    left
    refine ⟨((i + 1 : Nat) : Int), ?_, rfl⟩
    obtain ⟨g1, g2⟩ := h i _ (List.getElem?_eq_getElem hi)
    obtain ⟨hiL, g3⟩ := List.getElem?_eq_some_iff.1 g1
    unfold F_lecternlaw03_ScanCuts_l1
    simp only [letJ]
    rw [decide_eq_true (by omega), cond_true, idx_some hi, Option.bind_some, idx_some hiL, Option.bind_some, g3, doc_eq _ g2, Option.bind_some, Option.bind_some, same_self _ g2, Option.bind_some, Bool.not_true, cond_false, Option.bind_some, Option.bind_some, show (M[i].At != M[i].At) = false by simp, cond_false, w64 (by omega) (by omega)]
    rfl) (by
    rintro _ rec rfl
    refine ⟨_, ?_, rfl⟩
    unfold F_lecternlaw03_ScanCuts_l1
    simp only [letJ]
    rw [decide_eq_false (by omega), cond_false]) (n := FUEL) (by unfold FUEL; omega)
  rw [e1, e2]
theorem marked_eq (x : List UInt8) (hx : x.length ≤ 1073741824) : F_lecternlaw03_marked x = some (mrk x) := by
  have no : bom.isPrefixOf x = false → mrk x = x := fun h => by unfold mrk; rw [h, if_neg (by simp)]
  unfold F_lecternlaw03_marked
  simp only [letJ]
  rcases x with _ | ⟨a, _ | ⟨b, _ | ⟨c, q⟩⟩⟩
  · rw [no rfl]; rfl
  · rw [no (by simp [List.isPrefixOf])]; rfl
  · rw [no (by simp [List.isPrefixOf])]; rfl
  · have hd : decide ((2 : Int) < ((a :: b :: c :: q).length : Int)) = true := decide_eq_true (by simp only [List.length_cons]; omega)
    have i0 : idx (a :: b :: c :: q) (0 : Int) = some a := idx_some (i := 0) (by simp)
    have i1 : idx (a :: b :: c :: q) (1 : Int) = some b := idx_some (i := 1) (by simp)
    have i2 : idx (a :: b :: c :: q) (2 : Int) = some c := idx_some (i := 2) (by simp)
    have hc : cat ([239, 187, 191] : List UInt8) (a :: b :: c :: q) = some (([239, 187, 191] : List UInt8) ++ (a :: b :: c :: q)) := by
      unfold cat; rw [if_pos (by simp only [List.length_cons, List.length_nil] at hx ⊢; omega)]
    rw [hd, cond_true, i0, Option.bind_some, i1, Option.bind_some, i2, Option.bind_some, hc, Option.bind_some]
    rw [show (239 : Int) = ((239 : Nat) : Int) from rfl, show (187 : Int) = ((187 : Nat) : Int) from rfl, show (191 : Int) = ((191 : Nat) : Int) from rfl, u8_beq a 239 (by omega), u8_beq b 187 (by omega), u8_beq c 191 (by omega)]
    by_cases hall : a = 239 ∧ b = 187 ∧ c = 191
    · obtain ⟨rfl, rfl, rfl⟩ := hall
      unfold mrk
      rw [if_pos (by simp [bom, List.isPrefixOf])]
      rfl
    · rw [no (by
        rw [Bool.eq_false_iff]
        intro h
        simp only [bom, List.isPrefixOf, Bool.and_true, Bool.and_eq_true, beq_iff_eq] at h
        exact hall ⟨h.1.symm, h.2.1.symm, h.2.2.symm⟩)]
      by_cases ha : a = 239
      · rw [decide_eq_true (show a = UInt8.ofNat 239 from ha), cond_true]
        by_cases hb : b = 187
        · rw [decide_eq_true (show b = UInt8.ofNat 187 from hb), cond_true, decide_eq_false (show ¬ c = UInt8.ofNat 191 from fun h => hall ⟨ha, hb, h⟩), cond_false]
        · rw [decide_eq_false (show ¬ b = UInt8.ofNat 187 from hb), cond_false, cond_false]
      · rw [decide_eq_false (show ¬ a = UInt8.ofNat 239 from ha), cond_false, cond_false, cond_false]
end Go.Proofs.YtfokkdofcekdbaaDoor

set_option maxRecDepth 20000
namespace Go.Proofs.YtfokkdofcekdbaaDoor
theorem upTo_last {U : List UInt8} (hU : U.length ≤ 1073741824) {i k j : Nat} {t t' : Tk} {w : List UInt8} (hw : w ≠ []) (hwl : w.length ≤ 100) (hi : i + k ≤ U.length) (h : F_scan_scanner_upTo ⟨U, (i : Int)⟩ t (k : Int) w = some (0, ⟨U, (j : Int)⟩, t')) : ∃ m, j = m + w.length ∧ hereP U m w = true := by
  unfold F_scan_scanner_upTo at h
  dsimp only at h
  rw [w64 (x := (i : Int) + (k : Int)) (by omega) (by omega), show (i : Int) + (k : Int) = ((i + k : Nat) : Int) by omega, slc_drop (by omega), Option.bind_some] at h
  unfold L_bIndex at h
  rw [if_pos ⟨by rw [List.length_drop]; omega, by omega, hw⟩, Option.bind_some] at h
  by_cases hn : Lib.index (U.drop (i + k)) w < 0
  · rw [decide_eq_true hn, cond_true] at h
    exact absurd (inj3 (j := i) h).1 (by decide)
  · obtain ⟨m, e1⟩ : ∃ m : Nat, Lib.index (U.drop (i + k)) w = (m : Int) := ⟨(Lib.index (U.drop (i + k)) w).toNat, by omega⟩
    obtain ⟨e0, e2⟩ := index_occ e1 hw
    have hwp : 0 < w.length := List.length_pos_iff.2 hw
    rw [List.length_drop] at e2
    rw [decide_eq_false hn, cond_false, e1, slc_take0 (by rw [List.length_drop]; omega), Option.bind_some, w64 (x := (k : Int) + (m : Int)) (by omega) (by omega), w64 (x := (k : Int) + (m : Int) + (w.length : Int)) (by omega) (by omega), w64 (by omega) (by omega)] at h
    have h := Option.some.inj h
    injection h with _ h
    injection h with h3 h4
    injection h3 with _ h3
    refine ⟨i + k + m, by omega, ?_⟩
    unfold hereP
    rw [← List.drop_drop]
    exact e0
def lastB (U : List UInt8) (f : Nat) : Prop := ∃ m, f = m + 1 ∧ U[m]? = some 62
theorem lastB_of {U : List UInt8} {m : Nat} {w : List UInt8} (h : hereP U m (w ++ [62]) = true) : lastB U (m + (w.length + 1)) := by
  refine ⟨m + w.length, by omega, ?_⟩
  have := hereP_nth w.length h (by simp)
  rw [this]; simp
theorem closing_last {U : List UInt8} (hU : U.length ≤ 1073741824) {i f : Nat} {t t' : Tk} (hi : i + 2 ≤ U.length) (h : F_scan_scanner_closing ⟨U, (i : Int)⟩ t = some (0, ⟨U, (f : Int)⟩, t')) : lastB U f := by
  unfold F_scan_scanner_closing at h
  dsimp only at h
  rw [w64 (x := (i : Int) + 2) (by omega) (by omega), show (i : Int) + 2 = ((i + 2 : Nat) : Int) by omega] at h
  obtain ⟨v, e, j, h1, h2, h3, h4, h5⟩ := name_sp U (i + 2) hi hU
  rw [h1, Option.bind_some] at h
  dsimp only at h
  by_cases he : e = 0
  case neg =>
    rw [show (e != 0) = true by simpa using he, cond_true] at h
    exact absurd (inj3 h).1 he
  subst he
  obtain ⟨s1, s2⟩ := sk_le wsP U j h3
  rw [show ((0 : Int) != 0) = false from rfl, cond_false, spaces_eq U _ j h3 hU, Option.bind_some, sign_eq U _ _ s2 hU, Option.bind_some] at h
  cases hh : hereP U (sk wsP U j) [62] with
  | false =>
    rw [hh, if_neg (by simp)] at h
    exact absurd (inj3 h).1 (by show ¬ (23 : Int) = 0; decide)
  | true =>
    rw [hh, if_pos rfl] at h
    obtain ⟨_, g2, _⟩ := inj3 h
    rw [← g2]
    exact lastB_of (w := []) hh
theorem instr_last {U : List UInt8} (hU : U.length ≤ 1073741824) {i f : Nat} {t t' : Tk} (hi : i + 2 ≤ U.length) (h : F_scan_scanner_instr ⟨U, (i : Int)⟩ t = some (0, ⟨U, (f : Int)⟩, t')) : lastB U f := by
  unfold F_scan_scanner_instr at h
  dsimp only at h
  rw [w64 (x := (i : Int) + 2) (by omega) (by omega), show (i : Int) + 2 = ((i + 2 : Nat) : Int) by omega] at h
  obtain ⟨v, e, j, h1, h2, h3, h4, h5⟩ := name_sp U (i + 2) hi hU
  rw [h1, Option.bind_some] at h
  dsimp only at h
  by_cases he : e = 0
  case neg =>
    rw [show (e != 0) = true by simpa using he, cond_true] at h
    exact absurd (inj3 h).1 he
  subst he
  rw [show ((0 : Int) != 0) = false from rfl, cond_false, F_nameC, Option.bind_some] at h
  cases hnm : nameP v with
  | false => rw [hnm, Bool.not_false, cond_true] at h; exact absurd (inj3 h).1 (by decide)
  | true =>
  obtain ⟨r, hr⟩ := eqf_xml v (by omega)
  rw [hnm, Bool.not_true, cond_false, hr, Option.bind_some] at h
  cases r with
  | true => rw [cond_true] at h; exact absurd (inj3 h).1 (by decide)
  | false =>
  rw [cond_false, here_eq U j _ h3, Option.bind_some] at h
  cases hh : hereP U j [63, 62] with
  | true =>
    rw [hh, cond_true, sign_eq U _ _ h3 hU, hh, if_pos rfl, Option.bind_some] at h
    obtain ⟨_, g2, _⟩ := inj3 h
    rw [← g2]
    exact lastB_of (w := [63]) hh
  | false =>
    obtain ⟨s1, s2⟩ := sk_le wsP U j h3
    rw [hh, cond_false, spaces_eq U _ j h3 hU, Option.bind_some] at h
    by_cases hs : sk wsP U j = j
    · rw [show (((sk wsP U j : Nat) : Int) == (j : Int)) = true by simp [hs], cond_true] at h
      exact absurd (inj3 h).1 (by decide)
    rw [show (((sk wsP U j : Nat) : Int) == (j : Int)) = false by rw [beq_eq_false_iff_ne]; omega, cond_false] at h
    obtain ⟨e2, k, x, u1, u2, u3⟩ := upTo_sp U (sk wsP U j) 0 ⟨8, t.At, v, t.Pairs, t.Text, t.Refs⟩ [63, 62] (by simp) (by omega) hU (by simp)
    rw [show (0 : Int) = ((0 : Nat) : Int) from rfl, u1, Option.bind_some] at h
    obtain ⟨g1, g2, _⟩ := inj3 h
    subst g1
    have g2' : k = f := g2
    subst g2'
    obtain ⟨m, rfl, hm⟩ := upTo_last hU (by simp) (by simp) (by omega) u1
    exact lastB_of (w := [63]) hm
theorem tag_l0_last {U : List UInt8} (hU : U.length ≤ 1073741824) (At : Int) (Nm Tx : List UInt8) (rf : Int) (f : Nat) (t' : Tk) :
    ∀ (m j : Nat) (ps : List T_scan_Pair) (y z : List UInt8), j ≤ U.length → ps.length ≤ j → iter F_scan_scanner_tag_l0 m (U, (j : Int), (2 : Int), At, Nm, ps, Tx, rf, y, z) = some (0, ⟨U, (f : Int)⟩, t') → lastB U f
  | 0, j, ps, y, z, _, _, h => by cases h
  | m + 1, j, ps, y, z, g2, g3, h => by
    rw [show iter F_scan_scanner_tag_l0 (m + 1) (U, (j : Int), (2 : Int), At, Nm, ps, Tx, rf, y, z) = F_scan_scanner_tag_l0 (iter F_scan_scanner_tag_l0 m) (U, (j : Int), (2 : Int), At, Nm, ps, Tx, rf, y, z) from rfl] at h
    generalize hI : iter F_scan_scanner_tag_l0 m = I at h
    unfold F_scan_scanner_tag_l0 at h
    dsimp only at h
    obtain ⟨s1, s2⟩ := sk_le wsP U j g2
    rw [spaces_eq U (j : Int) j g2 hU, Option.bind_some, here_eq U _ _ s2, Option.bind_some] at h
    cases c1 : hereP U (sk wsP U j) [47, 62] with
    | true =>
      rw [c1, cond_true, sign_eq U _ _ s2 hU, c1, if_pos rfl, Option.bind_some] at h
      obtain ⟨_, q2, _⟩ := inj3 h
      rw [← q2]; exact lastB_of (w := [47]) c1
    | false =>
    rw [c1, cond_false, here_eq U _ _ s2, Option.bind_some] at h
    cases c2 : hereP U (sk wsP U j) [62] with
    | true =>
      rw [c2, cond_true, sign_eq U _ _ s2 hU, c2, if_pos rfl, Option.bind_some] at h
      obtain ⟨_, q2, _⟩ := inj3 h
      rw [← q2]; exact lastB_of (w := []) c2
    | false =>
    rw [c2, cond_false] at h
    by_cases c3 : sk wsP U j = j
    · rw [show (((sk wsP U j : Nat) : Int) == (j : Int)) = true by simp [c3], cond_true] at h
      exact absurd (inj3 h).1 (by decide)
    have c3' : (((sk wsP U j : Nat) : Int) == (j : Int)) = false := by rw [beq_eq_false_iff_ne]; omega
    obtain ⟨nm, e1, k1, n1, n2, n3, n4, n5⟩ := name_sp U (sk wsP U j) s2 hU
    rw [c3', cond_false, n1, Option.bind_some] at h
    dsimp only at h
    by_cases ce1 : e1 = 0
    case neg =>
      rw [show (e1 != 0) = true by simpa using ce1, cond_true] at h
      exact absurd (inj3 h).1 ce1
    subst ce1
    have n6 := (n5 rfl).2
    rw [show ((0 : Int) != 0) = false from rfl, cond_false] at h
    obtain ⟨e2, k2, r1, r2, r3⟩ := equals_sp U k1 n3 hU
    rw [r1, Option.bind_some] at h
    dsimp only at h
    by_cases ce2 : e2 = 0
    case neg =>
      rw [show (e2 != 0) = true by simpa using ce2, cond_true] at h
      exact absurd (inj3 h).1 ce2
    subst ce2
    obtain ⟨rv, e3, k3, w1, w2, w3, w4, w5⟩ := quoted_sp U k2 r3 hU
    rw [show ((0 : Int) != 0) = false from rfl, cond_false, w1, Option.bind_some] at h
    dsimp only at h
    by_cases ce3 : e3 = 0
    case neg =>
      rw [show (e3 != 0) = true by simpa using ce3, cond_true] at h
      exact absurd (inj3 h).1 ce3
    subst ce3
    have w6 := w5 rfl
    obtain ⟨rd, hrd⟩ := read_some rv true (by omega)
    have hrv : F_refer_ReadValue rv = some (rd.1, rd.2.1, rd.2.2) := by unfold F_refer_ReadValue; rw [hrd]; rfl
    rw [show ((0 : Int) != 0) = false from rfl, cond_false, hrv, Option.bind_some] at h
    dsimp only at h
    by_cases ce4 : rd.2.2 = 0
    case neg =>
      rw [show (rd.2.2 != 0) = true by simpa using ce4, cond_true] at h
      exact absurd (inj3 h).1 ce4
    rw [show (rd.2.2 != 0) = false by simpa using ce4, cond_false] at h
    simp only [letJ] at h
    obtain ⟨o, l1, l2⟩ := tag_l1 2 At Nm ps Tx rf ((nm, 0), ⟨U, (k1 : Int)⟩) ((rv, 0), ⟨U, (k3 : Int)⟩) (by omega)
    rw [l1, Option.bind_some] at h
    rcases l2 with ⟨rfl, hno⟩ | rfl
    case inr => exact absurd (inj3 h).1 (by decide)
    dsimp only at h
    rw [app_some (by simp; omega) (by simp; omega), Option.bind_some, Option.bind_some, ← hI] at h
    exact tag_l0_last hU At Nm Tx rf f t' m k3 _ nm rd.1 w3 (by simp; omega) h
theorem tag_last {U : List UInt8} (hU : U.length ≤ 1073741824) {i f : Nat} {t t' : Tk} (hi : i + 1 ≤ U.length) (hp : t.Pairs = []) (h : F_scan_scanner_tag ⟨U, (i : Int)⟩ t = some (0, ⟨U, (f : Int)⟩, t')) : lastB U f := by
  unfold F_scan_scanner_tag at h
  dsimp only at h
  rw [w64 (x := (i : Int) + 1) (by omega) (by omega), show (i : Int) + 1 = ((i + 1 : Nat) : Int) by omega] at h
  obtain ⟨v, e, j, h1, h2, h3, h4, h5⟩ := name_sp U (i + 1) hi hU
  rw [h1, Option.bind_some] at h
  dsimp only at h
  by_cases he : e = 0
  case neg =>
    rw [show (e != 0) = true by simpa using he, cond_true] at h
    exact absurd (inj3 h).1 he
  subst he
  have hbind : ∀ o : Option (Int × T_scan_scanner × T_scan_Token), (o.bind fun x => some x) = o := fun o => by cases o <;> rfl
  rw [show ((0 : Int) != 0) = false from rfl, cond_false, hbind] at h
  exact tag_l0_last hU t.At v t.Text t.Refs f t' FUEL j t.Pairs [] [] h3 (by rw [hp]; exact Nat.zero_le _) h
theorem decl_last {U : List UInt8} (hU : U.length ≤ 1073741824) {f : Nat} {t t' : Tk} (h5 : 5 ≤ U.length) (hp : t.Pairs = []) (h : F_scan_scanner_decl ⟨U, (0 : Int)⟩ t = some (0, ⟨U, (f : Int)⟩, t')) : lastB U f := by
  unfold F_scan_scanner_decl at h
  simp only [letJ] at h
  rw [hp] at h
  obtain ⟨o, e1, e2⟩ := decl_l0 U t.At t.Name t.Text t.Refs h5 hU
  rw [e1, Option.bind_some] at h
  rcases e2 with ⟨j, ps, la, rfl, h1, h2, h3, h7, h4, h6⟩ | ⟨j, t'', rfl, h1⟩
  case inr => exact absurd (inj3 h).1 (by decide)
  dsimp only at h
  obtain ⟨s1, s2⟩ := sk_le wsP U j h2
  rw [spaces_eq U _ j h2 hU, Option.bind_some, sign_eq U _ _ s2 hU] at h
  cases hh : hereP U (sk wsP U j) [63, 62] with
  | false =>
    rw [hh, if_neg (by simp), Option.bind_some] at h
    exact absurd (inj3 h).1 (by show ¬ (23 : Int) = 0; decide)
  | true =>
    rw [hh, if_pos rfl, Option.bind_some] at h
    dsimp only at h
    rw [show ((0 : Int) != 0) = false from rfl, cond_false] at h
    cases hla : la == ([] : List UInt8) with
    | true =>
      rw [hla, Bool.not_true, cond_false, cond_false] at h
      obtain ⟨_, g2, _⟩ := inj3 h
      rw [← g2]; exact lastB_of (w := [63]) hh
    | false =>
      obtain ⟨r, hr⟩ := eqf_ascii la [117, 116, 102, 45, 56] h4 (by simp) h6 (by decide)
      rw [hla, Bool.not_false, cond_true, hr, Option.bind_some] at h
      cases r with
      | false => rw [Bool.not_false, cond_true] at h; exact absurd (inj3 h).1 (by decide)
      | true =>
        rw [Bool.not_true, cond_false] at h
        obtain ⟨_, g2, _⟩ := inj3 h
        rw [← g2]; exact lastB_of (w := [63]) hh
/-- A token that is no text ends with its sign. -/
theorem token_last {U : List UInt8} (hU : U.length ≤ 1073741824) {i f : Nat} {t' : Tk} (hi : i < U.length) (h60 : U[i]? = some 60) (h : F_scan_scanner_token ⟨U, (i : Int)⟩ (tok0 i) = some (0, ⟨U, (f : Int)⟩, t')) : lastB U f := by
  have hle : i ≤ U.length := Nat.le_of_lt hi
  rw [token_eq U i hle hU] at h
  cases hd : declP U i with
  | true =>
    rw [hd, cond_true] at h
    unfold declP at hd
    rw [Bool.and_eq_true, Bool.and_eq_true] at hd
    have hl := hereP_len hd.2.1 (Nat.zero_le _)
    exact decl_last hU (by simpa using hl) rfl h
  | false =>
  rw [hd, cond_false] at h
  unfold tokRest at h
  cases c1 : hereP U i [60, 33, 45, 45] with
  | true =>
    have hl := hereP_len c1 hle
    obtain ⟨e, j, x, u1, u2, u3⟩ := upTo_sp U i 4 (tokK 7 i) [45, 45] (by simp) (by simpa using hl) hU (by simp)
    rw [c1, cond_true, show (4 : Int) = ((4 : Nat) : Int) from rfl, u1, Option.bind_some] at h
    dsimp only at h
    by_cases he : e = 0
    case neg =>
      rw [show (e != 0) = true by simpa using he, cond_true] at h
      exact absurd (inj3 h).1 he
    subst he
    rw [show ((0 : Int) != 0) = false from rfl, cond_false, sign_eq U j _ u2 hU] at h
    cases hh : hereP U j [62] with
    | false =>
      rw [hh, if_neg (by simp), Option.bind_some] at h
      exact absurd (inj3 h).1 (by show ¬ (23 : Int) = 0; decide)
    | true =>
      rw [hh, if_pos rfl, Option.bind_some] at h
      obtain ⟨_, g2, _⟩ := inj3 h
      rw [← g2]; exact lastB_of (w := []) hh
  | false =>
  rw [c1, cond_false] at h
  cases c2 : hereP U i [60, 33, 91, 67, 68, 65, 84, 65, 91] with
  | true =>
    have hl := hereP_len c2 hle
    obtain ⟨e, j, x, u1, u2, u3⟩ := upTo_sp U i 9 (tokK 6 i) [93, 93, 62] (by simp) (by simpa using hl) hU (by simp)
    rw [c2, cond_true, show (9 : Int) = ((9 : Nat) : Int) from rfl, u1] at h
    obtain ⟨g1, g2, _⟩ := inj3 h
    subst g1
    subst g2
    obtain ⟨m, rfl, hm⟩ := upTo_last hU (by simp) (by simp) (by simpa using hl) u1
    exact lastB_of (w := [93, 93]) hm
  | false =>
  rw [c2, cond_false] at h
  cases c3 : hereP U i [60, 33, 68, 79, 67, 84, 89, 80, 69] with
  | true => rw [c3, cond_true] at h; exact absurd (inj3 h).1 (by decide)
  | false =>
  rw [c3, cond_false] at h
  cases c4 : hereP U i [60, 33] with
  | true => rw [c4, cond_true] at h; exact absurd (inj3 h).1 (by decide)
  | false =>
  rw [c4, cond_false] at h
  cases c5 : hereP U i [60, 63] with
  | true =>
    have hl := hereP_len c5 hle
    rw [c5, cond_true] at h
    exact instr_last hU (by simpa using hl) h
  | false =>
  rw [c5, cond_false] at h
  cases c6 : hereP U i [60, 47] with
  | true =>
    have hl := hereP_len c6 hle
    rw [c6, cond_true] at h
    exact closing_last hU (by simpa using hl) h
  | false =>
  rw [c6, cond_false] at h
  have h7 : hereP U i [60] = true := by rw [hereP_one, h60]; rfl
  rw [h7, cond_true] at h
  exact tag_last hU hi rfl h
end Go.Proofs.YtfokkdofcekdbaaDoor

set_option maxRecDepth 20000
namespace Go.Proofs.YtfokkdofcekdbaaDoor
open Go.Lib (decodeL decodeN)
/-- The token in which a place falls. -/
theorem tr_find {b : List UInt8} {L : List Tk} {j : Nat} (h : Tr b L j) : ∀ n, n ≤ j → (∃ m, m ≤ L.length ∧ Tr b (L.take m) n) ∨ (∃ m i k t, L[m]? = some t ∧ Tr b (L.take m) i ∧ i < b.length ∧ F_scan_scanner_token ⟨b, ((i : Nat) : Int)⟩ (tok0 i) = some (0, ⟨b, ((k : Nat) : Int)⟩, t) ∧ TokOk b i t k ∧ i < n ∧ n < k ∧ k ≤ b.length ∧ Tr b (L.take (m + 1)) k) := by
  induction h with
  | nil => intro n hn; left; exact ⟨0, Nat.le_refl _, by rw [show n = 0 by omega]; exact .nil⟩
  | @snoc L j k t h1 h2 h3 h4 h5 ih =>
    intro n hn
    by_cases hj : n ≤ j
    · rcases ih n hj with ⟨m, g1, g2⟩ | ⟨m, i, k', t', g1, g2, g3, g4, g5, g6, g7, g8, g9⟩
      · left; exact ⟨m, by simp; omega, by rw [List.take_append_of_le_length g1]; exact g2⟩
      · right
        have hm : m < L.length := (List.getElem?_eq_some_iff.1 g1).1
        exact ⟨m, i, k', t', by rw [List.getElem?_append_left hm]; exact g1, by rw [List.take_append_of_le_length (by omega)]; exact g2, g3, g4, g5, g6, g7, g8, by rw [List.take_append_of_le_length (by omega)]; exact g9⟩
    · by_cases hk : n = k
      · left
        subst hk
        exact ⟨L.length + 1, by simp, by rw [List.take_of_length_le (by simp)]; exact .snoc h1 h2 h3 h4 h5⟩
      · right
        refine ⟨L.length, j, k, t, ?_, ?_, h2, h3, h4, by omega, by omega, h5, ?_⟩
        · rw [List.getElem?_append_right (Nat.le_refl _), Nat.sub_self]; rfl
        · rw [List.take_append_of_le_length (Nat.le_refl _), List.take_length]; exact h1
        · rw [List.take_of_length_le (by simp)]; exact .snoc h1 h2 h3 h4 h5
/-- The places of the tokens ahead of one. -/
theorem tr_before {b : List UInt8} {L : List Tk} {i : Nat} (h : Tr b L i) : ∀ (k : Nat) (t : Tk), L[k]? = some t → 0 ≤ t.At ∧ t.At < i ∧ t.Pairs.length ≤ b.length + 3 := by
  induction h with
  | nil => intro k t hk; simp at hk
  | @snoc L j k' t' h1 h2 h3 h4 h5 ih =>
    intro k t hk
    have hlt := h4.lt
    by_cases hL : k < L.length
    · rw [List.getElem?_append_left hL] at hk
      obtain ⟨a1, a2, a3⟩ := ih k t hk
      exact ⟨a1, by omega, a3⟩
    · have : k = L.length := by
        have := (List.getElem?_eq_some_iff.1 hk).1
        simp at this; omega
      subst this
      rw [List.getElem?_append_right (Nat.le_refl _), Nat.sub_self] at hk
      injection hk with hk
      subst hk
      rw [h4.at_]
      exact ⟨by omega, by omega, h4.len⟩
/-- The next token's place. -/
theorem tr_next {b : List UInt8} {L : List Tk} {j : Nat} (h : Tr b L j) {m i : Nat} (hm : Tr b (L.take m) i) {t : Tk} (ht : L[m]? = some t) : t.At = (i : Int) := by
  obtain ⟨i', k, t', g1, g2, g3, g4, g5, _⟩ := tr_pos h m (List.getElem?_eq_some_iff.1 ht).1
  rw [g1] at ht
  injection ht with ht
  subst ht
  rw [tr_one hm _ _ g2 rfl] at g5
  exact g5.at_
/-- Ahead of a byte that begins no character stands one of at least 128. -/
theorem ok_prev {l : List UInt8} (h : OkT l) : ∀ n, n < l.length → (l.getD n 0).toNat / 64 = 2 → 0 < n ∧ 128 ≤ (l.getD (n - 1) 0).toNat := by
  induction h with
  | nil => intro n hn; simp at hn
  | @cons l h1 h2 h3 h4 ih =>
    intro n hn hc
    have hp := dec_pos h1
    have hd := dec_bytes l 0 (List.length_pos_iff.2 h1)
    simp only [List.drop_zero, Nat.zero_add] at hd
    obtain ⟨_, _, d3, d4⟩ := hd
    by_cases h0 : n = 0
    · subst h0
      rw [dec_bad hc] at h2
      exact absurd h2 (by decide)
    refine ⟨by omega, ?_⟩
    by_cases hw : n < (decodeL l).2
    · by_cases h1' : n = 1
      · subst h1'
        apply Classical.byContradiction; intro hlt
        have := d3 (by simpa using hlt)
        rw [this] at hw
        omega
      · exact d4 (n - 1) (by omega) (by omega)
    · have e : ∀ k, (decodeL l).2 ≤ k → (l.drop (decodeL l).2).getD (k - (decodeL l).2) 0 = l.getD k 0 := fun k hk => by rw [getD_drop, show (decodeL l).2 + (k - (decodeL l).2) = k by omega]
      obtain ⟨g1, g2⟩ := ih (n - (decodeL l).2) (by rw [List.length_drop]; omega) (by rw [e n (by omega)]; exact hc)
      rw [show n - (decodeL l).2 - 1 = (n - 1) - (decodeL l).2 by omega, e (n - 1) (by omega)] at g2
      exact g2
/-- No token begins within a character. -/
theorem no_cont {T : List UInt8} (hT : T.length ≤ 65536) (ok : OkT T) {M : List Tk} {n : Nat} (h : Tr T M n) (hn : n < T.length) : ¬ (T.getD n 0).toNat / 64 = 2 := by
  intro hc
  obtain ⟨g1, g2⟩ := ok_prev ok n hn hc
  cases h with
  | nil => omega
  | @snoc L j _ t h1 h2 h3 h4 h5 =>
    by_cases h60 : T[j]? = some 60
    · obtain ⟨m, e, hm⟩ := token_last (by omega) h2 h60 h3
      subst e
      rw [Nat.add_sub_cancel, show T.getD m 0 = 62 by simp [List.getD, hm]] at g2
      exact absurd g2 (by decide)
    · have hk5 : t.Kind = 5 := Classical.byContradiction fun hk => h60 (h4.oth hk)
      rcases (h4.txt hk5).2 with h | h
      · omega
      · rw [show T.getD n 0 = 60 by simp [List.getD, h]] at hc
        exact absurd hc (by decide)
end Go.Proofs.YtfokkdofcekdbaaDoor

set_option maxRecDepth 20000
namespace Go.Proofs.YtfokkdofcekdbaaDoor
theorem cut_tr {T : List UInt8} {M : List Tk} {i n : Nat} (hT : T.length ≤ 65536) (hn : n ≤ T.length) (okx : OkT (T.take n)) (h : Tr T M i) (hi : i ≤ n) : Tr (T.take n) M i := by
  have hx : (T.take n).length = n := by rw [List.length_take]; omega
  refine tr_same (agr_cut hn okx) hT (by omega) (fun k hk h => ?_) h hi
  rw [hx]
  by_cases hkn : k = n
  · exact .inl hkn
  · right
    rw [List.getElem?_take, if_pos (by omega)]
    rcases h with h | h
    · omega
    · exact h
theorem cut_end {T : List UInt8} {M : List Tk} {n : Nat} (hT : T.length ≤ 65536) (hn : n ≤ T.length) (okx : OkT (T.take n)) (h : Tr T M n) : iter F_scan_All_l0 FUEL (T.take n, (0 : Int), ([] : List T_scan_Token)) = some (M, 0, 0) := by
  have hx : (T.take n).length = n := by rw [List.length_take]; omega
  have t2 := cut_tr hT hn okx h (Nat.le_refl _)
  have t3 : Tr (T.take n) M (T.take n).length := by rw [hx]; exact t2
  exact tr_end (by omega) t3
theorem cut_mid {T : List UInt8} {M : List Tk} {i k n : Nat} {t : Tk} (hT : T.length ≤ 65536) (okx : OkT (T.take n)) (h : Tr T M i) (hi : i < n) (hk : n < k) (hkT : k ≤ T.length) (ht : F_scan_scanner_token ⟨T, (i : Int)⟩ (tok0 i) = some (0, ⟨T, (k : Int)⟩, t)) (hok : TokOk T i t k) :
    (∃ e, e ≠ 0 ∧ iter F_scan_All_l0 FUEL (T.take n, (0 : Int), ([] : List T_scan_Token)) = some ([], (i : Int), e)) ∨ (t.Kind = 5 ∧ ∃ t', iter F_scan_All_l0 FUEL (T.take n, (0 : Int), ([] : List T_scan_Token)) = some (M ++ [t'], 0, 0)) := by
  have hn : n ≤ T.length := by omega
  have hx : (T.take n).length = n := by rw [List.length_take]; omega
  have A := agr_cut hn okx
  have t2 := cut_tr hT hn okx h (Nat.le_of_lt hi)
  obtain ⟨_, t1, e, j2, t', rfl, r2, r3⟩ := token_sp (T.take n) i (by omega) (by omega)
  have t1' : F_scan_scanner_token ⟨T.take n, (i : Int)⟩ (tok0 i) = some (e, ⟨T.take n, (j2 : Int)⟩, t') := t1
  by_cases he : e = 0
  case neg => exact .inl ⟨e, he, tr_bad (by omega) t2 (by omega) he t1'⟩
  subst he
  right
  have r4 := r3 rfl
  by_cases h60 : T[i]? = some 60
  · have h60x : (T.take n)[i]? = some 60 := by rw [← A.get hi]; exact h60
    have := token_same A.symm (by omega) (by omega) (by omega) h60x t1' (by omega)
    rw [ht] at this
    have := (inj3 this).2.1
    omega
  · have h60x : (T.take n)[i]? ≠ some 60 := by rw [← A.get hi]; exact h60
    have hk5 : t.Kind = 5 := Classical.byContradiction fun hk => h60 (hok.oth hk)
    obtain ⟨f, hf⟩ := text_ex (b := T) (by omega) h60
    obtain ⟨g, hg⟩ := text_ex (b := T.take n) (by omega) h60x
    have pos : ∀ {b : List UInt8} {q r : Nat} {u : Tk}, b.length ≤ 65536 → i < b.length → TxtAt b i q → b[i]? ≠ some 60 → F_scan_scanner_token ⟨b, (i : Int)⟩ (tok0 i) = some (0, ⟨b, (r : Int)⟩, u) → q = r := by
      intro b q r u hb hib hq hn60 hh
      rw [token_text (by omega) (by omega) hn60, text_mk (by omega) hq] at hh
      obtain ⟨rr, hr⟩ := read_some ((b.drop i).take (q - i)) false (by rw [List.length_take, List.length_drop]; omega)
      have hrt : F_refer_ReadText ((b.drop i).take (q - i)) = some (rr.1, rr.2.1, rr.2.2) := by unfold F_refer_ReadText; rw [hr]; rfl
      have hc : L_bCount ((b.drop i).take (q - i)) [38] = some ((Lib.countByte ((b.drop i).take (q - i)) 38 : Nat) : Int) := rfl
      unfold textR at hh
      rw [hrt, Option.bind_some, hc, Option.bind_some] at hh
      exact (inj3 hh).2.1
    have e1 : f = k := pos hT (by omega) hf h60 ht
    have e2 : g = j2 := pos (by omega) (by omega) hg h60x t1'
    subst e1 e2
    have hgn : g = n := by
      rcases hg.ed with h | h
      · omega
      · have hle := hg.le
        by_cases hgn : g = n
        · exact hgn
        · rw [← A.get (by omega)] at h
          exact absurd h (hf.no g (by have := hg.lt; omega) (by omega))
    have t3 : Tr (T.take n) (M ++ [t']) (T.take n).length := by
      rw [hx]
      have := Tr.snoc t2 (by omega) t1' r4 r2
      rwa [hgn] at this
    exact ⟨hk5, t', tr_end (by omega) t3⟩
end Go.Proofs.YtfokkdofcekdbaaDoor

set_option maxRecDepth 20000
namespace Go.Proofs.YtfokkdofcekdbaaDoor
theorem iand_cont (c : UInt8) : (iand .u8 (c.toNat : Int) (192 : Int) == (128 : Int)) = decide (c.toNat / 64 = 2) := by
  have h := all_u8 (p := fun c : UInt8 => (iand .u8 (c.toNat : Int) (192 : Int) == (128 : Int)) == decide (c.toNat / 64 = 2)) (by decide +kernel) c
  simpa using h
theorem scanCuts (p0 : List UInt8) (n' : Int) (h0 : p0.length ≤ 1073741824) : F_lecternlaw03_ScanCuts p0 n' = some true := by
  unfold F_lecternlaw03_ScanCuts
  rw [awake_t, Option.bind_some, Bool.not_true, cond_false]
  obtain ⟨L, a, e, q1, q2, q3⟩ := all_sp p0 h0
  rw [q1, Option.bind_some, text_eq p0 h0, Option.bind_some]
  dsimp only
  by_cases he : e = 0
  case neg => rw [show (e != 0) = true by simpa using he, Bool.true_or, Bool.true_or, cond_true]
  subst he
  rw [show ((0 : Int) != 0) = false from rfl, Bool.false_or]
  by_cases hneg : n' < 0
  · rw [decide_eq_true hneg, Bool.true_or, cond_true]
  rw [decide_eq_false hneg, Bool.false_or]
  obtain ⟨n, rfl⟩ : ∃ n : Nat, n' = (n : Int) := ⟨n'.toNat, by omega⟩
  by_cases hnl : (pln p0).length < n
  · rw [decide_eq_true (by omega), cond_true]
  rw [decide_eq_false (by omega), cond_false]
  have hp : p0.length ≤ 65536 := by
    apply Classical.byContradiction; intro hc
    unfold F_scan_All at q1
    rw [decide_eq_true (by omega), cond_true] at q1
    cases q1
  obtain ⟨ok, tr, ha⟩ := all_ok hp q1
  have hl := pln_len p0
  have hbl := bom_len (p := p0) (n := n)
  have h13 : (13 : UInt8) ∉ pln p0 := lnR_no13 _ _
  generalize pln p0 = T at *
  have hnT : n ≤ T.length := by omega
  have hx : (T.take n).length = n := by rw [List.length_take]; omega
  have hm : (mrk (T.take n)).length ≤ 65536 := by
    unfold mrk
    split
    · rename_i hb; have := hbl hb; rw [List.length_append, hx]; simp; omega
    · omega
  have hA := all_eq (mrk (T.take n)) hm
  rw [pln_mrk (fun h => h13 (List.mem_of_mem_take h))] at hA
  have hLl := (tr_le tr).2
  have hpair : ∀ (M : List Tk) (i : Nat), Tr T M i → ∀ (k : Nat) (t : Tk), M[k]? = some t → t.Pairs.length ≤ 1073742000 := fun M i h k t hk => by have := (tr_before h k t hk).2.2; omega
  simp only [letJ]
  rcases tr_find tr n hnT with ⟨m, hmL, trm⟩ | ⟨m, i, k, t, g1, g2, g3, g4, g5, g6, g7, g8, g9⟩
  · have c0 := cuts_l0 (n : Int) L a 0 m (by omega) hmL (fun k t hk ht => by
        have := tr_before trm k t (by rw [List.getElem?_take, if_pos hk]; exact ht)
        omega) (fun t ht => by rw [tr_next tr trm ht]; omega)
    have hok : OkT (T.take n) := by
      rcases cut_ok ok n hnT with ⟨h, _⟩ | ⟨_, _, _, _, _, _, _, h6, h7⟩
      · exact h
      · exact absurd h7 (no_cont (by omega) ok trm h6)
    rw [c0, Option.bind_some, slc_take0 hnT, Option.bind_some, marked_eq _ (by omega), Option.bind_some, hA]
    rcases fault_iff (T.take n) (by omega) with ⟨f1, _⟩ | ⟨_, _, _, _, f3, _⟩
    case inr => exact absurd hok f3
    have c1 := cuts_l1 L (L.take m) a 0 0 0 (by rw [List.length_take]; omega) (fun k t hk => by
      refine ⟨?_, hpair _ _ trm k t hk⟩
      rw [List.getElem?_take] at hk
      split at hk
      · exact hk
      · cases hk)
    have hlen : (L.take m).length = m := by rw [List.length_take]; omega
    rw [f1, Option.bind_some]
    dsimp only
    rw [show ((0 : Int) != 0) = false from rfl, cond_false, cut_end (by omega) hnT hok trm, Option.bind_some]
    dsimp only
    rw [hlen, c1, Option.bind_some]
    dsimp only
    rw [show ((0 : Int) != 0) = false from rfl, show ((m : Int) != (m : Int)) = false by simp, Bool.or_self, cond_false]
    by_cases hmlt : m < L.length
    · have hAt := tr_next tr trm (List.getElem?_eq_getElem hmlt)
      rw [show ((m : Int) == (L.length : Int)) = false by rw [beq_eq_false_iff_ne]; omega, Bool.false_and, cond_false, decide_eq_true (show (m : Int) < (L.length : Int) by omega), cond_true, idx_some hmlt, Option.bind_some, hAt, beq_self_eq_true, cond_true]
    · have hmL' : m = L.length := by omega
      subst hmL'
      rw [List.take_length] at trm
      have hnE : T.length = n := tr_one trm _ _ tr rfl
      rw [beq_self_eq_true, Bool.true_and, show ((n : Int) == (T.length : Int)) = true by rw [beq_iff_eq]; omega, cond_true, cond_true]
  · have hmlt : m < L.length := (List.getElem?_eq_some_iff.1 g1).1
    have hat := g5.at_
    have hgm : L[m] = t := by rw [List.getElem?_eq_getElem hmlt] at g1; exact Option.some.inj g1
    have hlen1 : (L.take (m + 1)).length = m + 1 := by rw [List.length_take]; omega
    have c0 := cuts_l0 (n : Int) L a 0 (m + 1) (by omega) hmlt (fun k' t' hk ht => by
        by_cases hkm : k' = m
        · subst hkm; rw [g1] at ht; injection ht with ht; subst ht; omega
        · have := tr_before g2 k' t' (by rw [List.getElem?_take, if_pos (by omega)]; exact ht)
          omega) (fun t' ht => by rw [tr_next tr g9 ht]; omega)
    have hmi : IntKind.wrap .i64 (((m + 1 : Nat) : Int) - 1) = (m : Int) := by rw [w64 (by omega) (by omega)]; omega
    have hnlt : n < T.length := by omega
    have hcnt : (iand .u8 (T[n].toNat : Int) (192 : Int) == (128 : Int)) = decide ((T.getD n 0).toNat / 64 = 2) := by
      rw [iand_cont, show T.getD n 0 = T[n] by simp [List.getD, hnlt]]
    rw [c0, Option.bind_some, slc_take0 hnT, Option.bind_some, marked_eq _ (by omega), Option.bind_some, hA]
    have ends : ∀ X Y Z : Option Bool, (cond (((m + 1 : Nat) : Int) == (L.length : Int) && (n : Int) == (T.length : Int)) Z (cond (decide (((m + 1 : Nat) : Int) < (L.length : Int))) ((idx L ((m + 1 : Nat) : Int)).bind fun x36 => cond (x36.At == (n : Int)) X Y) (cond false X Y))) = Y := by
      intro X Y Z
      rw [show ((n : Int) == (T.length : Int)) = false by rw [beq_eq_false_iff_ne]; omega, Bool.and_false, cond_false]
      by_cases h2 : m + 1 < L.length
      · have hAt := tr_next tr g9 (List.getElem?_eq_getElem h2)
        rw [decide_eq_true (by omega), cond_true, idx_some h2, Option.bind_some, hAt, show ((k : Int) == (n : Int)) = false by rw [beq_eq_false_iff_ne]; omega, cond_false]
      · rw [decide_eq_false (by omega), cond_false, cond_false]
    have hm0 : (((m + 1 : Nat) : Int) == (0 : Int)) = false := by rw [beq_eq_false_iff_ne]; omega
    rcases cut_ok ok n hnT with ⟨hok, hnc⟩ | ⟨z, y, y1, y2, y3, y4, y5, y6, y7⟩
    · rcases fault_iff (T.take n) (by omega) with ⟨f1, _⟩ | ⟨_, _, _, _, f3, _⟩
      case inr => exact absurd hok f3
      rw [f1, Option.bind_some]
      dsimp only
      rw [show ((0 : Int) != 0) = false from rfl, cond_false]
      rcases cut_mid (by omega) hok g2 g6 g7 g8 g4 g5 with ⟨e, he, hI⟩ | ⟨k5, t', hI⟩
      · rw [hI, Option.bind_some]
        dsimp only
        rw [ends, hm0, cond_false, idx_some hnlt, Option.bind_some, hcnt, decide_eq_false (hnc hnlt), cond_false, show (e == 0) = false by simpa using he, cond_false, hmi, idx_some hmlt, Option.bind_some, hgm, hat, beq_self_eq_true]
      · rw [hI, Option.bind_some]
        dsimp only
        rw [ends, hm0, cond_false, idx_some hnlt, Option.bind_some, hcnt, decide_eq_false (hnc hnlt), cond_false, show ((0 : Int) == 0) = true from rfl, cond_true, hmi, idx_some hmlt, Option.bind_some, hgm, k5]
        have : (L.take m ++ [t']).length = m + 1 := by rw [List.length_append, List.length_take, List.length_singleton]; omega
        rw [this, beq_self_eq_true, beq_self_eq_true]; rfl
    · have hzy : z.length + y.length = n := by rw [← List.length_append, ← y1, hx]
      have hy0 : 0 < y.length := List.length_pos_iff.2 y3
      rw [y1, fault_cut z y y2 y3 y4 (by rw [List.length_append]; omega), Option.bind_some]
      dsimp only
      rw [show ((20 : Int) != 0) = true from rfl, cond_true, Option.bind_some]
      dsimp only
      rw [ends, hm0, cond_false, idx_some hnlt, Option.bind_some, hcnt, decide_eq_true y7, cond_true, w64 (by omega) (by omega), decide_eq_true (by omega), decide_eq_true (by omega)]
      rfl
end Go.Proofs.YtfokkdofcekdbaaDoor
