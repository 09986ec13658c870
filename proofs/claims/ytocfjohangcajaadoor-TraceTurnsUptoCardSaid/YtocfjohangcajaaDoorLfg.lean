/- What figure makes, and which figures are right. No condition. -/
import Derived.Test.YtocfjohangcajaaDoorLar
import Derived.Test.YtocfjohangcajaaDoorFw
set_option linter.unusedSimpArgs false
set_option linter.unusedVariables false
namespace Go.Proofs.YtocfjohangcajaaDoor
open Fl

open Ieee in
theorem cut_two (s : Bool) (m d : Nat) : Toward.even.cut s m d = m / 2 ^ min d (m.log2 + 2) ∨ Toward.even.cut s m d = m / 2 ^ min d (m.log2 + 2) + 1 := by
  unfold Toward.cut
  simp only [Nat.shiftLeft_eq, Nat.one_mul]
  generalize (decide (2 ^ min d (m.log2 + 2) < 2 * (m % 2 ^ min d (m.log2 + 2))) || _) = b
  cases b
  · left; rfl
  · right; rfl
open Ieee in
theorem big_I (a : Int) (h1 : 9007199254740992 < a.natAbs) (h2 : a.natAbs ≤ 9223372036854775808) : ∃ z, isI (i2f a) z ∧ 1000000 < z.natAbs := by
  have key : ∀ (s : Bool) (m : Nat), 9007199254740992 < m → m ≤ 9223372036854775808 → ∃ (M : Nat) (P : Nat), double.read (double.nearest s m 0) = .number s M (P : Int) ∧ 4503599627370496 ≤ M := by
    intro s m h1 h2
    have hm0 : m ≠ 0 := by omega
    have hL : 53 ≤ m.log2 := (Nat.le_log2 hm0).2 (by omega)
    have hU : m.log2 < 64 := (Nat.log2_lt hm0).2 (by omega)
    have hlo : 2 ^ m.log2 ≤ m := (Nat.le_log2 hm0).1 (Nat.le_refl _)
    have hhi : m < 2 ^ (m.log2 + 1) := (Nat.log2_lt hm0).1 (Nat.lt_succ_self _)
    obtain ⟨d, hd⟩ : ∃ d, m.log2 = 52 + d := ⟨m.log2 - 52, by omega⟩
    rw [nearest_unf s m 0 hm0]
    have e1 : max ((0 : Int) + (m.log2 : Int) - 52) (-1074) = (d : Int) := by omega
    rw [e1]
    have e2 : ((0 : Int) - (d : Int)).toNat = 0 := by omega
    have e3 : ((d : Int) - 0).toNat = d := by omega
    have e4 : ((d : Int) - -1074).toNat = d + 1074 := by omega
    rw [e2, e3, e4, Nat.shiftLeft_zero]
    have hmin : min d (m.log2 + 2) = d := by omega
    have hp : 0 < 2 ^ d := Nat.pow_pos (by decide)
    have hq1 : 2 ^ 52 ≤ m / 2 ^ d := by
      rw [Nat.le_div_iff_mul_le hp, ← Nat.pow_add, ← hd]; exact hlo
    have hq2 : m / 2 ^ d < 2 ^ 53 := by
      rw [Nat.div_lt_iff_lt_mul hp, ← Nat.pow_add]
      rw [show 53 + d = m.log2 + 1 by omega]; exact hhi
    have hc := cut_two s m d
    rw [hmin] at hc
    generalize Toward.even.cut s m d = q at *
    generalize m / 2 ^ d = w at *
    by_cases hq : q < 2 ^ 53
    · refine ⟨2 ^ 52 + (q - 2 ^ 52), d, ?_, by omega⟩
      rw [Nat.min_eq_left (by omega)]
      rw [show (d + 1074) * 2 ^ 52 + q = ((d + 1074) + 1) * 2 ^ 52 + (q - 2 ^ 52) by omega, read_word s _ _ (by omega) (by omega), show (-1074 : Int) + ((d + 1074 : Nat) : Int) = (d : Int) by omega]
    · refine ⟨2 ^ 52 + 0, d + 1, ?_, by omega⟩
      have hq3 : q = 2 ^ 53 := by omega
      subst hq3
      rw [Nat.min_eq_left (by omega)]
      rw [show (d + 1074) * 2 ^ 52 + 2 ^ 53 = ((d + 1075) + 1) * 2 ^ 52 + 0 by omega, read_word s _ _ (by omega) (by omega), show (-1074 : Int) + ((d + 1075 : Nat) : Int) = ((d + 1 : Nat) : Int) by omega]
  obtain ⟨M, P, hr, hM⟩ := key (decide (a < 0)) a.natAbs h1 h2
  refine ⟨sg (decide (a < 0)) M * 2 ^ P, ⟨_, M, (P : Int), hr, ?_⟩, ?_⟩
  · simp
  · rw [Int.natAbs_mul, sg_natAbs, Int.natAbs_pow]
    have : 1 ≤ 2 ^ P := Nat.pow_pos (by decide)
    have h4 := Nat.mul_le_mul hM this
    show 1000000 < M * 2 ^ P
    omega

theorem part_big {x : Nat} {z : Int} (hx : isI x z) (hz : 1000000 < z.natAbs) : F_trace_part x = some false := by
  obtain ⟨q, h3, h4⟩ := Abs_I hx
  have ht : ∃ r, F_math_Trunc x = some r := by
    obtain ⟨s, m, p, e, h⟩ := hx
    have hd : FloatKind.f64.decode x = .number s m p := e
    unfold F_math_Trunc L_archTrunc
    rw [hd]
    exact ⟨_, rfl⟩
  obtain ⟨r, h1⟩ := ht
  unfold F_trace_part
  rw [h1, Option.bind_some]
  simp only [letJ, h3, Option.bind_some, fle_I h4 million_I]
  rw [decide_eq_false (by omega)]
  cases feq x r <;> rfl
/-- Any whole number of 64 bits. -/
theorem part_int (a : Int) (h1 : -9223372036854775808 ≤ a) (h2 : a ≤ 9223372036854775807) : F_trace_part (i2f a) = some (inB a) := by
  by_cases h : a.natAbs ≤ 9007199254740992
  · exact part_I (i2f_I a h) h
  · obtain ⟨z, h3, h4⟩ := big_I a (by omega) (by omega)
    rw [part_big h3 h4]
    unfold inB
    by_cases h5 : 0 ≤ a
    · rw [decide_eq_false (p := a ≤ 1000000) (by omega), Bool.and_false]
    · rw [decide_eq_false (p := -1000000 ≤ a) (by omega), Bool.false_and]
theorem spot_int (a b : Int) (h1 : -9223372036854775808 ≤ a) (h2 : a ≤ 9223372036854775807) (h3 : -9223372036854775808 ≤ b) (h4 : b ≤ 9223372036854775807) : F_trace_spot (i2f a, i2f b) = some (inB a && inB b) := by
  unfold F_trace_spot
  rw [part_int a h1 h2, Option.bind_some]
  simp only [letJ, part_int b h3 h4, Option.bind_some]
  cases inB a <;> rfl
theorem f2i_int (a : Int) (h : a.natAbs ≤ 9007199254740992) : f2i .i64 (i2f a) = some a := by
  have ht := toInt_I (i2f_I a h)
  have hd : (FloatKind.f64.decode (i2f a)).toInt .zero = some a := ht
  unfold f2i
  rw [hd]
  have e1 : IntKind.min .i64 = -9223372036854775808 := by decide
  have e2 : IntKind.max .i64 = 9223372036854775807 := by decide
  simp only [e1, e2]
  rw [if_pos (by omega)]

theorem sum_le {α : Type} (f : α → Nat) (B : Nat) : ∀ l : List α, (∀ x ∈ l, f x ≤ B) → (l.map f).sum ≤ l.length * B
  | [], _ => by simp
  | x :: l, h => by
    have h1 := h x (List.mem_cons_self ..)
    have h2 := sum_le f B l (fun y hy => h y (List.mem_cons_of_mem _ hy))
    simp only [List.map_cons, List.sum_cons, List.length_cons, Nat.succ_mul]
    omega
theorem sum_take {α : Type} (f : α → Nat) (l : List α) (i : Nat) (h : i < l.length) : ((l.take (i + 1)).map f).sum = ((l.take i).map f).sum + f l[i] := by
  rw [List.take_add_one, List.getElem?_eq_getElem h, Option.toList_some, List.map_append, List.sum_append]; simp
theorem sum_take_le {α : Type} (f : α → Nat) (l : List α) (i : Nat) : ((l.take i).map f).sum ≤ (l.map f).sum := by
  conv => rhs; rw [← List.take_append_drop i l]
  rw [List.map_append, List.sum_append]; omega
theorem all_take {α : Type} (f : α → Bool) (l : List α) (i : Nat) (h : i < l.length) : (l.take (i + 1)).all f = ((l.take i).all f && f l[i]) := by
  rw [List.take_add_one, List.getElem?_eq_getElem h, Option.toList_some, List.all_append]; simp
theorem map_take {α β : Type} (f : α → β) (l : List α) (i : Nat) (h : i < l.length) : (l.take (i + 1)).map f = (l.take i).map f ++ [f l[i]] := by
  rw [List.take_add_one, List.getElem?_eq_getElem h, Option.toList_some, List.map_append]; simp

/-! ## Pairs -/
def prs : List Int → List (Int × Int)
  | a :: b :: r => (a, b) :: prs r
  | _ => []
theorem prs_len : ∀ l : List Int, (prs l).length = l.length / 2
  | [] => rfl
  | [_] => by simp [prs]
  | a :: b :: r => by simp only [prs, List.length_cons, prs_len r]; omega
theorem prs_get : ∀ (l : List Int) (i : Nat) (h : i < (prs l).length) (h1 : 2 * i < l.length) (h2 : 2 * i + 1 < l.length), l[2 * i] = (prs l)[i].1 ∧ l[2 * i + 1] = (prs l)[i].2
  | [], i, h, _, _ => by simp [prs] at h
  | [_], i, h, _, _ => by simp [prs] at h
  | a :: b :: r, 0, _, _, _ => ⟨rfl, rfl⟩
  | a :: b :: r, i + 1, h, h1, h2 => by
    have h' : i < (prs r).length := by simp only [prs, List.length_cons] at h; omega
    have a1 : 2 * i < r.length := by simp only [List.length_cons] at h1; omega
    have a2 : 2 * i + 1 < r.length := by simp only [List.length_cons] at h2; omega
    obtain ⟨e1, e2⟩ := prs_get r i h' a1 a2
    simp only [prs, List.getElem_cons_succ]
    refine ⟨?_, ?_⟩
    · rw [← e1]; rfl
    · rw [← e2]; rfl
def sF (p : Int × Int) : Nat × Nat := (i2f p.1, i2f p.2)
def sS (p : Int × Int) : T_lecternref10_Spot := ⟨p.1, p.2⟩
def inBB (p : Int × Int) : Bool := inB p.1 && inB p.2
def mkF (l : T_lecternlaw10_Line) : T_trace_Stroke := ⟨(prs l.Parts).map sF, l.Closed⟩
def mkS (l : T_lecternlaw10_Line) : T_lecternref10_Stroke := ⟨(prs l.Parts).map sS, l.Closed⟩

theorem fig_l1 (l : T_lecternlaw10_Line) (c : Bool) (hl : l.Parts.length ≤ 1048576) :
    iter (F_lecternlaw10_figure_l1 l) FUEL (c, [], l.Closed, [], l.Closed, (0 : Int)) = some (c && (prs l.Parts).all inBB, (prs l.Parts).map sF, l.Closed, (prs l.Parts).map sS, l.Closed) := by
  have hlen := prs_len l.Parts
  obtain ⟨o, h1, h2⟩ := iter_spec (b := F_lecternlaw10_figure_l1 l)
    (fun i x => x = (c && ((prs l.Parts).take i).all inBB, ((prs l.Parts).take i).map sF, l.Closed, ((prs l.Parts).take i).map sS, l.Closed, ((2 * i : Nat) : Int)))
    (fun o => o = (c && (prs l.Parts).all inBB, (prs l.Parts).map sF, l.Closed, (prs l.Parts).map sS, l.Closed)) (prs l.Parts).length (x0 := (c, [], l.Closed, [], l.Closed, (0 : Int))) (by simp)
    (fun i x rec hi hx => .inl ⟨(c && ((prs l.Parts).take (i + 1)).all inBB, ((prs l.Parts).take (i + 1)).map sF, l.Closed, ((prs l.Parts).take (i + 1)).map sS, l.Closed, ((2 * (i + 1) : Nat) : Int)), by
      subst hx
      have a1 : 2 * i < l.Parts.length := by omega
      have a2 : 2 * i + 1 < l.Parts.length := by omega
      obtain ⟨e1, e2⟩ := prs_get l.Parts i hi a1 a2
      unfold F_lecternlaw10_figure_l1
      dsimp only
      rw [w64 (x := ((2 * i : Nat) : Int) + 1) (by omega) (by omega), decide_eq_true (by omega), cond_true, idx_some a1, Option.bind_some, show ((2 * i : Nat) : Int) + 1 = ((2 * i + 1 : Nat) : Int) by omega, idx_some a2, Option.bind_some, e1, e2]
      rw [app_some (by simp; omega) (by simp; omega), Option.bind_some, app_some (by simp; omega) (by simp; omega), Option.bind_some, w64 (x := ((2 * i : Nat) : Int) + 2) (by omega) (by omega), all_take _ _ _ hi, map_take _ _ _ hi, map_take _ _ _ hi]
      rw [show ((2 * i : Nat) : Int) + 2 = ((2 * (i + 1) : Nat) : Int) by omega]
      unfold inBB inB
      simp only [Bool.and_assoc]
      rfl, rfl⟩)
    (fun x rec hx => ⟨_, by
      subst hx
      unfold F_lecternlaw10_figure_l1
      dsimp only
      rw [w64 (by omega) (by omega), decide_eq_false (by omega), cond_false, List.take_length], rfl⟩) (n := FUEL) (by unfold FUEL; omega)
  rw [h1, h2]

theorem fig_l0 (p : List T_lecternlaw10_Line) (hp : p.length ≤ 1048576) (hl : ∀ l ∈ p, l.Parts.length ≤ 1048576) :
    iter (F_lecternlaw10_figure_l0 p) FUEL ([], [], true, (0 : Int)) = some (p.map mkF, p.map mkS, p.all fun l => (prs l.Parts).all inBB) := by
  obtain ⟨o, h1, h2⟩ := iter_spec (b := F_lecternlaw10_figure_l0 p)
    (fun i x => x = ((p.take i).map mkF, (p.take i).map mkS, (p.take i).all (fun l => (prs l.Parts).all inBB), (i : Int)))
    (fun o => o = (p.map mkF, p.map mkS, p.all fun l => (prs l.Parts).all inBB)) p.length (x0 := ([], [], true, (0 : Int))) (by simp)
    (fun i x rec hi hx => .inl ⟨((p.take (i + 1)).map mkF, (p.take (i + 1)).map mkS, (p.take (i + 1)).all (fun l => (prs l.Parts).all inBB), ((i + 1 : Nat) : Int)), by
      subst hx
      unfold F_lecternlaw10_figure_l0
      simp only [letJ]
      rw [decide_eq_true (by omega), cond_true, idx_some hi, Option.bind_some, fig_l1 _ _ (hl _ (List.getElem_mem _)), Option.bind_some]
      simp only []
      rw [app_some (by simp; omega) (by simp; omega), Option.bind_some, app_some (by simp; omega) (by simp; omega), Option.bind_some, w64 (x := (i : Int) + 1) (by omega) (by omega), all_take _ _ _ hi, map_take _ _ _ hi, map_take _ _ _ hi]
      rfl, rfl⟩)
    (fun x rec hx => ⟨_, by
      subst hx
      unfold F_lecternlaw10_figure_l0
      simp only [letJ]
      rw [decide_eq_false (by omega), cond_false, List.take_length], rfl⟩) (n := FUEL) (by unfold FUEL; omega)
  rw [h1, h2]

/-! ## Right -/
def lenS (S : List T_lecternref10_Stroke) : Nat := (S.map fun s => s.Spots.length).sum
theorem rightS (S : List T_lecternref10_Stroke) (hS : S.length ≤ 1048576) (hl : ∀ s ∈ S, s.Spots.length ≤ 1048576) :
    F_lecternref10_Right S = some (S.all (fun s => !s.Spots.isEmpty) && decide (lenS S ≤ 500)) := by
  have hsum : lenS S ≤ S.length * 1048576 := sum_le (fun s : T_lecternref10_Stroke => s.Spots.length) 1048576 S hl
  have hb := Nat.mul_le_mul_right 1048576 hS
  obtain ⟨o, h1, h2⟩ := iter_spec (b := F_lecternref10_Right_l0 S)
    (fun i x => (S.take i).all (fun s => !s.Spots.isEmpty) = true ∧ x = (((lenS (S.take i) : Nat) : Int), (i : Int)))
    (fun o => o = if S.all (fun s => !s.Spots.isEmpty) = true then .inl ((lenS S : Nat) : Int) else .inr false) S.length (x0 := ((0 : Int), (0 : Int))) (by simp [lenS])
    (fun i x rec hi ⟨ha, hx⟩ => by
      subst hx
      unfold F_lecternref10_Right_l0
      dsimp only
      have hle : lenS (S.take (i + 1)) ≤ lenS S := sum_take_le (fun s : T_lecternref10_Stroke => s.Spots.length) S (i + 1)
      have hst : lenS (S.take (i + 1)) = lenS (S.take i) + S[i].Spots.length := sum_take (fun s : T_lecternref10_Stroke => s.Spots.length) S i hi
      cases he : S[i].Spots.isEmpty with
      | true =>
        right
        have hz : S[i].Spots.length = 0 := by rw [List.isEmpty_iff.1 he]; rfl
        refine ⟨.inr false, ?_, ?_⟩
        · rw [decide_eq_true (by omega), cond_true, idx_some hi, Option.bind_some, hz]; rfl
        · rw [if_neg]
          intro h
          have := List.all_eq_true.1 h S[i] (List.getElem_mem _)
          rw [he] at this; simp at this
      | false =>
        left
        have hz : S[i].Spots.length ≠ 0 := by
          intro h
          rw [List.eq_nil_of_length_eq_zero h] at he; simp at he
        refine ⟨(((lenS (S.take (i + 1)) : Nat) : Int), ((i + 1 : Nat) : Int)), ?_, ?_, rfl⟩
        · rw [decide_eq_true (by omega), cond_true, idx_some hi, Option.bind_some]
          have hb : ((S[i].Spots.length : Int) == 0) = false := by simpa using hz
          rw [hb, cond_false, w64 (x := (i : Int) + 1) (by omega) (by omega), w64 (x := ((lenS (S.take i) : Nat) : Int) + _) (by omega) (by omega), hst]
          simp
        · rw [all_take _ _ _ hi, ha, he]; rfl)
    (fun x rec ⟨ha, hx⟩ => ⟨.inl ((lenS S : Nat) : Int), by
      subst hx
      unfold F_lecternref10_Right_l0
      dsimp only
      rw [decide_eq_false (by omega), cond_false, List.take_length], by
      rw [List.take_length] at ha
      rw [if_pos ha]⟩) (n := FUEL) (by unfold FUEL; omega)
  unfold F_lecternref10_Right
  simp only [letJ, h1, h2, Option.bind_some]
  by_cases ha : S.all (fun s => !s.Spots.isEmpty) = true
  · rw [if_pos ha, ha]
    simp only [Bool.true_and]
    congr 1
    simp only [decide_eq_decide]
    omega
  · have hf : S.all (fun s => !s.Spots.isEmpty) = false := by simpa using ha
    rw [if_neg ha, hf]; rfl

theorem containsF (g : Nat × Nat → Bool) (zs : List (Nat × Nat)) (hg : ∀ z ∈ zs, F_trace_spot z = some (g z)) (hl : zs.length ≤ 1048576) :
    F_slices_ContainsFunc_complex128_complex128 zs F_trace_right_1 = some (!(zs.all g)) := by
  unfold F_slices_ContainsFunc_complex128_complex128 F_slices_IndexFunc_complex128_complex128
  obtain ⟨o, h1, h2⟩ := iter_spec (b := F_slices_IndexFunc_complex128_complex128_l0 zs F_trace_right_1) (fun i x => (zs.take i).all g = true ∧ x = (i : Int))
    (fun o => (zs.all g = true ∧ o = .inl ()) ∨ (zs.all g = false ∧ ∃ k : Nat, o = .inr (k : Int))) zs.length (x0 := (0 : Int)) (by simp)
    (fun i x rec hi ⟨ha, hx⟩ => by
      subst hx
      unfold F_slices_IndexFunc_complex128_complex128_l0
      have hgi := hg _ (List.getElem_mem hi)
      cases he : g zs[i] with
      | false =>
        right
        refine ⟨.inr (i : Int), ?_, .inr ⟨?_, i, rfl⟩⟩
        · rw [decide_eq_true (by omega), cond_true, idx_some hi, Option.bind_some]
          simp only [F_trace_right_1, hgi, he, Option.bind_some, Bool.not_false, cond_true]
        · rw [List.all_eq_false]
          exact ⟨_, List.getElem_mem hi, by rw [he]; simp⟩
      | true =>
        left
        refine ⟨((i + 1 : Nat) : Int), ?_, ?_, rfl⟩
        · rw [decide_eq_true (by omega), cond_true, idx_some hi, Option.bind_some]
          simp only [F_trace_right_1, hgi, he, Option.bind_some, Bool.not_true, cond_false]
          rw [w64 (by omega) (by omega)]; rfl
        · rw [all_take _ _ _ hi, ha, he]; rfl)
    (fun x rec ⟨ha, hx⟩ => ⟨.inl (), by
      subst hx
      unfold F_slices_IndexFunc_complex128_complex128_l0
      rw [decide_eq_false (by omega), cond_false], by
      rw [List.take_length] at ha
      exact .inl ⟨ha, rfl⟩⟩) (n := FUEL) (by unfold FUEL; omega)
  simp only [letJ, h1, Option.bind_some]
  rcases h2 with ⟨h3, rfl⟩ | ⟨h3, k, rfl⟩
  · rw [h3]; rfl
  · rw [h3]
    simp only [Option.bind_some]
    rw [decide_eq_true (by omega)]; rfl
theorem rightF (g : Nat × Nat → Bool) (f : List T_trace_Stroke) (hf : f.length ≤ 1048576) (hl : ∀ s ∈ f, s.Spots.length ≤ 1048576) (hg : ∀ s ∈ f, ∀ z ∈ s.Spots, F_trace_spot z = some (g z)) :
    F_trace_right f = some (f.all (fun s => !s.Spots.isEmpty && s.Spots.all g) && decide (lens f ≤ 500)) := by
  have hsum : lens f ≤ f.length * 1048576 := sum_le (fun s : T_trace_Stroke => s.Spots.length) 1048576 f hl
  have hb := Nat.mul_le_mul_right 1048576 hf
  obtain ⟨o, h1, h2⟩ := iter_spec (b := F_trace_right_l0 f)
    (fun i x => (f.take i).all (fun s => !s.Spots.isEmpty && s.Spots.all g) = true ∧ x = (((lens (f.take i) : Nat) : Int), (i : Int)))
    (fun o => o = if f.all (fun s => !s.Spots.isEmpty && s.Spots.all g) = true then .inl ((lens f : Nat) : Int) else .inr false) f.length (x0 := ((0 : Int), (0 : Int))) (by simp [lens])
    (fun i x rec hi ⟨ha, hx⟩ => by
      subst hx
      unfold F_trace_right_l0
      have hle : lens (f.take (i + 1)) ≤ lens f := sum_take_le (fun s : T_trace_Stroke => s.Spots.length) f (i + 1)
      have hst : lens (f.take (i + 1)) = lens (f.take i) + f[i].Spots.length := sum_take (fun s : T_trace_Stroke => s.Spots.length) f i hi
      have hc := containsF g f[i].Spots (hg _ (List.getElem_mem hi)) (hl _ (List.getElem_mem hi))
      cases he : (!f[i].Spots.isEmpty && f[i].Spots.all g) with
      | false =>
        right
        refine ⟨.inr false, ?_, ?_⟩
        · simp only [letJ]
          rw [decide_eq_true (by omega), cond_true, idx_some hi, Option.bind_some, hc]
          cases h5 : f[i].Spots.isEmpty with
          | true =>
            have hz : f[i].Spots.length = 0 := by rw [List.isEmpty_iff.1 h5]; rfl
            rw [hz]; rfl
          | false =>
            rw [h5] at he
            have hz : f[i].Spots.length ≠ 0 := by
              intro h
              rw [List.eq_nil_of_length_eq_zero h] at h5; simp at h5
            have hb : ((f[i].Spots.length : Int) == 0) = false := by simpa using hz
            have h6 : f[i].Spots.all g = false := by simpa using he
            rw [hb, h6]; rfl
        · rw [if_neg]
          intro h
          have := List.all_eq_true.1 h f[i] (List.getElem_mem _)
          rw [he] at this; simp at this
      | true =>
        left
        have h5 : f[i].Spots.isEmpty = false := by
          cases h : f[i].Spots.isEmpty
          · rfl
          · rw [h] at he; simp at he
        have h6 : f[i].Spots.all g = true := by rw [h5] at he; simpa using he
        have hz : f[i].Spots.length ≠ 0 := by
          intro h
          rw [List.eq_nil_of_length_eq_zero h] at h5; simp at h5
        refine ⟨(((lens (f.take (i + 1)) : Nat) : Int), ((i + 1 : Nat) : Int)), ?_, ?_, rfl⟩
        · simp only [letJ]
          rw [decide_eq_true (by omega), cond_true, idx_some hi, Option.bind_some, hc, h6]
          have hb : ((f[i].Spots.length : Int) == 0) = false := by simpa using hz
          rw [hb, cond_false, Option.bind_some, Bool.not_true, cond_false, w64 (x := (i : Int) + 1) (by omega) (by omega), w64 (x := ((lens (f.take i) : Nat) : Int) + _) (by omega) (by omega), hst]
          simp
        · rw [all_take _ _ _ hi, ha, he]; rfl)
    (fun x rec ⟨ha, hx⟩ => ⟨.inl ((lens f : Nat) : Int), by
      subst hx
      unfold F_trace_right_l0
      simp only [letJ]
      rw [decide_eq_false (by omega), cond_false, List.take_length], by
      rw [List.take_length] at ha
      rw [if_pos ha]⟩) (n := FUEL) (by unfold FUEL; omega)
  unfold F_trace_right
  simp only [letJ, h1, h2, Option.bind_some]
  by_cases ha : f.all (fun s => !s.Spots.isEmpty && s.Spots.all g) = true
  · rw [if_pos ha, ha]
    simp only [Bool.true_and]
    congr 1
    simp only [decide_eq_decide]
    omega
  · have hf : f.all (fun s => !s.Spots.isEmpty && s.Spots.all g) = false := by simpa using ha
    rw [if_neg ha, hf]; rfl
end Go.Proofs.YtocfjohangcajaaDoor
