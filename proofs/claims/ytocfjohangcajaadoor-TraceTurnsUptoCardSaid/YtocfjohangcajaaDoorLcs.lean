/- TraceShows: what Show writes. No condition. -/
import Derived.Test.YtocfjohangcajaaDoorWk
import Derived.Test.YtocfjohangcajaaDoorEng25
import Derived.Test.YtocfjohangcajaaDoorLfg
import Derived.Test.YtocfjohangcajaaDoorLa
import Derived.Lib.ItoaLen
import Derived.Lib.Join
set_option linter.unusedSimpArgs false
set_option linter.unusedVariables false
namespace Go.Proofs.YtocfjohangcajaaDoor
open Fl

/-! ## The reference's digits -/
theorem dig_u8 (k : Nat) (h : k < 10) : u8 (IntKind.wrap .u8 (IntKind.wrap .i64 ((48 : Int) + (k : Int)))) = some (UInt8.ofNat (48 + k)) := by
  match k, h with
  | 0, _ => decide
  | 1, _ => decide
  | 2, _ => decide
  | 3, _ => decide
  | 4, _ => decide
  | 5, _ => decide
  | 6, _ => decide
  | 7, _ => decide
  | 8, _ => decide
  | 9, _ => decide
theorem dec_len (u : Nat) (h : u ≤ 1000000) : (Lib.decDigits u).length ≤ 21 := by
  have := Lib.itoa_length_le (u : Int) (by omega) (by omega)
  rwa [Lib.itoa_nonneg] at this
theorem dig_l0 (u : Nat) (h : u ≤ 1000000) : ∃ (q : Nat) (t : List UInt8), iter F_lecternref10_digits_l0 FUEL ((u : Int), []) = some ((q : Int), t) ∧ q < 10 ∧ [UInt8.ofNat (48 + q)] ++ t = Lib.decDigits u := by
  have hu := dec_len u h
  obtain ⟨o, h1, q, t, rfl, hq, ht⟩ := iter_spec (b := F_lecternref10_digits_l0)
    (fun i x => ∃ (v : Nat) (t : List UInt8), x = ((v : Int), t) ∧ v + i ≤ u ∧ Lib.decDigits v ++ t = Lib.decDigits u)
    (fun o => ∃ (q : Nat) (t : List UInt8), o = ((q : Int), t) ∧ q < 10 ∧ [UInt8.ofNat (48 + q)] ++ t = Lib.decDigits u) u (x0 := ((u : Int), [])) ⟨u, [], rfl, by omega, by simp⟩
    (fun i x rec hi ⟨v, t, hx, hv, ht⟩ => by
      subst hx
      unfold F_lecternref10_digits_l0
      dsimp only
      by_cases h9 : 9 < v
      · left
        have hl : t.length ≤ 21 := by
          have := congrArg List.length ht
          rw [List.length_append] at this; omega
        refine ⟨(((v / 10 : Nat) : Int), [UInt8.ofNat (48 + v % 10)] ++ t), ?_, v / 10, _, rfl, by omega, ?_⟩
        · rw [decide_eq_true (by omega), cond_true, show Int.tmod (v : Int) 10 = ((v % 10 : Nat) : Int) from tmod_nat v 10, dig_u8 _ (by omega), Option.bind_some]
          have hc : cat [UInt8.ofNat (48 + v % 10)] t = some ([UInt8.ofNat (48 + v % 10)] ++ t) := by unfold cat; rw [if_pos (by simp; omega)]
          rw [hc, Option.bind_some, show Int.tdiv (v : Int) 10 = ((v / 10 : Nat) : Int) by rw [Int.tdiv_eq_ediv_of_nonneg (by omega)]; simp, w64 (by omega) (by omega)]
        · rw [← ht]
          conv => rhs; rw [Lib.decDigits, dif_neg (by omega)]
          simp
      · right
        refine ⟨((v : Int), t), ?_, v, t, rfl, by omega, ?_⟩
        · rw [decide_eq_false (by omega), cond_false]
        · rw [← ht]
          conv => rhs; rw [Lib.decDigits, dif_pos (by omega)])
    (fun x rec ⟨v, t, hx, hv, ht⟩ => ⟨((v : Int), t), by
      subst hx
      unfold F_lecternref10_digits_l0
      dsimp only
      rw [decide_eq_false (by omega), cond_false], v, t, rfl, by omega, by
      rw [← ht]
      conv => rhs; rw [Lib.decDigits, dif_pos (by omega)]⟩) (n := FUEL) (by unfold FUEL; omega)
  exact ⟨q, t, h1, hq, ht⟩
theorem dig_pos (u : Nat) (h : u ≤ 1000000) (rec : Int → Option (List UInt8)) : F_lecternref10_digits_b rec (u : Int) = some (Lib.decDigits u) := by
  obtain ⟨q, t, h1, hq, ht⟩ := dig_l0 u h
  have hu := dec_len u h
  have hl : t.length ≤ 21 := by
    have := congrArg List.length ht
    rw [List.length_append] at this; omega
  unfold F_lecternref10_digits_b
  dsimp only
  rw [decide_eq_false (by omega), cond_false]
  simp only [letJ, h1, Option.bind_some]
  have hc : cat [UInt8.ofNat (48 + q)] t = some ([UInt8.ofNat (48 + q)] ++ t) := by unfold cat; rw [if_pos (by simp; omega)]
  rw [dig_u8 q hq, Option.bind_some, hc, Option.bind_some, ht]
theorem dig_neg (u : Nat) (h : u ≤ 1000000) (h0 : 0 < u) (rec : Int → Option (List UInt8)) (hr : rec (u : Int) = some (Lib.decDigits u)) : F_lecternref10_digits_b rec (-(u : Int)) = some (45 :: Lib.decDigits u) := by
  have hl := dec_len u (by omega)
  unfold F_lecternref10_digits_b
  dsimp only
  rw [decide_eq_true (by omega), cond_true, w64 (by omega) (by omega), show (0 : Int) - -(u : Int) = (u : Int) by omega, hr, Option.bind_some]
  have hc : cat [45] (Lib.decDigits u) = some ([45] ++ Lib.decDigits u) := by unfold cat; rw [if_pos (by simp; omega)]
  rw [hc]; rfl
theorem digits_eq (n : Int) (h1 : -1000000 ≤ n) (h2 : n ≤ 1000000) : F_lecternref10_digits n = some (Lib.itoa n) := by
  have hF : FUEL = (FUEL - 2) + 1 + 1 := by unfold FUEL; rfl
  unfold F_lecternref10_digits
  rw [hF]
  by_cases hn : 0 ≤ n
  · obtain ⟨u, rfl⟩ : ∃ u : Nat, n = u := ⟨n.toNat, by omega⟩
    rw [Lib.itoa_nonneg]
    exact dig_pos u (by omega) _
  · obtain ⟨u, hu⟩ : ∃ u : Nat, n = -(u : Int) := ⟨n.natAbs, by omega⟩
    subst hu
    rw [Lib.itoa_neg u (by omega)]
    exact dig_neg u (by omega) (by omega) _ (dig_pos u (by omega) _)

/-! ## Tokens -/
def tk3 (i : Nat) (p : Int × Int) : List (List UInt8) := [[if i = 0 then 77 else 76], Lib.itoa p.1, Lib.itoa p.2]
def tkU (ps : List (Int × Int)) : Nat → List (List UInt8)
  | 0 => []
  | i + 1 => tkU ps i ++ tk3 i (ps.getD i (0, 0))
theorem tkU_len (ps : List (Int × Int)) : ∀ i, (tkU ps i).length = 3 * i
  | 0 => rfl
  | i + 1 => by rw [tkU, List.length_append, tkU_len ps i]; simp [tk3]; omega
def tkL (l : T_lecternlaw10_Line) : List (List UInt8) := tkU (prs l.Parts) (prs l.Parts).length ++ (if l.Closed then [[90]] else [])
def tkA (p : List T_lecternlaw10_Line) : List (List UInt8) := (p.map tkL).flatten
theorem tkA_take (p : List T_lecternlaw10_Line) (i : Nat) (h : i < p.length) : tkA (p.take (i + 1)) = tkA (p.take i) ++ tkL p[i] := by
  unfold tkA
  rw [map_take _ _ _ h, List.flatten_append]; simp
theorem itoa_len (n : Int) (h1 : -1000000 ≤ n) (h2 : n ≤ 1000000) : (Lib.itoa n).length ≤ 21 := Lib.itoa_length_le n (by omega) (by omega)
def InL (ps : List (Int × Int)) : Prop := ∀ p ∈ ps, InB p
theorem tkU_small (ps : List (Int × Int)) (H : InL ps) : ∀ i, i ≤ ps.length → ∀ t ∈ tkU ps i, t.length ≤ 21
  | 0, _, t, ht => by simp [tkU] at ht
  | i + 1, hi, t, ht => by
    rw [tkU, List.mem_append] at ht
    rcases ht with ht | ht
    · exact tkU_small ps H i (by omega) t ht
    · have hp : ps.getD i (0, 0) = ps[i] := by simp [List.getD, show i < ps.length by omega]
      rw [hp] at ht
      obtain ⟨a1, a2, a3, a4⟩ := H ps[i] (List.getElem_mem _)
      simp only [tk3, List.mem_cons, List.not_mem_nil, or_false] at ht
      rcases ht with rfl | rfl | rfl
      · simp
      · exact itoa_len _ a1 a2
      · exact itoa_len _ a3 a4
theorem joinTail_len (l : List (List UInt8)) (h : ∀ t ∈ l, t.length ≤ 21) : (Lib.joinTail [32] l).length ≤ 22 * l.length := by
  induction l with
  | nil => simp [Lib.joinTail]
  | cons x r ih =>
    have h1 := h x (List.mem_cons_self ..)
    have h2 := ih (fun t ht => h t (List.mem_cons_of_mem _ ht))
    simp only [Lib.joinTail, List.map_cons, List.flatten_cons, List.length_append, List.length_cons, List.length_nil] at h2 ⊢
    omega
theorem joinTail_app (a b : List (List UInt8)) : Lib.joinTail [32] (a ++ b) = Lib.joinTail [32] a ++ Lib.joinTail [32] b := by simp [Lib.joinTail]

/-! ## Show -/
theorem show_l1 (l : T_lecternlaw10_Line) (a : List (List UInt8)) (H : InL (prs l.Parts)) (hl : (prs l.Parts).length ≤ 1048576) (ha : a.length ≤ 100000000) :
    iter (F_trace_Show_l1 (mkF l)) FUEL (a, (0 : Int)) = some (a ++ tkU (prs l.Parts) (prs l.Parts).length) := by
  obtain ⟨o, h1, h2⟩ := iter_spec (b := F_trace_Show_l1 (mkF l)) (fun i x => x = (a ++ tkU (prs l.Parts) i, (i : Int))) (fun o => o = a ++ tkU (prs l.Parts) (prs l.Parts).length) (prs l.Parts).length (x0 := (a, (0 : Int))) (by simp [tkU])
    (fun i x rec hi hx => .inl ⟨(a ++ tkU (prs l.Parts) (i + 1), ((i + 1 : Nat) : Int)), by
      subst hx
      have hL : (mkF l).Spots.length = (prs l.Parts).length := by simp [mkF]
      have hi' : i < (mkF l).Spots.length := by omega
      have hs : (mkF l).Spots[i] = sF (prs l.Parts)[i] := by simp [mkF]
      obtain ⟨a1, a2, a3, a4⟩ := H (prs l.Parts)[i] (List.getElem_mem _)
      have hp : (prs l.Parts).getD i (0, 0) = (prs l.Parts)[i] := by simp [List.getD, hi]
      have hk := tkU_len (prs l.Parts) i
      have hU : tkU (prs l.Parts) (i + 1) = tkU (prs l.Parts) i ++ tk3 i (prs l.Parts)[i] := by rw [tkU, hp]
      unfold F_trace_Show_l1
      simp only [letJ]
      rw [decide_eq_true (by omega), cond_true, idx_some hi', Option.bind_some, hs, hU]
      generalize (prs l.Parts)[i] = p at *
      unfold sF
      simp only []
      rw [f2i_int p.1 (by omega), Option.bind_some]
      have i1 : L_Itoa p.1 = some (Lib.itoa p.1) := by unfold L_Itoa; rw [if_pos (by omega)]
      have i2 : L_Itoa p.2 = some (Lib.itoa p.2) := by unfold L_Itoa; rw [if_pos (by omega)]
      rw [i1, Option.bind_some, f2i_int p.2 (by omega), Option.bind_some, i2, Option.bind_some]
      rw [app_some (by rw [List.length_append, hk]; simp; omega) (by rw [List.length_append, hk]; simp; omega), Option.bind_some, Option.bind_some, w64 (x := (i : Int) + 1) (by omega) (by omega)]
      generalize hb : a ++ tkU (prs l.Parts) i = b
      have hbl : b.length = a.length + 3 * i := by rw [← hb, List.length_append, hk]
      by_cases h0 : i = 0
      · subst h0
        have hw : IntKind.wrap .i64 (((b ++ [([76] : List UInt8), Lib.itoa p.1, Lib.itoa p.2]).length : Int) - 3) = (b.length : Int) := by
          rw [List.length_append, w64 (by simp <;> omega) (by simp <;> omega)]; simp <;> omega
        have hx : b.length < (b ++ [([76] : List UInt8), Lib.itoa p.1, Lib.itoa p.2]).length := by simp
        have hset : (b ++ [([76] : List UInt8), Lib.itoa p.1, Lib.itoa p.2]).set b.length [77] = b ++ [([77] : List UInt8), Lib.itoa p.1, Lib.itoa p.2] := by simp
        rw [hw, idx_some hx, Int.toNat_natCast, hset]
        simp [tk3, ← hb]
      · have hc : (((i : Nat) : Int) == 0) = false := by simpa using h0
        rw [hc, cond_false]
        simp [tk3, ← hb, h0], rfl⟩)
    (fun x rec hx => ⟨_, by
      subst hx
      have hL : (mkF l).Spots.length = (prs l.Parts).length := by simp [mkF]
      unfold F_trace_Show_l1
      simp only [letJ]
      rw [decide_eq_false (by omega), cond_false], rfl⟩) (n := FUEL) (by unfold FUEL; omega)
  rw [h1, h2]
theorem tkL_len (l : T_lecternlaw10_Line) : (tkL l).length ≤ 3 * (prs l.Parts).length + 1 := by
  unfold tkL
  rw [List.length_append, tkU_len]
  split <;> simp
theorem tkA_len (p : List T_lecternlaw10_Line) (hp : lens (p.map mkF) ≤ 500) (hp2 : p.length ≤ 1048576) (i : Nat) : (tkA (p.take i)).length ≤ 1500 + 1048576 := by
  have h1 : (tkA (p.take i)).length ≤ ((p.take i).map fun l => 3 * (prs l.Parts).length + 1).sum := by
    unfold tkA
    rw [List.length_flatten, List.map_map]
    generalize p.take i = q
    induction q with
    | nil => simp
    | cons x r ih =>
      have := tkL_len x
      simp only [List.map_cons, List.sum_cons, Function.comp] at ih ⊢
      omega
  have h2 : ∀ q : List T_lecternlaw10_Line, (q.map fun l => 3 * (prs l.Parts).length + 1).sum = 3 * lens (q.map mkF) + q.length := by
    intro q
    induction q with
    | nil => rfl
    | cons x r ih =>
      simp only [lens, List.map_cons, List.sum_cons, List.length_cons] at ih ⊢
      rw [ih]; simp [mkF]; omega
  have h3 : lens ((p.take i).map mkF) ≤ lens (p.map mkF) := by rw [List.map_take]; exact lens_le _ i
  have h4 : (p.take i).length ≤ p.length := by rw [List.length_take]; omega
  rw [h2] at h1; omega
theorem show_l0 (p : List T_lecternlaw10_Line) (H : ∀ l ∈ p, InL (prs l.Parts)) (hp : p.length ≤ 1048576) (ht : lens (p.map mkF) ≤ 500) :
    iter (F_trace_Show_l0 (p.map mkF)) FUEL ([], (0 : Int)) = some (tkA p) := by
  obtain ⟨o, h1, h2⟩ := iter_spec (b := F_trace_Show_l0 (p.map mkF)) (fun i x => x = (tkA (p.take i), (i : Int))) (fun o => o = tkA p) p.length (x0 := ([], (0 : Int))) (by simp [tkA])
    (fun i x rec hi hx => .inl ⟨(tkA (p.take (i + 1)), ((i + 1 : Nat) : Int)), by
      subst hx
      have hi' : i < (p.map mkF).length := by simpa using hi
      have hk := tkA_len p ht hp i
      have hsm : (prs p[i].Parts).length ≤ 500 := by
        have h1 := lens_take (p.map mkF) i hi'
        have h2 := lens_le (p.map mkF) (i + 1)
        have e : (p.map mkF)[i].Spots.length = (prs p[i].Parts).length := by simp [mkF]
        rw [e] at h1
        omega
      unfold F_trace_Show_l0
      simp only [letJ]
      rw [decide_eq_true (by omega), cond_true, idx_some hi', Option.bind_some, List.getElem_map, show_l1 _ _ (H _ (List.getElem_mem _)) (by omega) (by omega), Option.bind_some, w64 (x := (i : Int) + 1) (by omega) (by omega), tkA_take p i hi]
      cases hc : p[i].Closed with
      | true =>
        have hc' : (mkF p[i]).Closed = true := hc
        rw [hc', cond_true, app_some (by rw [List.length_append, tkU_len]; simp; omega) (by rw [List.length_append, tkU_len]; simp; omega)]
        simp [tkL, hc]
      | false =>
        have hc' : (mkF p[i]).Closed = false := hc
        rw [hc', cond_false]
        simp [tkL, hc], rfl⟩)
    (fun x rec hx => ⟨_, by
      subst hx
      unfold F_trace_Show_l0
      simp only [letJ]
      rw [decide_eq_false (by simp), cond_false, List.take_length], rfl⟩) (n := FUEL) (by unfold FUEL; omega)
  rw [h1, h2]

/-! ## The reference's Show -/
theorem rshow_l1 (l : T_lecternlaw10_Line) (a : List UInt8) (H : InL (prs l.Parts)) (hl : (prs l.Parts).length ≤ 1048576) (ha : a.length ≤ 100000000) :
    iter (F_lecternref10_Show_l1 (mkS l)) FUEL (a, (0 : Int)) = some (a ++ Lib.joinTail [32] (tkU (prs l.Parts) (prs l.Parts).length)) := by
  obtain ⟨o, h1, h2⟩ := iter_spec (b := F_lecternref10_Show_l1 (mkS l)) (fun i x => x = (a ++ Lib.joinTail [32] (tkU (prs l.Parts) i), (i : Int))) (fun o => o = a ++ Lib.joinTail [32] (tkU (prs l.Parts) (prs l.Parts).length)) (prs l.Parts).length (x0 := (a, (0 : Int))) (by simp [tkU, Lib.joinTail])
    (fun i x rec hi hx => .inl ⟨(a ++ Lib.joinTail [32] (tkU (prs l.Parts) (i + 1)), ((i + 1 : Nat) : Int)), by
      subst hx
      have hL : (mkS l).Spots.length = (prs l.Parts).length := by simp [mkS]
      have hi' : i < (mkS l).Spots.length := by omega
      have hs : (mkS l).Spots[i] = sS (prs l.Parts)[i] := by simp [mkS]
      obtain ⟨a1, a2, a3, a4⟩ := H (prs l.Parts)[i] (List.getElem_mem _)
      have hp : (prs l.Parts).getD i (0, 0) = (prs l.Parts)[i] := by simp [List.getD, hi]
      have hk := tkU_len (prs l.Parts) i
      have hb := joinTail_len _ (tkU_small (prs l.Parts) H i (by omega))
      have hU : tkU (prs l.Parts) (i + 1) = tkU (prs l.Parts) i ++ tk3 i (prs l.Parts)[i] := by rw [tkU, hp]
      unfold F_lecternref10_Show_l1
      simp only [letJ]
      rw [decide_eq_true (by omega), cond_true, idx_some hi', Option.bind_some, hs, hU, joinTail_app]
      generalize (prs l.Parts)[i] = p at *
      rw [w64 (x := (i : Int) + 1) (by omega) (by omega)]
      have e1 := itoa_len p.1 a1 a2
      have e2 := itoa_len p.2 a3 a4
      have d1 : F_lecternref10_digits (sS p).X = some (Lib.itoa p.1) := digits_eq p.1 a1 a2
      have d2 : F_lecternref10_digits (sS p).Y = some (Lib.itoa p.2) := digits_eq p.2 a3 a4
      have hal : (a ++ Lib.joinTail [32] (tkU (prs l.Parts) i)).length ≤ 200000000 := by rw [List.length_append]; omega
      rw [← List.append_assoc]
      generalize a ++ Lib.joinTail [32] (tkU (prs l.Parts) i) = b at *
      have cat_ok : ∀ x y : List UInt8, x.length + y.length ≤ 9223372036854775807 → cat x y = some (x ++ y) := fun x y h => by unfold cat; rw [if_pos h]
      by_cases h0 : i = 0
      · subst h0
        rw [show (((0 : Nat) : Int) == 0) = true from rfl, cond_true, cat_ok _ _ (by simp; omega), Option.bind_some, d1, Option.bind_some, cat_ok _ _ (by simp; omega), Option.bind_some, cat_ok _ _ (by simp; omega), Option.bind_some, d2, Option.bind_some, cat_ok _ _ (by simp; omega), Option.bind_some]
        simp [tk3, Lib.joinTail]
      · have hc : (((i : Nat) : Int) == 0) = false := by simpa using h0
        rw [hc, cond_false, cat_ok _ _ (by simp; omega), Option.bind_some, d1, Option.bind_some, cat_ok _ _ (by simp; omega), Option.bind_some, cat_ok _ _ (by simp; omega), Option.bind_some, d2, Option.bind_some, cat_ok _ _ (by simp; omega), Option.bind_some]
        simp [tk3, Lib.joinTail, h0], rfl⟩)
    (fun x rec hx => ⟨_, by
      subst hx
      have hL : (mkS l).Spots.length = (prs l.Parts).length := by simp [mkS]
      unfold F_lecternref10_Show_l1
      simp only [letJ]
      rw [decide_eq_false (by omega), cond_false], rfl⟩) (n := FUEL) (by unfold FUEL; omega)
  rw [h1, h2]
theorem tkA_small (p : List T_lecternlaw10_Line) (H : ∀ l ∈ p, InL (prs l.Parts)) : ∀ t ∈ tkA p, t.length ≤ 21 := by
  intro t ht
  unfold tkA at ht
  rw [List.mem_flatten] at ht
  obtain ⟨m, hm, ht⟩ := ht
  rw [List.mem_map] at hm
  obtain ⟨l, hl, rfl⟩ := hm
  unfold tkL at ht
  rw [List.mem_append] at ht
  rcases ht with ht | ht
  · exact tkU_small _ (H l hl) _ (Nat.le_refl _) t ht
  · split at ht
    · simp at ht; subst ht; simp
    · simp at ht
theorem rshow_l0 (p : List T_lecternlaw10_Line) (H : ∀ l ∈ p, InL (prs l.Parts)) (hp : p.length ≤ 1048576) (ht : lens (p.map mkF) ≤ 500) :
    iter (F_lecternref10_Show_l0 (p.map mkS)) FUEL ([], (0 : Int)) = some (Lib.joinTail [32] (tkA p)) := by
  obtain ⟨o, h1, h2⟩ := iter_spec (b := F_lecternref10_Show_l0 (p.map mkS)) (fun i x => x = (Lib.joinTail [32] (tkA (p.take i)), (i : Int))) (fun o => o = Lib.joinTail [32] (tkA p)) p.length (x0 := ([], (0 : Int))) (by simp [tkA, Lib.joinTail])
    (fun i x rec hi hx => .inl ⟨(Lib.joinTail [32] (tkA (p.take (i + 1))), ((i + 1 : Nat) : Int)), by
      subst hx
      have hi' : i < (p.map mkS).length := by simpa using hi
      have hif : i < (p.map mkF).length := by simpa using hi
      have hk := tkA_len p ht hp i
      have hb := joinTail_len _ (tkA_small (p.take i) (fun l hl => H l (List.mem_of_mem_take hl)))
      have hsm : (prs p[i].Parts).length ≤ 500 := by
        have h1 := lens_take (p.map mkF) i hif
        have h2 := lens_le (p.map mkF) (i + 1)
        have e : (p.map mkF)[i].Spots.length = (prs p[i].Parts).length := by simp [mkF]
        rw [e] at h1
        omega
      have hb2 := joinTail_len _ (tkU_small (prs p[i].Parts) (H _ (List.getElem_mem _)) _ (Nat.le_refl _))
      rw [tkU_len] at hb2
      unfold F_lecternref10_Show_l0
      simp only [letJ]
      rw [decide_eq_true (by omega), cond_true, idx_some hi', Option.bind_some, List.getElem_map, rshow_l1 _ _ (H _ (List.getElem_mem _)) (by omega) (by omega), Option.bind_some, w64 (x := (i : Int) + 1) (by omega) (by omega), tkA_take p i hi, joinTail_app]
      have cat_ok : ∀ x y : List UInt8, x.length + y.length ≤ 9223372036854775807 → cat x y = some (x ++ y) := fun x y h => by unfold cat; rw [if_pos h]
      cases hc : p[i].Closed with
      | true =>
        have hc' : (mkS p[i]).Closed = true := hc
        rw [hc', cond_true, cat_ok _ _ (by rw [List.length_append]; simp; omega)]
        simp [tkL, hc, Lib.joinTail]
      | false =>
        have hc' : (mkS p[i]).Closed = false := hc
        rw [hc', cond_false]
        simp [tkL, hc, Lib.joinTail], rfl⟩)
    (fun x rec hx => ⟨_, by
      subst hx
      unfold F_lecternref10_Show_l0
      simp only [letJ]
      rw [decide_eq_false (by simp), cond_false, List.take_length], rfl⟩) (n := FUEL) (by unfold FUEL; omega)
  rw [h1, h2]

/-! ## The law -/
theorem mem_prs : ∀ (l : List Int) (p : Int × Int), p ∈ prs l → p.1 ∈ l ∧ p.2 ∈ l
  | [], p, h => by simp [prs] at h
  | [_], p, h => by simp [prs] at h
  | a :: b :: r, p, h => by
    simp only [prs, List.mem_cons] at h
    rcases h with rfl | h
    · simp
    · obtain ⟨h1, h2⟩ := mem_prs r p h
      exact ⟨by simp [h1], by simp [h2]⟩
/-- What the inputs are bound by. -/
structure InOk (p : List T_lecternlaw10_Line) : Prop where
  len : p.length ≤ 1048576
  parts : ∀ l ∈ p, l.Parts.length ≤ 1048576
  ints : ∀ l ∈ p, ∀ a ∈ l.Parts, -9223372036854775808 ≤ a ∧ a ≤ 9223372036854775807
/-- Whether a figure is right. -/
def okFig (p : List T_lecternlaw10_Line) : Bool := (p.all fun l => (prs l.Parts).all inBB) && ((p.all fun l => !(prs l.Parts).isEmpty) && decide (lens (p.map mkF) ≤ 500))
theorem lens_same (p : List T_lecternlaw10_Line) : lenS (p.map mkS) = lens (p.map mkF) := by
  unfold lenS lens
  rw [List.map_map, List.map_map]
  congr 1
  apply List.map_congr_left
  intro l _
  simp [mkF, mkS]
theorem figure_eq (p : List T_lecternlaw10_Line) (H : InOk p) : F_lecternlaw10_figure p = some (p.map mkF, p.map mkS, okFig p) := by
  unfold F_lecternlaw10_figure
  simp only [letJ, fig_l0 p H.len H.parts, Option.bind_some]
  have hr := rightS (p.map mkS) (by rw [List.length_map]; exact H.len) (by
    intro s hs
    rw [List.mem_map] at hs
    obtain ⟨l, hl, rfl⟩ := hs
    have := H.parts l hl
    simp only [mkS, List.length_map, prs_len]; omega)
  rw [hr, Option.bind_some, lens_same]
  have e : (p.map mkS).all (fun s => !s.Spots.isEmpty) = p.all fun l => !(prs l.Parts).isEmpty := by
    rw [List.all_map]
    congr 1
    funext l
    simp [mkS, Function.comp]
  rw [e]
  unfold okFig
  cases (p.all fun l => (prs l.Parts).all inBB) <;> rfl
theorem right_eq (p : List T_lecternlaw10_Line) (H : InOk p) : F_trace_right (p.map mkF) = some (okFig p) := by
  have hint : ∀ l ∈ p, ∀ q ∈ prs l.Parts, F_trace_spot (sF q) = some (inBB q) := by
    intro l hl q hq
    obtain ⟨h1, h2⟩ := mem_prs _ _ hq
    obtain ⟨a1, a2⟩ := H.ints l hl _ h1
    obtain ⟨a3, a4⟩ := H.ints l hl _ h2
    exact spot_int q.1 q.2 a1 a2 a3 a4
  rw [rightF (fun z => (F_trace_spot z).getD false) (p.map mkF) (by rw [List.length_map]; exact H.len) (by
    intro s hs
    rw [List.mem_map] at hs
    obtain ⟨l, hl, rfl⟩ := hs
    have := H.parts l hl
    simp only [mkF, List.length_map, prs_len]; omega) (by
    intro s hs z hz
    rw [List.mem_map] at hs
    obtain ⟨l, hl, rfl⟩ := hs
    simp only [mkF, List.mem_map] at hz
    obtain ⟨q, hq, rfl⟩ := hz
    rw [hint l hl q hq]; rfl)]
  unfold okFig
  rw [← Bool.and_assoc]
  congr 1
  congr 1
  rw [Bool.eq_iff_iff]
  simp only [List.all_eq_true, Bool.and_eq_true, List.mem_map]
  constructor
  · intro h
    constructor
    · intro l hl q hq
      have h2 := (h (mkF l) ⟨l, hl, rfl⟩).2 (sF q) (by simp only [mkF, List.mem_map]; exact ⟨q, hq, rfl⟩)
      rw [hint l hl q hq] at h2
      exact h2
    · intro l hl
      have h2 := (h (mkF l) ⟨l, hl, rfl⟩).1
      simpa [mkF] using h2
  · rintro ⟨h1, h2⟩ s ⟨l, hl, rfl⟩
    constructor
    · have h3 := h2 l hl
      simpa [mkF] using h3
    · intro z hz
      simp only [mkF, List.mem_map] at hz
      obtain ⟨q, hq, rfl⟩ := hz
      rw [hint l hl q hq]
      exact h1 l hl q hq
theorem okFig_spec {p : List T_lecternlaw10_Line} (h : okFig p = true) : (∀ l ∈ p, InL (prs l.Parts)) ∧ (∀ l ∈ p, prs l.Parts ≠ []) ∧ lens (p.map mkF) ≤ 500 := by
  unfold okFig at h
  simp only [Bool.and_eq_true, List.all_eq_true, decide_eq_true_eq] at h
  obtain ⟨h1, h2, h3⟩ := h
  refine ⟨?_, ?_, h3⟩
  · intro l hl q hq
    have := h1 l hl q hq
    unfold inBB inB at this
    simp only [Bool.and_eq_true, decide_eq_true_eq] at this
    exact ⟨this.1.1, this.1.2, this.2.1, this.2.2⟩
  · intro l hl h4
    have := h2 l hl
    rw [h4] at this; simp at this
/-- What Show writes. -/
theorem show_eq (p : List T_lecternlaw10_Line) (H : InOk p) : F_trace_Show (p.map mkF) = if okFig p = true then some (Lib.join (tkA p) [32], 0) else some ([], 1) := by
  unfold F_trace_Show
  rw [right_eq p H, Option.bind_some]
  cases ho : okFig p with
  | false => rfl
  | true =>
    obtain ⟨h1, h2, h3⟩ := okFig_spec ho
    simp only [letJ, Bool.not_true, cond_false, show_l0 p h1 H.len h3, Option.bind_some, if_true]
    have hk := tkA_len p h3 H.len p.length
    rw [List.take_length] at hk
    have hs := joinTail_len _ (tkA_small p h1)
    have hj : (Lib.join (tkA p) [32]).length ≤ 22 * (tkA p).length := by
      generalize tkA p = l at *
      cases l with
      | nil => simp [Lib.join_nil]
      | cons x r =>
        rw [Lib.join_cons, List.length_append]
        simp only [Lib.joinTail, List.map_cons, List.flatten_cons, List.length_append, List.length_cons, List.length_nil] at hs ⊢
        omega
    have hL : L_Join (tkA p) [32] = some (Lib.join (tkA p) [32]) := by unfold L_Join; rw [if_pos ⟨by omega, by omega⟩]
    rw [hL]; rfl
theorem rshow_eq (p : List T_lecternlaw10_Line) (H : InOk p) (ho : okFig p = true) : F_lecternref10_Show (p.map mkS) = some (Lib.join (tkA p) [32]) := by
  obtain ⟨h1, h2, h3⟩ := okFig_spec ho
  unfold F_lecternref10_Show
  simp only [letJ, rshow_l0 p h1 H.len h3, Option.bind_some]
  generalize tkA p = l
  cases l with
  | nil => rfl
  | cons x r =>
    have e : Lib.joinTail [32] (x :: r) = 32 :: (x ++ Lib.joinTail [32] r) := by simp [Lib.joinTail]
    rw [e, Lib.join_cons]
    rw [show ((32 :: (x ++ Lib.joinTail [32] r) : List UInt8) == []) = false from rfl, cond_false, slc_tail (by simp)]; rfl
/-- The law of what is shown. -/
theorem traceShows (p : List T_lecternlaw10_Line) (H : InOk p) : F_lecternlaw10_TraceShows p = some true := by
  unfold F_lecternlaw10_TraceShows
  rw [awake_t]
  simp only [Option.bind_some, letJ, Bool.not_true, cond_false, figure_eq p H, show_eq p H]
  cases ho : okFig p with
  | false => rfl
  | true =>
    simp only [if_true, Option.bind_some, Bool.not_true, cond_false, rshow_eq p H ho]
    simp
theorem mem_sum {α : Type} (f : α → Nat) : ∀ (l : List α) (x : α), x ∈ l → f x ≤ (l.map f).sum
  | [], x, h => by cases h
  | y :: l, x, h => by
    simp only [List.map_cons, List.sum_cons]
    rcases List.mem_cons.1 h with rfl | h
    · omega
    · have := mem_sum f l x h; omega
theorem len_sum0 {α : Type} (f : α → Nat) (hf : ∀ x, 1 ≤ f x) : ∀ l : List α, l.length ≤ (l.map f).sum
  | [] => by simp
  | x :: l => by
    have := hf x; have := len_sum0 f hf l
    simp only [List.map_cons, List.sum_cons, List.length_cons]; omega
theorem len_sum1 {α : Type} (l : List α) : (l.map fun _ => 1).sum = l.length := by induction l <;> simp_all [Nat.add_comm]
abbrev okLines (p : List T_lecternlaw10_Line) : Prop := (∀ y ∈ p, ((fun x : T_lecternlaw10_Line => ((fun l => (∀ y ∈ l, (okI .i64) y) ∧ l.length ≤ 9223372036854775807)) x.Parts ∧ ((fun _ : Bool => True)) x.Closed ∧ True)) y) ∧ p.length ≤ 9223372036854775807
abbrev szLines (p : List T_lecternlaw10_Line) : Nat := (p.map (fun x : T_lecternlaw10_Line => ((fun l => (l.map (fun _ : Int => 1)).sum + 1) x.Parts + ((fun _ : Bool => 1) x.Closed + 0)) + 1)).sum + 1
theorem inOk_of (p : List T_lecternlaw10_Line) (o : okLines p) (t : szLines p ≤ 1048576) : InOk p where
  len := by
    have := len_sum0 (fun x : T_lecternlaw10_Line => ((fun l => (l.map (fun _ : Int => 1)).sum + 1) x.Parts + ((fun _ : Bool => 1) x.Closed + 0)) + 1) (fun x => by omega) p
    unfold szLines at t
    omega
  parts := fun l hl => by
    have := Nat.le_trans (mem_sum (fun x : T_lecternlaw10_Line => ((fun l => (l.map (fun _ : Int => 1)).sum + 1) x.Parts + ((fun _ : Bool => 1) x.Closed + 0)) + 1) p l hl) (show _ ≤ 1048575 by unfold szLines at t; omega)
    have e := len_sum1 l.Parts
    simp only at this
    omega
  ints := fun l hl a ha => by
    have := (o.1 l hl).1.1 a ha
    unfold okI at this
    have e1 : IntKind.min .i64 = -9223372036854775808 := by decide
    have e2 : IntKind.max .i64 = 9223372036854775807 := by decide
    rw [e1, e2] at this
    exact this
end Go.Proofs.YtocfjohangcajaaDoor
