/- TraceBack: what is shown is read again. No condition. -/
import Derived.Test.YtocfjohangcajaaDoorLtc
set_option linter.unusedSimpArgs false
set_option linter.unusedVariables false
namespace Go.Proofs.YtocfjohangcajaaDoor
open Fl

/-! ## Show, of any whole numbers -/
def tkLW (y : List (Int × Int) × Bool) : List (List UInt8) := tkU y.1 y.1.length ++ (if y.2 then [[90]] else [])
def tkAW (L : FgW) : List (List UInt8) := (L.map tkLW).flatten
theorem tkAW_take (L : FgW) (i : Nat) (h : i < L.length) : tkAW (L.take (i + 1)) = tkAW (L.take i) ++ tkLW L[i] := by
  unfold tkAW
  rw [map_take _ _ _ h, List.flatten_append]; simp
theorem showW_l1 (x : T_trace_Stroke) (ps : List (Int × Int)) (H : SpL x.Spots ps) (a : List (List UInt8)) (hl : ps.length ≤ 1048576) (ha : a.length ≤ 100000000) :
    iter (F_trace_Show_l1 x) FUEL (a, (0 : Int)) = some (a ++ tkU ps ps.length) := by
  obtain ⟨o, h1, h2⟩ := iter_spec (b := F_trace_Show_l1 x) (fun i y => y = (a ++ tkU ps i, (i : Int))) (fun o => o = a ++ tkU ps ps.length) ps.length (x0 := (a, (0 : Int))) (by simp [tkU])
    (fun i y rec hi hx => .inl ⟨(a ++ tkU ps (i + 1), ((i + 1 : Nat) : Int)), by
      subst hx
      have hL := H.len
      have hi' : i < x.Spots.length := by omega
      have hz := H.sp i hi' hi
      obtain ⟨a1, a2, a3, a4⟩ := H.inb ps[i] (List.getElem_mem _)
      have hp : ps.getD i (0, 0) = ps[i] := by simp [List.getD, hi]
      have hk := tkU_len ps i
      have hU : tkU ps (i + 1) = tkU ps i ++ tk3 i ps[i] := by rw [tkU, hp]
      unfold F_trace_Show_l1
      simp only [letJ]
      rw [decide_eq_true (by omega), cond_true, idx_some hi', Option.bind_some, hU]
      generalize ps[i] = p at *
      generalize x.Spots[i] = z at *
      rw [f2i_I hz.1 (by omega), Option.bind_some]
      have i1 : L_Itoa p.1 = some (Lib.itoa p.1) := by unfold L_Itoa; rw [if_pos (by omega)]
      have i2 : L_Itoa p.2 = some (Lib.itoa p.2) := by unfold L_Itoa; rw [if_pos (by omega)]
      rw [i1, Option.bind_some, f2i_I hz.2 (by omega), Option.bind_some, i2, Option.bind_some]
      rw [app_some (by rw [List.length_append, hk]; simp; omega) (by rw [List.length_append, hk]; simp; omega), Option.bind_some, Option.bind_some, w64 (x := (i : Int) + 1) (by omega) (by omega)]
      generalize hb : a ++ tkU ps i = b
      have hbl : b.length = a.length + 3 * i := by rw [← hb, List.length_append, hk]
      by_cases h0 : i = 0
      · subst h0
        have hw : IntKind.wrap .i64 (((b ++ [([76] : List UInt8), Lib.itoa p.1, Lib.itoa p.2]).length : Int) - 3) = (b.length : Int) := by
          rw [List.length_append, w64 (by simp <;> omega) (by simp <;> omega)]; simp <;> omega
        have hx : b.length < (b ++ [([76] : List UInt8), Lib.itoa p.1, Lib.itoa p.2]).length := by simp
        have hset : (b ++ [([76] : List UInt8), Lib.itoa p.1, Lib.itoa p.2]).set b.length [77] = b ++ [([77] : List UInt8), Lib.itoa p.1, Lib.itoa p.2] := by simp
        rw [hw, idx_some hx, Int.toNat_natCast, hset]
        simp [tk3, ← hb]
      · have hc : (((i : Nat) : Int) == 0) = false := by simpa using h0
        rw [hc, cond_false]
        simp [tk3, ← hb, h0], rfl⟩)
    (fun y rec hx => ⟨_, by
      subst hx
      have hL := H.len
      unfold F_trace_Show_l1
      simp only [letJ]
      rw [decide_eq_false (by omega), cond_false], rfl⟩) (n := FUEL) (by unfold FUEL; omega)
  rw [h1, h2]
theorem tkLW_len (y : List (Int × Int) × Bool) : (tkLW y).length ≤ 3 * y.1.length + 1 := by
  unfold tkLW
  rw [List.length_append, tkU_len]
  split <;> simp
def lenW (L : FgW) : Nat := (L.map fun y => y.1.length).sum
theorem tkAW_len (L : FgW) : (tkAW L).length ≤ 3 * lenW L + L.length := by
  induction L with
  | nil => simp [tkAW]
  | cons x r ih =>
    have := tkLW_len x
    simp only [tkAW, lenW, List.map_cons, List.flatten_cons, List.length_append, List.sum_cons, List.length_cons] at ih ⊢
    omega
theorem FigW.lenW {f : List T_trace_Stroke} {L : FgW} (H : FigW f L) : lenW L = lens f := by
  unfold Go.Proofs.YtocfjohangcajaaDoor.lenW lens
  congr 1
  apply List.ext_getElem
  · rw [List.length_map, List.length_map, H.len]
  · intro i h1 h2
    rw [List.getElem_map, List.getElem_map]
    rw [List.length_map] at h1 h2
    exact ((H.st i h2 h1).2.1.len).symm
theorem lenW_take (L : FgW) (i : Nat) : lenW (L.take i) ≤ lenW L := by
  unfold lenW
  induction L generalizing i with
  | nil => simp
  | cons x r ih =>
    cases i with
    | zero => simp
    | succ i => simp only [List.take_succ_cons, List.map_cons, List.sum_cons]; have := ih i; omega
theorem showW_l0 (f : List T_trace_Stroke) (L : FgW) (H : FigW f L) : iter (F_trace_Show_l0 f) FUEL ([], (0 : Int)) = some (tkAW L) := by
  have hlen := H.len
  have hcnt := H.cnt
  have htot := H.tot
  obtain ⟨o, h1, h2⟩ := iter_spec (b := F_trace_Show_l0 f) (fun i x => x = (tkAW (L.take i), (i : Int))) (fun o => o = tkAW L) f.length (x0 := ([], (0 : Int))) (by simp [tkAW])
    (fun i x rec hi hx => .inl ⟨(tkAW (L.take (i + 1)), ((i + 1 : Nat) : Int)), by
      subst hx
      have hi2 : i < L.length := by omega
      obtain ⟨s1, s2, s3⟩ := H.st i hi hi2
      have hsm := H.small i hi hi2
      have hk := tkAW_len (L.take i)
      have hk2 := lenW_take L i
      rw [H.lenW] at hk2
      rw [List.length_take] at hk
      unfold F_trace_Show_l0
      simp only [letJ]
      rw [decide_eq_true (by omega), cond_true, idx_some hi, Option.bind_some, showW_l1 _ _ s2 _ (by omega) (by omega), Option.bind_some, w64 (x := (i : Int) + 1) (by omega) (by omega), tkAW_take L i hi2]
      cases hc : L[i].2 with
      | true =>
        rw [s3, hc, cond_true, app_some (by rw [List.length_append, tkU_len]; simp; omega) (by rw [List.length_append, tkU_len]; simp; omega)]
        simp [tkLW, hc]
      | false =>
        rw [s3, hc, cond_false]
        simp [tkLW, hc], rfl⟩)
    (fun x rec hx => ⟨_, by
      subst hx
      unfold F_trace_Show_l0
      simp only [letJ]
      rw [decide_eq_false (by omega), cond_false, hlen, List.take_length], rfl⟩) (n := FUEL) (by unfold FUEL; omega)
  rw [h1, h2]
theorem tkAW_small (L : FgW) (H : ∀ y ∈ L, InL y.1) : ∀ t ∈ tkAW L, t.length ≤ 21 := by
  intro t ht
  unfold tkAW at ht
  rw [List.mem_flatten] at ht
  obtain ⟨l, hl, ht⟩ := ht
  rw [List.mem_map] at hl
  obtain ⟨y, hy, rfl⟩ := hl
  unfold tkLW at ht
  rw [List.mem_append] at ht
  rcases ht with ht | ht
  · exact tkU_small y.1 (H y hy) _ (Nat.le_refl _) t ht
  · split at ht
    · rw [List.mem_singleton] at ht; rw [ht]; simp
    · simp at ht
theorem FigW.inL {f : List T_trace_Stroke} {L : FgW} (H : FigW f L) : ∀ y ∈ L, InL y.1 := by
  intro y hy
  obtain ⟨i, h1, rfl⟩ := List.getElem_of_mem hy
  exact (H.st i (by rw [H.len]; exact h1) h1).2.1.inb
theorem join_len (l : List (List UInt8)) (h : ∀ t ∈ l, t.length ≤ 21) : (Lib.join l [32]).length ≤ 22 * l.length := by
  have hs := joinTail_len l h
  cases l with
  | nil => simp [Lib.join_nil]
  | cons x r =>
    rw [Lib.join_cons, List.length_append]
    simp only [Lib.joinTail, List.map_cons, List.flatten_cons, List.length_append, List.length_cons, List.length_nil] at hs ⊢
    omega
theorem show_W {f : List T_trace_Stroke} {L : FgW} (H : FigW f L) : F_trace_Show f = some (Lib.join (tkAW L) [32], 0) ∧ (Lib.join (tkAW L) [32]).length ≤ 1048576 := by
  have hcnt := H.cnt
  have htot := H.tot
  have hk := tkAW_len L
  rw [H.lenW, ← H.len] at hk
  have hj := join_len _ (tkAW_small L H.inL)
  refine ⟨?_, by omega⟩
  unfold F_trace_Show
  rw [right_ok H.fig, Option.bind_some]
  simp only [letJ, Bool.not_true, cond_false, showW_l0 f L H, Option.bind_some]
  have hL : L_Join (tkAW L) [32] = some (Lib.join (tkAW L) [32]) := by unfold L_Join; rw [if_pos ⟨by omega, by omega⟩]
  rw [hL]; rfl

/-! ## Digits -/
theorem dig_of (k : Nat) (h : k < 10) : dig (UInt8.ofNat (48 + k)) = true ∧ Lib.digitVal (UInt8.ofNat (48 + k)) = some k := by
  match k, h with
  | 0, _ => decide
  | 1, _ => decide
  | 2, _ => decide
  | 3, _ => decide
  | 4, _ => decide
  | 5, _ => decide
  | 6, _ => decide
  | 7, _ => decide
  | 8, _ => decide
  | 9, _ => decide
theorem decFrom_snoc (l : List UInt8) : ∀ (acc m d : Nat) (c : UInt8), Lib.decFrom acc l = some m → Lib.digitVal c = some d → Lib.decFrom acc (l ++ [c]) = some (m * 10 + d) := by
  induction l with
  | nil => intro acc m d c h hd; simp only [Lib.decFrom, Option.some.injEq] at h; subst h; simp [Lib.decFrom, hd]
  | cons x r ih =>
    intro acc m d c h hd
    simp only [List.cons_append, Lib.decFrom] at h ⊢
    cases hx : Lib.digitVal x with
    | none => rw [hx] at h; simp at h
    | some e => rw [hx] at h; exact ih _ m d c h hd
theorem dd_spec : ∀ (k u : Nat), u < 10 ^ (k + 1) → (∀ c ∈ Lib.decDigits u, dig c = true) ∧ Lib.decFrom 0 (Lib.decDigits u) = some u ∧ 1 ≤ (Lib.decDigits u).length ∧ (Lib.decDigits u).length ≤ k + 1
  | k, u, h => by
    rw [Lib.decDigits]
    by_cases h9 : u < 10
    · rw [dif_pos h9]
      obtain ⟨d1, d2⟩ := dig_of u h9
      refine ⟨fun c hc => by rw [List.mem_singleton] at hc; rw [hc]; exact d1, ?_, by simp, by simp⟩
      simp only [Lib.decFrom, d2, Nat.zero_mul, Nat.zero_add]
    · rw [dif_neg h9]
      cases k with
      | zero => simp at h; omega
      | succ k =>
        obtain ⟨a1, a2, a3, a4⟩ := dd_spec k (u / 10) (by rw [Nat.pow_succ] at h; omega)
        obtain ⟨d1, d2⟩ := dig_of (u % 10) (by omega)
        refine ⟨fun c hc => ?_, ?_, by simp, by simp; omega⟩
        · rw [List.mem_append, List.mem_singleton] at hc
          rcases hc with hc | rfl
          · exact a1 c hc
          · exact d1
        · rw [decFrom_snoc _ _ _ _ _ a2 d2]
          congr 1; omega
theorem tw_all (P : UInt8 → Bool) (l r : List UInt8) (h : ∀ c ∈ l, P c = true) (hr : ∀ c, r.head? = some c → P c = false) : (l ++ r).takeWhile P = l := by
  induction l with
  | nil =>
    cases r with
    | nil => rfl
    | cons c r => rw [List.nil_append, List.takeWhile_cons, hr c rfl]; rfl
  | cons c l ih =>
    rw [List.cons_append, List.takeWhile_cons, h c (List.mem_cons_self ..), if_pos rfl, ih (fun d hd => h d (List.mem_cons_of_mem _ hd))]
theorem dig_sep (c : UInt8) (h : dig c = true) : blank c = false ∧ isL c = false ∧ sgn c = false := by
  have := all_u8 (p := fun c => !dig c || (!blank c && !isL c && !sgn c)) (by decide +kernel) c
  simp only [h, Bool.not_true, Bool.false_or, Bool.and_eq_true, Bool.not_eq_true'] at this
  exact ⟨this.1.1, this.1.2, this.2⟩
theorem isL_sep (c : UInt8) (h : isL c = true) : blank c = false := by
  have := all_u8 (p := fun c => !isL c || !blank c) (by decide +kernel) c
  simpa only [h, Bool.not_true, Bool.false_or, Bool.not_eq_true'] using this

/-! ## Tokens of a shown text -/
abbrev jt (ts : List (List UInt8)) : List UInt8 := Lib.joinTail [32] ts
theorem jt_cons (t : List UInt8) (ts : List (List UInt8)) : jt (t :: ts) = 32 :: (t ++ jt ts) := by simp [Lib.joinTail]
theorem jt_head (ts : List (List UInt8)) : ∀ c, (jt ts).head? = some c → dig c = false := by
  intro c hc
  cases ts with
  | nil => simp [Lib.joinTail] at hc
  | cons t ts => rw [jt_cons] at hc; simp at hc; subst hc; decide
/-- Ahead of these tokens. -/
def Bef (s : List UInt8) (i : Nat) (ts : List (List UInt8)) : Prop := i ≤ s.length ∧ (s.drop i = jt ts ∨ 32 :: s.drop i = jt ts)
theorem drop_add {s l r : List UInt8} {a : Nat} (h : s.drop a = l ++ r) : s.drop (a + l.length) = r := by
  rw [← List.drop_drop, h, List.drop_left]
theorem bef_tok {s : List UInt8} {i : Nat} {c : UInt8} {t : List UInt8} {ts : List (List UInt8)} (h : Bef s i ((c :: t) :: ts)) (hb : blank c = false) :
    i ≤ sk blank s i ∧ s.drop (sk blank s i) = (c :: t) ++ jt ts ∧ sk blank s i < s.length := by
  obtain ⟨h1, h2⟩ := h
  have hl : ∀ a, s.drop a = (c :: t) ++ jt ts → a < s.length := by
    intro a ha
    have := congrArg List.length ha
    rw [List.length_drop] at this
    simp at this; omega
  rcases h2 with h2 | h2
  · rw [jt_cons] at h2
    have e : sk blank s i = i + 1 := by
      unfold sk
      rw [h2, List.takeWhile_cons, show blank 32 = true from rfl, if_pos rfl, List.cons_append, List.takeWhile_cons, hb, if_neg (by simp)]; rfl
    have h3 : s.drop (i + 1) = (c :: t) ++ jt ts := drop_add (l := [32]) (by rw [h2]; rfl)
    rw [e]
    exact ⟨by omega, h3, hl _ h3⟩
  · rw [jt_cons] at h2
    injection h2 with _ h2
    have e : sk blank s i = i := by
      unfold sk
      rw [h2, List.cons_append, List.takeWhile_cons, hb, if_neg (by simp)]; rfl
    rw [e]
    exact ⟨Nat.le_refl _, h2, hl _ h2⟩
theorem get_drop {s : List UInt8} {a : Nat} {c : UInt8} {r : List UInt8} (h : s.drop a = c :: r) : s[a]? = some c := by
  have : (s.drop a)[0]? = some c := by rw [h]; rfl
  rwa [List.getElem?_drop, Nat.add_zero] at this
theorem tok_letter {s : List UInt8} {i : Nat} {c : UInt8} {ts : List (List UInt8)} (h : Bef s i ([c] :: ts)) (hc : isL c = true) :
    ∃ a, i ≤ a ∧ tk s i = (1, a, a + 1, 0) ∧ s[a]? = some c ∧ a < s.length ∧ Bef s (a + 1) ts := by
  obtain ⟨h1, h2, h3⟩ := bef_tok h (isL_sep c hc)
  have hg := get_drop (c := c) (r := jt ts) (by rw [h2]; rfl)
  refine ⟨sk blank s i, h1, ?_, hg, h3, by omega, .inl (drop_add (l := [c]) h2)⟩
  unfold tk
  dsimp only
  rw [hg]
  dsimp only
  rw [if_pos hc]
theorem tok_num {s : List UInt8} {i : Nat} {n : Int} {ts : List (List UInt8)} (h : Bef s i (Lib.itoa n :: ts)) (h1 : -1000000 ≤ n) (h2 : n ≤ 1000000) :
    ∃ a e, i ≤ a ∧ tk s i = (2, a, e, n) ∧ Bef s e ts := by
  have core : ∀ (c : UInt8) (t : List UInt8) (u : Nat), u ≤ 1000000 → Lib.itoa n = c :: t → blank c = false → isL c = false →
      ((sgn c = true ∧ c = 45 ∧ t = Lib.decDigits u ∧ n = -(u : Int)) ∨ (sgn c = false ∧ c :: t = Lib.decDigits u ∧ n = (u : Int))) → ∃ a e, i ≤ a ∧ tk s i = (2, a, e, n) ∧ Bef s e ts := by
    intro c t u hu hit hb hl hcase
    rw [hit] at h
    obtain ⟨g1, g2, g3⟩ := bef_tok h hb
    have hg := get_drop (c := c) (r := t ++ jt ts) (by rw [g2]; rfl)
    obtain ⟨d1, d2, d3, d4⟩ := dd_spec 6 u (by omega)
    have hnb : s.drop (nb s (sk blank s i)) = Lib.decDigits u ++ jt ts := by
      unfold nb
      rw [hg]
      dsimp only
      rcases hcase with ⟨e1, e2, e3, _⟩ | ⟨e1, e2, _⟩
      · rw [if_pos e1, ← e3]; exact drop_add (l := [c]) (by rw [g2]; rfl)
      · rw [if_neg (by simp [e1]), ← e2]; exact g2
    have htw : (s.drop (nb s (sk blank s i))).takeWhile dig = Lib.decDigits u := by
      rw [hnb]; exact tw_all dig _ _ d1 (jt_head ts)
    have hsk : sk dig s (nb s (sk blank s i)) = nb s (sk blank s i) + (Lib.decDigits u).length := by
      unfold sk at htw ⊢; rw [htw]
    have hnv : nv s (sk blank s i) = n := by
      unfold nv
      rw [htw, d2, hg]
      dsimp only
      rw [Option.getD_some]
      rcases hcase with ⟨e1, e2, e3, e4⟩ | ⟨e1, e2, e4⟩
      · rw [e2, e4]; rfl
      · unfold sgn at e1
        simp only [Bool.or_eq_false_iff, beq_eq_false_iff_ne] at e1
        rw [if_neg (by simpa using e1.1), e4]
    have hle : nb s (sk blank s i) + (Lib.decDigits u).length ≤ s.length := by
      have := congrArg List.length hnb
      rw [List.length_drop, List.length_append] at this
      omega
    refine ⟨sk blank s i, nb s (sk blank s i) + (Lib.decDigits u).length, g1, ?_, hle, .inl (drop_add hnb)⟩
    unfold tk
    dsimp only
    rw [hg]
    dsimp only
    rw [if_neg (by simp [hl]), if_neg (by rw [hsk]; omega), hsk, hnv]
  by_cases hn : 0 ≤ n
  · obtain ⟨u, rfl⟩ : ∃ u : Nat, n = u := ⟨n.toNat, by omega⟩
    obtain ⟨d1, d2, d3, d4⟩ := dd_spec 6 u (by omega)
    cases hd : Lib.decDigits u with
    | nil => rw [hd] at d3; simp at d3
    | cons c t =>
      have hdc := d1 c (by rw [hd]; exact List.mem_cons_self ..)
      obtain ⟨b1, b2, b3⟩ := dig_sep c hdc
      exact core c t u (by omega) (by rw [Lib.itoa_nonneg, hd]) b1 b2 (.inr ⟨b3, hd.symm, rfl⟩)
  · obtain ⟨u, hu⟩ : ∃ u : Nat, n = -(u : Int) := ⟨n.natAbs, by omega⟩
    exact core 45 (Lib.decDigits u) u (by omega) (by rw [hu]; exact Lib.itoa_neg u (by omega)) (by decide) (by decide) (.inl ⟨by decide, rfl, rfl, hu⟩)
theorem tok_end {s : List UInt8} {i : Nat} (h : Bef s i []) : tk s i = (0, s.length, s.length, 0) := by
  obtain ⟨h1, h2⟩ := h
  rcases h2 with h2 | h2
  · have : i = s.length := by
      have := congrArg List.length h2
      rw [List.length_drop] at this
      simp [Lib.joinTail] at this; omega
    subst this
    unfold tk
    rw [sk_end]
    dsimp only
    rw [List.getElem?_eq_none (Nat.le_refl _)]
  · simp [Lib.joinTail] at h2

/-! ## The reference reads what is shown -/
def HdL (ts : List (List UInt8)) : Prop := ts = [] ∨ ∃ c r, isL c = true ∧ ts = [c] :: r
theorem hdl_not {s : List UInt8} {i : Nat} {ts : List (List UInt8)} (h : Bef s i ts) (hd : HdL ts) : (tk s i).1 ≠ 2 := by
  rcases hd with rfl | ⟨c, r, hc, rfl⟩
  · rw [tok_end h]; exact (by decide : (0 : Nat) ≠ 2)
  · obtain ⟨a, _, e, _⟩ := tok_letter h hc
    rw [e]; exact (by decide : (1 : Nat) ≠ 2)
theorem spA_shown {s : List UInt8} {i : Nat} {x y : Int} {ts : List (List UInt8)} (h : Bef s i (Lib.itoa x :: Lib.itoa y :: ts)) (hp : InB (x, y)) (C : Int) (hC : C = 77 ∨ C = 76) (P : Int × Int) :
    ∃ pl nx, spA s i C P = (2, pl, nx, (x, y)) ∧ Bef s nx ts := by
  obtain ⟨p1, p2, p3, p4⟩ := hp
  obtain ⟨a, e, _, h1, h2⟩ := tok_num h p1 p2
  obtain ⟨a', e', _, h3, h4⟩ := tok_num h2 p3 p4
  refine ⟨a', e', ?_, h4⟩
  unfold spA
  rw [h1]
  dsimp only
  rw [if_pos rfl]
  have hz : zA C P x = none := by unfold zA; rw [if_neg (by omega), if_neg (by omega), if_neg (by omega), if_neg (by omega)]
  rw [hz]
  dsimp only
  rw [h3]
  dsimp only
  rw [if_pos rfl]
  unfold zB
  rw [if_neg (by omega)]
theorem in_shown {s : List UInt8} (hs : s.length ≤ 1048576) (c : UInt8) (C : Int) (hc : (c.toNat : Int) = C) {i : Nat} {x y : Int} {ts : List (List UInt8)} (h : Bef s i (Lib.itoa x :: Lib.itoa y :: ts)) (hd : HdL ts) (hp : InB (x, y)) (P : Int × Int) (hP : InB P)
    (g g' : List T_lecternref10_Stroke) (op op' : Bool) (N : Nat) (hN : N < 500)
    (hC : C = 77 ∨ C = 76)
    (hg : ∀ rec nx pl, refJ C rec g op (N : Int) ((0 : Nat) : Int) nx pl x y = rec (g', x, y, op', ((N + 1 : Nat) : Int), nx, ((0 + 1 : Nat) : Int))) :
    ∃ nx, Bef s nx ts ∧ iter (F_lecternref10_Read_l1 s c) FUEL (g, P.1, P.2, op, (N : Int), (i : Int), (0 : Int)) = some (.inl (g', x, y, op', ((N + 1 : Nat) : Int), (nx : Int))) := by
  obtain ⟨pl, nx, e, hb⟩ := spA_shown h hp C hC P
  refine ⟨nx, hb, ?_⟩
  obtain ⟨m, hm⟩ : ∃ m, FUEL = m + 1 + 1 := ⟨FUEL - 2, by unfold FUEL; rfl⟩
  rw [hm, iter_succ]
  rw [show (0 : Int) = ((0 : Nat) : Int) from rfl, ref_body s c C hc _ g P op N 0 i h.1 hs hP, e]
  dsimp only
  rw [if_neg (by decide), if_neg (by decide), hg, iter_succ]
  have hb2 := ref_body s c C hc (iter (F_lecternref10_Read_l1 s c) m) g' (x, y) op' (N + 1) 1 nx hb.1 hs hp
  dsimp only at hb2
  rw [hb2]
  have h0 : (spA s nx C (x, y)).1 = 0 := by unfold spA; rw [if_neg (hdl_not hb hd)]
  rw [if_pos h0, if_pos (by decide)]
theorem refO (s : List UInt8) (hs : s.length ≤ 1048576) (i : Nat) (hi : i ≤ s.length) (a : Nat) (c : UInt8) (C : Int) (hC : (c.toNat : Int) = C) (h1 : tk s i = (1, a, a + 1, 0)) (h2 : s[a]? = some c) (h3 : a < s.length)
    (rec : (List T_lecternref10_Stroke) × Int × Int × Bool × Int × Int → Option (((List T_lecternref10_Stroke) × Int × Int))) (g : List T_lecternref10_Stroke) (px py : Int) (op : Bool) (N : Int) :
    F_lecternref10_Read_l0 s rec (g, px, py, op, N, (i : Int)) =
    cond ((!((C == (77 : Int)) || (C == (109 : Int)))) && (!op))
     (some (([] : List T_lecternref10_Stroke), (a : Int), (37 : Int)))
     (cond ((C == (90 : Int)) || (C == (122 : Int)))
      ((lst g (IntKind.wrap .i64 ((g.length : Int) - (1 : Int)))).bind fun x26 =>
       (some (List.set g (Int.toNat (IntKind.wrap .i64 ((g.length : Int) - (1 : Int)))) (⟨x26.Spots, true⟩ : T_lecternref10_Stroke))).bind fun a27 =>
       (lst a27 (IntKind.wrap .i64 ((a27.length : Int) - (1 : Int)))).bind fun x28 =>
       (idx x28.Spots (0 : Int)).bind fun x29 =>
      rec (a27, x29.X, x29.Y, false, N, ((a + 1 : Nat) : Int)))
      ((iter (F_lecternref10_Read_l1 s c) FUEL (g, px, py, op, N, ((a + 1 : Nat) : Int), (0 : Int))).bind fun o =>
      match o with
      | .inl o1 => rec o1
      | .inr o1 => some o1)) := by
  have hx : idx s (a : Int) = some c := by
    rw [idx_some h3]
    rw [List.getElem?_eq_getElem h3] at h2
    exact h2
  unfold F_lecternref10_Read_l0
  dsimp only
  rw [mark_eq s i hi hs, h1, Option.bind_some]
  dsimp only
  rw [show ((((1 : Nat) : Int)) == 0) = false from rfl, cond_false, show ((((1 : Nat) : Int)) != 1) = false from rfl, cond_false, hx, Option.bind_some, hC]
  rfl
section
variable (s : List UInt8) (hs : s.length ≤ 1048576)
include hs
theorem out_M {i : Nat} {x y : Int} {ts : List (List UInt8)} (h : Bef s i ([77] :: Lib.itoa x :: Lib.itoa y :: ts)) (hd : HdL ts) (hp : InB (x, y)) (P : Int × Int) (hP : InB P) (g : List T_lecternref10_Stroke) (hg : g.length ≤ 500) (op : Bool) (N : Nat) (hN : N < 500) :
    ∃ nx, Bef s nx ts ∧ ∀ n, iter (F_lecternref10_Read_l0 s) (n + 1) (g, P.1, P.2, op, (N : Int), (i : Int)) = iter (F_lecternref10_Read_l0 s) n (g ++ [mkW ([(x, y)], false)], x, y, true, ((N + 1 : Nat) : Int), (nx : Int)) := by
  obtain ⟨a, _, h1, h2, h3, h4⟩ := tok_letter h (by decide)
  have hb : (inB x && inB y) = true := (inB_iff (x, y)).2 hp
  obtain ⟨nx, h5, h6⟩ := in_shown hs 77 77 (by decide) h4 hd hp P hP g (g ++ [mkW ([(x, y)], false)]) op true N hN (.inl rfl) (fun rec nx pl => by
    rw [refJ_new _ _ _ _ _ _ _ _ _ hN hb (.inl rfl) hg]; rfl)
  refine ⟨nx, h5, fun n => ?_⟩
  show F_lecternref10_Read_l0 s (iter (F_lecternref10_Read_l0 s) n) _ = _
  rw [refO s hs i h.1 a 77 77 (by decide) h1 h2 h3]
  rw [show ((!(((77 : Int) == (77 : Int)) || ((77 : Int) == (109 : Int)))) && (!op)) = false from rfl, cond_false, show (((77 : Int) == (90 : Int)) || ((77 : Int) == (122 : Int))) = false from rfl, cond_false, h6, Option.bind_some]
theorem out_L {i : Nat} {x y : Int} {ts : List (List UInt8)} (h : Bef s i ([76] :: Lib.itoa x :: Lib.itoa y :: ts)) (hd : HdL ts) (hp : InB (x, y)) (P : Int × Int) (hP : InB P) (g : List T_lecternref10_Stroke) (hg : g.length ≤ 500) (done : List (Int × Int)) (hdn : done.length ≤ 500) (N : Nat) (hN : N < 500) :
    ∃ nx, Bef s nx ts ∧ ∀ n, iter (F_lecternref10_Read_l0 s) (n + 1) (g ++ [mkW (done, false)], P.1, P.2, true, (N : Int), (i : Int)) = iter (F_lecternref10_Read_l0 s) n (g ++ [mkW (done ++ [(x, y)], false)], x, y, true, ((N + 1 : Nat) : Int), (nx : Int)) := by
  obtain ⟨a, _, h1, h2, h3, h4⟩ := tok_letter h (by decide)
  have hb : (inB x && inB y) = true := (inB_iff (x, y)).2 hp
  obtain ⟨nx, h5, h6⟩ := in_shown hs 76 76 (by decide) h4 hd hp P hP (g ++ [mkW (done, false)]) (g ++ [mkW (done ++ [(x, y)], false)]) true true N hN (.inr rfl) (fun rec nx pl => by
    rw [refJ_old _ _ _ _ _ _ _ _ _ _ _ hN hb (by decide) hg (by rw [mkW_len]; exact hdn) (by decide)]
    simp only [mkW, List.map_append, List.map_cons, List.map_nil])
  refine ⟨nx, h5, fun n => ?_⟩
  show F_lecternref10_Read_l0 s (iter (F_lecternref10_Read_l0 s) n) _ = _
  rw [refO s hs i h.1 a 76 76 (by decide) h1 h2 h3]
  rw [show ((!(((76 : Int) == (77 : Int)) || ((76 : Int) == (109 : Int)))) && (!true)) = false from rfl, cond_false, show (((76 : Int) == (90 : Int)) || ((76 : Int) == (122 : Int))) = false from rfl, cond_false, h6, Option.bind_some]
theorem out_Z {i : Nat} {ts : List (List UInt8)} (h : Bef s i ([90] :: ts)) (P : Int × Int) (g : List T_lecternref10_Stroke) (hg : g.length ≤ 500) (q : Int × Int) (done : List (Int × Int)) (N : Nat) :
    ∃ nx, Bef s nx ts ∧ ∀ n, iter (F_lecternref10_Read_l0 s) (n + 1) (g ++ [mkW (q :: done, false)], P.1, P.2, true, (N : Int), (i : Int)) = iter (F_lecternref10_Read_l0 s) n (g ++ [mkW (q :: done, true)], q.1, q.2, false, (N : Int), (nx : Int)) := by
  obtain ⟨a, _, h1, h2, h3, h4⟩ := tok_letter h (by decide)
  refine ⟨a + 1, h4, fun n => ?_⟩
  show F_lecternref10_Read_l0 s (iter (F_lecternref10_Read_l0 s) n) _ = _
  rw [refO s hs i h.1 a 90 90 (by decide) h1 h2 h3]
  rw [show ((!(((90 : Int) == (77 : Int)) || ((90 : Int) == (109 : Int)))) && (!true)) = false from rfl, cond_false, show (((90 : Int) == (90 : Int)) || ((90 : Int) == (122 : Int))) = true from rfl, cond_true]
  rw [wlen g _ (by omega), lst_app g _ _ rfl, Option.bind_some, Option.bind_some, Int.toNat_natCast, set_app, wlen g _ (by omega), lst_app g _ _ rfl, Option.bind_some]
  rfl
theorem out_end {i : Nat} (h : Bef s i []) (g : List T_lecternref10_Stroke) (px py : Int) (op : Bool) (N : Int) (n : Nat) : iter (F_lecternref10_Read_l0 s) (n + 1) (g, px, py, op, N, (i : Int)) = some (g, 0, 0) := by
  show F_lecternref10_Read_l0 s (iter (F_lecternref10_Read_l0 s) n) _ = _
  unfold F_lecternref10_Read_l0
  dsimp only
  rw [mark_eq s i h.1 hs, tok_end h, Option.bind_some]
  rfl
theorem out_Ls (ts : List (List UInt8)) (hd : HdL ts) (g : List T_lecternref10_Stroke) (hg : g.length ≤ 500) : ∀ (ps done : List (Int × Int)) (i N : Nat) (P : Int × Int), InL ps → InB P → done.length + ps.length ≤ 500 → N + ps.length ≤ 500 → Bef s i ((ps.map (tk3 1)).flatten ++ ts) →
    ∃ nx Q, InB Q ∧ Bef s nx ts ∧ ∀ n, iter (F_lecternref10_Read_l0 s) (n + ps.length) (g ++ [mkW (done, false)], P.1, P.2, true, (N : Int), (i : Int)) = iter (F_lecternref10_Read_l0 s) n (g ++ [mkW (done ++ ps, false)], Q.1, Q.2, true, ((N + ps.length : Nat) : Int), (nx : Int))
  | [], done, i, N, P, _, hP, _, _, h => ⟨i, P, hP, h, fun n => by rw [List.append_nil]; rfl⟩
  | p :: ps, done, i, N, P, hI, hP, h1, h2, h => by
    rw [List.length_cons] at h1 h2
    have hp := hI p (List.mem_cons_self ..)
    have hd2 : HdL ((ps.map (tk3 1)).flatten ++ ts) := by
      cases ps with
      | nil => exact hd
      | cons q r => exact .inr ⟨76, _, by decide, rfl⟩
    obtain ⟨nx, b1, e1⟩ := out_L s hs (x := p.1) (y := p.2) (ts := (ps.map (tk3 1)).flatten ++ ts) h hd2 hp P hP g hg done (by omega) N (by omega)
    obtain ⟨nx2, Q, hQ, b2, e2⟩ := out_Ls ts hd g hg ps (done ++ [p]) nx (N + 1) p (fun q hq => hI q (List.mem_cons_of_mem _ hq)) hp (by rw [List.length_append, List.length_singleton]; omega) (by omega) b1
    refine ⟨nx2, Q, hQ, b2, fun n => ?_⟩
    rw [List.length_cons, show n + (ps.length + 1) = (n + ps.length) + 1 by omega, e1, e2 n, List.append_assoc, show N + 1 + ps.length = N + (ps.length + 1) by omega]
    rfl
end
theorem tkU_cons (p : Int × Int) (r : List (Int × Int)) : ∀ i, i ≤ r.length → tkU (p :: r) (i + 1) = tk3 0 p ++ ((r.take i).map (tk3 1)).flatten
  | 0, _ => by simp [tkU]
  | i + 1, h => by
    rw [tkU, tkU_cons p r i (by omega)]
    have hi : i < r.length := by omega
    rw [map_take _ _ _ hi, List.flatten_append, List.append_assoc]
    have e : (p :: r).getD (i + 1) (0, 0) = r[i] := by simp [List.getD, hi]
    rw [e]
    simp [tk3]
theorem tkLW_cons (p : Int × Int) (r : List (Int × Int)) (b : Bool) : tkLW (p :: r, b) = tk3 0 p ++ ((r.map (tk3 1)).flatten ++ if b then [[90]] else []) := by
  unfold tkLW
  rw [List.length_cons, tkU_cons p r r.length (Nat.le_refl _), List.take_length, List.append_assoc]
theorem hdl_tkAW (L : FgW) (hne : ∀ y ∈ L, y.1 ≠ []) : HdL (tkAW L) := by
  cases L with
  | nil => exact .inl rfl
  | cons y L =>
    obtain ⟨ps, b⟩ := y
    cases ps with
    | nil => exact absurd rfl (hne _ (List.mem_cons_self ..))
    | cons p r =>
      have e : tkAW ((p :: r, b) :: L) = tkLW (p :: r, b) ++ tkAW L := by unfold tkAW; rw [List.map_cons, List.flatten_cons]
      rw [e, tkLW_cons]
      exact .inr ⟨77, Lib.itoa p.1 :: Lib.itoa p.2 :: (((r.map (tk3 1)).flatten ++ if b = true then [[90]] else []) ++ tkAW L), by decide, rfl⟩
theorem read_shown (s : List UInt8) (hs : s.length ≤ 1048576) : ∀ (L : FgW) (g : List T_lecternref10_Stroke) (i N : Nat) (P : Int × Int) (op : Bool) (n : Nat), (∀ y ∈ L, y.1 ≠ []) → (∀ y ∈ L, InL y.1) → InB P → g.length + L.length ≤ 500 → N + lenW L ≤ 500 → Bef s i (tkAW L) →
    iter (F_lecternref10_Read_l0 s) (n + 1 + lenW L + L.length) (g, P.1, P.2, op, (N : Int), (i : Int)) = some (g ++ L.map mkW, 0, 0)
  | [], g, i, N, P, op, n, _, _, _, _, _, h => by
    rw [show n + 1 + lenW [] + [].length = n + 1 from rfl, out_end s hs h]
    simp
  | (ps, b) :: L, g, i, N, P, op, n, hne, hin, hP, hgl, hN, h => by
    have hne2 : ∀ y ∈ L, y.1 ≠ [] := fun y hy => hne y (List.mem_cons_of_mem _ hy)
    have hin2 : ∀ y ∈ L, InL y.1 := fun y hy => hin y (List.mem_cons_of_mem _ hy)
    have hin1 := hin (ps, b) (List.mem_cons_self ..)
    cases ps with
    | nil => exact absurd rfl (hne _ (List.mem_cons_self ..))
    | cons p r =>
      have hlw : lenW ((p :: r, b) :: L) = (r.length + 1) + lenW L := by simp [lenW]
      rw [hlw] at hN ⊢
      rw [List.length_cons] at hgl ⊢
      have hp : InB p := hin1 p (List.mem_cons_self ..)
      have hr : InL r := fun q hq => hin1 q (List.mem_cons_of_mem _ hq)
      have htk : tkAW ((p :: r, b) :: L) = [77] :: Lib.itoa p.1 :: Lib.itoa p.2 :: ((r.map (tk3 1)).flatten ++ ((if b then [[90]] else []) ++ tkAW L)) := by
        unfold tkAW
        rw [List.map_cons, List.flatten_cons, tkLW_cons]
        simp [tk3, List.append_assoc]
      rw [htk] at h
      have hd1 : HdL ((if b then [[90]] else []) ++ tkAW L) := by
        cases b with
        | true => exact .inr ⟨90, _, by decide, rfl⟩
        | false => exact hdl_tkAW L hne2
      have hd2 : HdL ((r.map (tk3 1)).flatten ++ ((if b then [[90]] else []) ++ tkAW L)) := by
        cases r with
        | nil => exact hd1
        | cons q r => exact .inr ⟨76, _, by decide, rfl⟩
      obtain ⟨n1, b1, e1⟩ := out_M s hs h hd2 hp P hP g (by omega) op N (by omega)
      obtain ⟨n2, Q, hQ, b2, e2⟩ := out_Ls s hs _ hd1 g (by omega) r [p] n1 (N + 1) p hr hp (by simp; omega) (by omega) b1
      cases b with
      | false =>
        rw [show n + 1 + (r.length + 1 + lenW L) + (L.length + 1) = (((n + 1) + 1 + lenW L + L.length) + r.length) + 1 by omega, e1]
        rw [e2]
        rw [read_shown s hs L (g ++ [mkW ([p] ++ r, false)]) n2 (N + 1 + r.length) Q true (n + 1) hne2 hin2 hQ (by simp; omega) (by omega) b2]
        simp
      | true =>
        obtain ⟨n3, b3, e3⟩ := out_Z s hs b2 Q g (by omega) p r (N + 1 + r.length)
        rw [show n + 1 + (r.length + 1 + lenW L) + (L.length + 1) = (((n + 1 + lenW L + L.length) + 1) + r.length) + 1 by omega, e1]
        rw [e2, show [p] ++ r = p :: r from rfl, e3]
        rw [read_shown s hs L (g ++ [mkW (p :: r, true)]) n3 (N + 1 + r.length) p false n hne2 hin2 hp (by simp; omega) (by omega) b3]
        simp
theorem mkW_inj : ∀ {L M : FgW}, L.map mkW = M.map mkW → L = M
  | [], [], _ => rfl
  | [], _ :: _, h => by simp at h
  | _ :: _, [], h => by simp at h
  | (ps, b) :: L, (qs, c) :: M, h => by
    simp only [List.map_cons, List.cons.injEq] at h
    obtain ⟨h1, h2⟩ := h
    have e := mkW_inj h2
    unfold mkW at h1
    injection h1 with h3 h4
    have key : ∀ {us vs : List (Int × Int)}, (us.map fun p => (⟨p.1, p.2⟩ : T_lecternref10_Spot)) = (vs.map fun p => (⟨p.1, p.2⟩ : T_lecternref10_Spot)) → us = vs := by
      intro us vs hh
      induction us generalizing vs with
      | nil => cases vs with
        | nil => rfl
        | cons b vs => simp at hh
      | cons a us ih => cases vs with
        | nil => simp at hh
        | cons b vs =>
          simp only [List.map_cons, List.cons.injEq, T_lecternref10_Spot.mk.injEq] at hh
          rw [ih hh.2]
          congr 1
          exact Prod.ext hh.1.1 hh.1.2
    have h5 : b = c := h4
    have h6 : ps = qs := key h3
    rw [h6, e, h5]
theorem read_W {f : List T_trace_Stroke} {L : FgW} (H : FigW f L) : ∃ h, F_trace_Read (Lib.join (tkAW L) [32]) = some (h, 0, 0) ∧ FR h L ∧ lens h ≤ 500 := by
  have hs := (show_W H).2
  have hcnt := H.cnt
  have htot := H.tot
  have hlen := H.len
  have hlw := H.lenW
  have hne : ∀ y ∈ L, y.1 ≠ [] := by
    intro y hy
    obtain ⟨i, h1, rfl⟩ := List.getElem_of_mem hy
    exact H.ne i (by rw [H.len]; exact h1) h1
  have hbef : Bef (Lib.join (tkAW L) [32]) 0 (tkAW L) := by
    refine ⟨Nat.zero_le _, ?_⟩
    rw [List.drop_zero]
    generalize tkAW L = ts
    cases ts with
    | nil => left; rfl
    | cons t ts => right; rw [Lib.join_cons, jt_cons]
  have href : F_lecternref10_Read (Lib.join (tkAW L) [32]) = some (L.map mkW, 0, 0) := by
    unfold F_lecternref10_Read
    dsimp only
    obtain ⟨n, hn⟩ : ∃ n, FUEL = n + 1 + lenW L + L.length := ⟨FUEL - 1 - lenW L - L.length, by unfold FUEL; omega⟩
    have := read_shown _ hs L [] 0 0 (0, 0) false n hne H.inL ⟨by decide, by decide, by decide, by decide⟩ (by simp; omega) (by omega) hbef
    have h3 : iter (F_lecternref10_Read_l0 (Lib.join (tkAW L) [32])) FUEL ([], (0 : Int), (0 : Int), false, (0 : Int), (0 : Int)) = some (L.map mkW, 0, 0) := by
      rw [hn]; simpa using this
    rw [h3]; rfl
  rcases read_both _ hs with ⟨h, M, e1, e2, h1, h2⟩ | ⟨pl, e, he, e1, e2⟩
  · rw [href] at e2
    injection e2 with e2
    injection e2 with e2
    have := mkW_inj e2
    subst this
    exact ⟨h, e1, h1, h2⟩
  · rw [href] at e2
    injection e2 with e2
    injection e2 with e2 e3
    injection e3 with e3 e4
    exact absurd e4.symm he
theorem wl_mkG (p : List T_lecternlaw10_Line) : (wl p).map mkW = p.map mkS := by
  unfold wl
  rw [List.map_map]
  rfl
/-- The law of what is read back. -/
theorem traceBack (p : List T_lecternlaw10_Line) (s : List UInt8) (H : InOk p) (hs : s.length ≤ 1048576) : F_lecternlaw10_TraceBack p s = some true := by
  unfold F_lecternlaw10_TraceBack
  rw [awake_t]
  simp only [Option.bind_some, letJ, Bool.not_true, cond_false, figure_eq p H]
  have part2 : ((F_trace_Read s).bind fun x23 => cond (x23.2.2 != (0 : Int)) (some ((x23.1.length : Int) == (0 : Int))) ((F_trace_Show x23.1).bind fun x25 => (F_trace_Read x25.1).bind fun x26 => (F_trace_Show x26.1).bind fun x27 => some ((((x25.2 == (0 : Int)) && (x26.2.2 == (0 : Int))) && (x27.2 == (0 : Int))) && (x25.1 == x27.1)))) = some true := by
    rcases read_both s hs with ⟨f, L, e1, e2, h1, h2⟩ | ⟨pl, e, he, e1, e2⟩
    · have hW := h1.figW h2
      obtain ⟨h, g1, g2, g3⟩ := read_W hW
      rw [e1, Option.bind_some]
      dsimp only
      rw [show ((0 : Int) != 0) = false from rfl, cond_false, (show_W hW).1, Option.bind_some]
      dsimp only
      rw [g1, Option.bind_some]
      dsimp only
      rw [(show_W (g2.figW g3)).1, Option.bind_some]
      simp
    · rw [e1, Option.bind_some]
      dsimp only
      rw [show (e != 0) = true by simpa using he, cond_true]; rfl
  cases ho : okFig p with
  | false => rw [cond_false]; exact part2
  | true =>
    have hW := figW_of ho
    obtain ⟨h, g1, g2, g3⟩ := read_W hW
    have hsm := same_W g2 g3
    rw [wl_mkG] at hsm
    rw [cond_true, (show_W hW).1, Option.bind_some]
    dsimp only
    rw [g1, Option.bind_some]
    dsimp only
    rw [hsm]
    exact part2

/-! ## The walks and the laws -/
theorem traceReads_calls (s : List UInt8) (t : s.length ≤ 1048576) (h : Heap) :
    CallsA Tryd.prog 3 [.str s] h fun d _ => d = .bool true :=
  (F_lecternlaw10_TraceReads_w s (G := fun b => b = true) h ⟨true, traceReads s t, rfl⟩).mono fun d h' ⟨r, hr, hd⟩ => by subst hr; exact hd
theorem traceBack_calls (p : List T_lecternlaw10_Line) (s : List UInt8) (o : okLines p) (t : szLines p ≤ 1048576) (t2 : s.length ≤ 1048576) (h : Heap) :
    CallsA Tryd.prog 5 [.sl 2 (List.map c_T_lecternlaw10_Line p) 0, .str s] h fun d _ => d = .bool true :=
  (F_lecternlaw10_TraceBack_w p s (G := fun b => b = true) h ⟨true, traceBack p s (inOk_of p o t) t2, rfl⟩).mono fun d h' ⟨r, hr, hd⟩ => by subst hr; exact hd
end Go.Proofs.YtocfjohangcajaaDoor
