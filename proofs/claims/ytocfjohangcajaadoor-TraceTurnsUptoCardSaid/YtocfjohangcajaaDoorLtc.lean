/- Read: the program's loops beside the reference's. No condition. -/
import Derived.Test.YtocfjohangcajaaDoorLta
set_option linter.unusedSimpArgs false
set_option linter.unusedVariables false
namespace Go.Proofs.YtocfjohangcajaaDoor
open Fl

abbrev RfS := (List T_lecternref10_Stroke) × Int × Int × Bool × Int × Int × Int
abbrev RfO := ((List T_lecternref10_Stroke) × Int × Int × Bool × Int × Int) ⊕ ((List T_lecternref10_Stroke) × Int × Int)
/-- What the reference does with a spot. -/
def refJ (C : Int) (rec41 : RfS → Option RfO) (a31 : List T_lecternref10_Stroke) (a35 : Bool) (a36 a38 : Int) (a56 a57 a58 a59 : Int) : Option RfO :=
  (F_lecternref10_part a58).bind fun x69 =>
      (letJ (fun v72 : Bool => cond (v72 || (decide ((500 : Int) < (IntKind.wrap .i64 (a36 + (1 : Int))))))
        (some (.inr (([] : List T_lecternref10_Stroke), a57, (5 : Int))))
        (letJ (fun v : (List T_lecternref10_Stroke) × Bool => match v with
         | (a82, a84) =>
          (lst a82 (IntKind.wrap .i64 ((a82.length : Int) - (1 : Int)))).bind fun x91 =>
          (app 16 x91.Spots [(⟨a58, a59⟩ : T_lecternref10_Spot)]).bind fun _ =>
          (lst a82 (IntKind.wrap .i64 ((a82.length : Int) - (1 : Int)))).bind fun x93 =>
          (some (List.set a82 (Int.toNat (IntKind.wrap .i64 ((a82.length : Int) - (1 : Int)))) (⟨(x91.Spots ++ [(⟨a58, a59⟩ : T_lecternref10_Spot)]), x93.Closed⟩ : T_lecternref10_Stroke))).bind fun a94 =>
         rec41 (a94, (⟨a58, a59⟩ : T_lecternref10_Spot).X, (⟨a58, a59⟩ : T_lecternref10_Spot).Y, a84, (IntKind.wrap .i64 (a36 + (1 : Int))), a56, (IntKind.wrap .i64 (a38 + (1 : Int))))) fun J85 =>
        cond (((C == (77 : Int)) || (C == (109 : Int))) && (a38 == (0 : Int)))
         ((app 32 a31 [(⟨([] : List T_lecternref10_Spot), false⟩ : T_lecternref10_Stroke)]).bind fun _ =>
          (some (a31 ++ [(⟨([] : List T_lecternref10_Spot), false⟩ : T_lecternref10_Stroke)])).bind fun a90 =>
         J85 (a90, true))
         (J85 (a31, a35)))) fun J71 => cond (!x69) (J71 true) ((F_lecternref10_part a59).bind fun x73 =>
       J71 (!x73)))
theorem ref_body (s : List UInt8) (c : UInt8) (C : Int) (hC : (c.toNat : Int) = C) (rec : RfS → Option RfO) (g : List T_lecternref10_Stroke) (P : Int × Int) (op : Bool) (N k i : Nat) (hi : i ≤ s.length) (hs : s.length ≤ 1048576) (hP : InB P) :
    F_lecternref10_Read_l1 s c rec (g, P.1, P.2, op, (N : Int), (i : Int), (k : Int)) =
      if (spA s i C P).1 = 0 then (if 0 < k then some (.inl (g, P.1, P.2, op, (N : Int), (i : Int))) else some (.inr ([], ((spA s i C P).2.1 : Int), 37)))
      else if (spA s i C P).1 = 1 then some (.inr ([], ((spA s i C P).2.1 : Int), 37))
      else refJ C rec g op (N : Int) (k : Int) ((spA s i C P).2.2.1 : Int) ((spA s i C P).2.1 : Int) (spA s i C P).2.2.2.1 (spA s i C P).2.2.2.2 := by
  obtain ⟨t1, t2, t3, _, t5⟩ := tk_spec s i hi
  obtain ⟨u1, u2, u3, _, u5⟩ := tk_spec s (tk s i).2.2.1 t3
  obtain ⟨p1, p2, p3, p4⟩ := hP
  unfold F_lecternref10_Read_l1
  dsimp only
  rw [mark_eq s i hi hs, Option.bind_some, hC]
  unfold spA
  by_cases h : (tk s i).1 = 2
  · have hb : (((tk s i).1 : Int) != 2) = false := by rw [h]; rfl
    have t6 := (t5 h).2
    dsimp only
    simp only [if_pos h]
    rw [hb, Bool.false_and, cond_false, cond_false]
    by_cases c1 : C = 72
    · have e : zA C P (tk s i).2.2.2 = some ((tk s i).2.2.2, P.2) := by unfold zA; rw [if_pos c1]
      rw [e, show (C == 72) = true by simp [c1]]
      rfl
    by_cases c4 : C = 104
    · have e : zA C P (tk s i).2.2.2 = some (P.1 + (tk s i).2.2.2, P.2) := by unfold zA; rw [if_neg c1, if_neg (by omega), if_neg (by omega), if_pos c4]
      rw [e, show (C == 72) = false by simp [c1], show (C == 104) = true by simp [c4], w64 (x := P.1 + (tk s i).2.2.2) (by omega) (by omega)]
      rfl
    by_cases c2 : C = 86
    · have e : zA C P (tk s i).2.2.2 = some (P.1, (tk s i).2.2.2) := by unfold zA; rw [if_neg c1, if_pos c2]
      rw [e, show (C == 72) = false by simp [c1], show (C == 104) = false by simp [c4], show (C == 86) = true by simp [c2]]
      rfl
    by_cases c3 : C = 118
    · have e : zA C P (tk s i).2.2.2 = some (P.1, P.2 + (tk s i).2.2.2) := by unfold zA; rw [if_neg c1, if_neg c2, if_pos c3]
      rw [e, show (C == 72) = false by simp [c1], show (C == 104) = false by simp [c4], show (C == 86) = false by simp [c2], show (C == 118) = true by simp [c3], w64 (x := P.2 + (tk s i).2.2.2) (by omega) (by omega)]
      rfl
    have e : zA C P (tk s i).2.2.2 = none := by unfold zA; rw [if_neg c1, if_neg c2, if_neg c3, if_neg c4]
    rw [e, show (C == 72) = false by simp [c1], show (C == 104) = false by simp [c4], show (C == 86) = false by simp [c2], show (C == 118) = false by simp [c3]]
    rw [mark_eq s _ t3 hs]
    by_cases h2 : (tk s (tk s i).2.2.1).1 = 2
    · have hb2 : (((tk s (tk s i).2.2.1).1 : Int) != 2) = false := by rw [h2]; rfl
      have u6 := (u5 h2).2
      simp only [if_pos h2]
      by_cases c5 : C = 109 ∨ C = 108
      · rw [show ((C == 109) || (C == 108)) = true by simp [c5]]
        have e2 : zB C P (tk s i).2.2.2 (tk s (tk s i).2.2.1).2.2.2 = (P.1 + (tk s i).2.2.2, P.2 + (tk s (tk s i).2.2.1).2.2.2) := by
          unfold zB; rw [if_pos c5, Int.add_comm P.1, Int.add_comm P.2]
        rw [e2]
        simp only [letJ, cond_false, Option.bind_some, hb2, cond_true]
        rw [w64 (x := P.1 + (tk s i).2.2.2) (by omega) (by omega), w64 (x := P.2 + (tk s (tk s i).2.2.1).2.2.2) (by omega) (by omega)]
        rfl
      · rw [show ((C == 109) || (C == 108)) = false by simp; omega]
        have e2 : zB C P (tk s i).2.2.2 (tk s (tk s i).2.2.1).2.2.2 = ((tk s i).2.2.2, (tk s (tk s i).2.2.1).2.2.2) := by unfold zB; rw [if_neg c5]
        rw [e2]
        simp only [letJ, cond_false, Option.bind_some, hb2, cond_true]
        rfl
    · have hb2 : (((tk s (tk s i).2.2.1).1 : Int) != 2) = true := by simp; omega
      simp only [if_neg h2]
      simp only [letJ, cond_false, Option.bind_some, hb2, cond_true]
      rfl
  · have hb : (((tk s i).1 : Int) != 2) = true := by simp; omega
    dsimp only
    simp only [if_neg h]
    rw [hb, Bool.true_and, cond_true]
    by_cases hk : 0 < k
    · rw [decide_eq_true (by omega), cond_true, if_pos trivial, if_pos hk]
    · rw [decide_eq_false (by omega), cond_false, if_pos trivial, if_neg hk]
theorem rpart (a : Int) : F_lecternref10_part a = some (inB a) := rfl
theorem refJ_lim (C : Int) (rec : RfS → Option RfO) (g : List T_lecternref10_Stroke) (op : Bool) (N k : Nat) (nx pl X Y : Int) (hN : N ≤ 500) (h : (inB X && inB Y) = false ∨ N = 500) :
    refJ C rec g op (N : Int) (k : Int) nx pl X Y = some (.inr ([], pl, 5)) := by
  unfold refJ
  rw [rpart, rpart, Option.bind_some, w64 (x := (N : Int) + 1) (by omega) (by omega)]
  simp only [letJ, Option.bind_some]
  rcases h with h | h
  · cases hx : inB X with
    | false => rfl
    | true => rw [hx, Bool.true_and] at h; rw [h]; rfl
  · rw [decide_eq_true (p := (500 : Int) < (N : Int) + 1) (by omega)]
    cases inB X with
    | false => rfl
    | true => cases inB Y <;> rfl
theorem refJ_new (C : Int) (rec : RfS → Option RfO) (g : List T_lecternref10_Stroke) (op : Bool) (N : Nat) (nx pl X Y : Int) (hN : N < 500) (h : (inB X && inB Y) = true) (hC : C = 77 ∨ C = 109) (hg : g.length ≤ 500) :
    refJ C rec g op (N : Int) ((0 : Nat) : Int) nx pl X Y = rec (g ++ [⟨[⟨X, Y⟩], false⟩], X, Y, true, ((N + 1 : Nat) : Int), nx, ((0 + 1 : Nat) : Int)) := by
  unfold refJ
  rw [Bool.and_eq_true] at h
  rw [rpart, rpart, Option.bind_some, w64 (x := (N : Int) + 1) (by omega) (by omega)]
  simp only [letJ, Option.bind_some]
  rw [h.1, h.2, decide_eq_false (p := (500 : Int) < (N : Int) + 1) (by omega)]
  rw [show ((C == 77) || (C == 109)) = true by simp [hC]]
  rw [show ((((0 : Nat) : Int)) == 0) = true from rfl]
  simp only [Bool.not_true, Bool.or_false, cond_false, Bool.and_true, cond_true]
  rw [app_some (by simp; omega) (by simp; omega), Option.bind_some, wlen g _ (by omega), lst_app g _ _ rfl, Option.bind_some, app_some (by simp) (by simp), Option.bind_some, Option.bind_some, Int.toNat_natCast, set_app]
  rfl
theorem refJ_old (C : Int) (rec : RfS → Option RfO) (g : List T_lecternref10_Stroke) (y : T_lecternref10_Stroke) (op : Bool) (N k : Nat) (nx pl X Y : Int) (hN : N < 500) (h : (inB X && inB Y) = true) (hC : ¬ (k = 0 ∧ (C = 77 ∨ C = 109))) (hg : g.length ≤ 500) (hy : y.Spots.length ≤ 500) (hk : k ≤ 500) :
    refJ C rec (g ++ [y]) op (N : Int) (k : Int) nx pl X Y = rec (g ++ [⟨y.Spots ++ [⟨X, Y⟩], y.Closed⟩], X, Y, op, ((N + 1 : Nat) : Int), nx, ((k + 1 : Nat) : Int)) := by
  unfold refJ
  rw [Bool.and_eq_true] at h
  rw [rpart, rpart, Option.bind_some, w64 (x := (N : Int) + 1) (by omega) (by omega), w64 (x := (k : Int) + 1) (by omega) (by omega)]
  simp only [letJ, Option.bind_some]
  rw [h.1, h.2, decide_eq_false (p := (500 : Int) < (N : Int) + 1) (by omega)]
  rw [show (((C == 77) || (C == 109)) && ((k : Int) == 0)) = false by
    cases hb : (((C == 77) || (C == 109)) && ((k : Int) == 0)) with
    | false => rfl
    | true =>
      exfalso
      simp only [Bool.and_eq_true, Bool.or_eq_true, beq_iff_eq] at hb
      exact hC ⟨by omega, hb.1⟩]
  simp only [Bool.not_true, Bool.or_false, cond_false, Bool.and_true, cond_true]
  rw [wlen g _ (by omega), lst_app g _ _ rfl, Option.bind_some, app_some (by simp; omega) (by simp; omega), Option.bind_some, Option.bind_some, Int.toNat_natCast, set_app]
  rfl

/-! ## The inner loops -/
structure RdI (s : List UInt8) (L : FgW) (i N : Nat) (P : Int × Int) (f : List T_trace_Stroke) (pen : Nat × Nat) (op : Bool) : Prop where
  fr : FR f L
  tot : lens f = N
  lim : N ≤ 500
  pos : i ≤ s.length
  pen : Sp pen P
  inb : InB P
  opn : op = true → f ≠ []
theorem FR.last {f : List T_trace_Stroke} {L : FgW} (h : FR f L) (hne : f ≠ []) : ∃ m M x y, f = m ++ [x] ∧ L = M ++ [y] ∧ FR m M ∧ StR x y := by
  cases h with
  | nil => exact absurd rfl hne
  | snoc h hx => exact ⟨_, _, _, _, rfl, rfl, h, hx⟩
theorem FR.ne_map {f : List T_trace_Stroke} {L : FgW} (h : FR f L) : (L.map mkW).length = f.length := by rw [List.length_map, h.len]
theorem mkW_len (y : List (Int × Int) × Bool) : (mkW y).Spots.length = y.1.length := by simp [mkW]
theorem step_in (s : List UInt8) (hs : s.length ≤ 1048576) (c : UInt8) (C : Int) (hC : (c.toNat : Int) = C) (i0 : Nat) :
    ∀ (n m : Nat) (L : FgW) (i N k : Nat) (P : Int × Int) (f : List T_trace_Stroke) (pen : Nat × Nat) (op : Bool), RdI s L i N P f pen op → i0 ≤ i → k ≤ N → ((k = 0 ∧ (C = 77 ∨ C = 109)) ∨ f ≠ []) →
      s.length - i < n → s.length - i < m →
      ∃ o q, iter (F_trace_reader_spots_l0 C) n (s, (i : Int), f, pen, (N : Int), op, decide (k = 0)) = some o ∧ iter (F_lecternref10_Read_l1 s c) m (L.map mkW, P.1, P.2, op, (N : Int), (i : Int), (k : Int)) = some q ∧
        ((∃ L i N P f pen op, RdI s L i N P f pen op ∧ i0 ≤ i ∧ o = ((0, 0), ⟨s, (i : Int), f, pen, (N : Int), op⟩) ∧ q = .inl (L.map mkW, P.1, P.2, op, (N : Int), (i : Int))) ∨
         (∃ pl e r, e ≠ 0 ∧ o = ((pl, e), r) ∧ q = .inr ([], pl, e))) := by
  intro n m L i N k P f pen op hI h0 hk hn h1 h2
  have hh := iter_two (b := F_trace_reader_spots_l0 C) (c := F_lecternref10_Read_l1 s c) (fun x => s.length - x.2.1.toNat)
    (fun x y => ∃ (L : FgW) (i N k : Nat) (P : Int × Int) (f : List T_trace_Stroke) (pen : Nat × Nat) (op : Bool), RdI s L i N P f pen op ∧ i0 ≤ i ∧ k ≤ N ∧ ((k = 0 ∧ (C = 77 ∨ C = 109)) ∨ f ≠ []) ∧ x = (s, (i : Int), f, pen, (N : Int), op, decide (k = 0)) ∧ y = (L.map mkW, P.1, P.2, op, (N : Int), (i : Int), (k : Int)))
    (fun o q => (∃ L i N P f pen op, RdI s L i N P f pen op ∧ i0 ≤ i ∧ o = ((0, 0), ⟨s, (i : Int), f, pen, (N : Int), op⟩) ∧ q = .inl (L.map mkW, P.1, P.2, op, (N : Int), (i : Int))) ∨ (∃ pl e r, e ≠ 0 ∧ o = ((pl, e), r) ∧ q = .inr ([], pl, e)))
    ?_ n m (s, (i : Int), f, pen, (N : Int), op, decide (k = 0)) (L.map mkW, P.1, P.2, op, (N : Int), (i : Int), (k : Int)) ⟨L, i, N, k, P, f, pen, op, hI, h0, hk, hn, rfl, rfl⟩ (by simpa using h1) (by simpa using h2)
  · exact hh
  clear hI h0 hk hn h1 h2 L i N k P f pen op n m
  rintro _ _ ⟨L, i, N, k, P, f, pen, op, hI, h0, hk, hn, rfl, rfl⟩
  obtain ⟨fr, tot, lim, pos, hpen, inb, opn⟩ := hI
  obtain ⟨q1, q2, q3⟩ := spA_spec s i C P pos inb
  have href := fun rec => ref_body s c C hC rec (L.map mkW) P op N k i pos hs inb
  rcases spot_eq ⟨s, (i : Int), f, pen, (N : Int), op⟩ C i rfl pos hs hpen inb with ⟨k0, e⟩ | ⟨k1, r, e⟩ | ⟨k2, z, hz, e⟩
  · dsimp only at k0 e
    right
    by_cases hk0 : k = 0
    · subst hk0
      refine ⟨((((spA s i C P).2.1 : Int), 37), ⟨s, (i : Int), f, pen, (N : Int), op⟩), .inr ([], ((spA s i C P).2.1 : Int), 37), fun rec => ?_, fun rec => ?_, .inr ⟨_, _, _, by decide, rfl, rfl⟩⟩
      · unfold F_trace_reader_spots_l0
        dsimp only
        rw [e, Option.bind_some]
        dsimp only
        rw [show ((!false) && (decide (0 = 0) || decide (((spA s i C P).2.1 : Int) < 0))) = true by simp, cond_true, w64 (by omega) (by omega), if_neg (by omega)]
      · rw [href, if_pos k0, if_neg (by omega)]
    · refine ⟨((0, 0), ⟨s, (i : Int), f, pen, (N : Int), op⟩), .inl (L.map mkW, P.1, P.2, op, (N : Int), (i : Int)), fun rec => ?_, fun rec => ?_, .inl ⟨L, i, N, P, f, pen, op, ⟨fr, tot, lim, pos, hpen, inb, opn⟩, h0, rfl, rfl⟩⟩
      · unfold F_trace_reader_spots_l0
        dsimp only
        rw [e, Option.bind_some]
        dsimp only
        rw [show ((!false) && (decide (k = 0) || decide (((spA s i C P).2.1 : Int) < 0))) = false by simp; omega, cond_false]
        rfl
      · rw [href, if_pos k0, if_pos (by omega)]
  · dsimp only at k1 e
    right
    refine ⟨((((spA s i C P).2.1 : Int), 37), r), .inr ([], ((spA s i C P).2.1 : Int), 37), fun rec => ?_, fun rec => ?_, .inr ⟨_, _, _, by decide, rfl, rfl⟩⟩
    · unfold F_trace_reader_spots_l0
      dsimp only
      rw [e, Option.bind_some]
      dsimp only
      rw [show ((!false) && (decide (k = 0) || decide ((-1 : Int) - ((spA s i C P).2.1 : Int) < 0))) = true by simp; omega, cond_true, w64 (by omega) (by omega), if_pos (by omega)]
      rw [show (-1 : Int) - (-1 - ((spA s i C P).2.1 : Int)) = ((spA s i C P).2.1 : Int) by omega]
    · rw [href, if_neg (by omega), if_pos k1]
  · dsimp only at k2 hz e
    obtain ⟨q4, q5, q6⟩ := q3 k2
    have hsp := spot_I hz (by unfold Lil at q6; omega) (by unfold Lil at q6; omega)
    have hbody : ∀ rec, F_trace_reader_spots_l0 C rec (s, (i : Int), f, pen, (N : Int), op, decide (k = 0)) =
        if (inB (spA s i C P).2.2.2.1 && inB (spA s i C P).2.2.2.2) = false ∨ N = 500 then some ((((spA s i C P).2.1 : Int), 5), ⟨s, ((spA s i C P).2.2.1 : Int), f, pen, (N : Int), op⟩)
        else (letJ (fun v : (List T_trace_Stroke) × Bool => match v with
        | (a35, a37) =>
         (lst a35 (IntKind.wrap .i64 ((a35.length : Int) - (1 : Int)))).bind fun x46 =>
         (app 16 x46.Spots [z]).bind fun _ =>
         (some (List.set a35 (Int.toNat (IntKind.wrap .i64 ((a35.length : Int) - (1 : Int)))) (⟨(x46.Spots ++ [z]), x46.Closed⟩ : T_trace_Stroke))).bind fun a48 =>
        rec (s, ((spA s i C P).2.2.1 : Int), a48, z, ((N + 1 : Nat) : Int), a37, false)) fun J38 =>
       cond (decide (k = 0) && ((C == (77 : Int)) || (C == (109 : Int))))
        ((app 32 f [(⟨([] : List (Nat × Nat)), false⟩ : T_trace_Stroke)]).bind fun _ =>
         (some (f ++ [(⟨([] : List (Nat × Nat)), false⟩ : T_trace_Stroke)])).bind fun a45 =>
        J38 (a45, true))
        (J38 (f, op))) := by
      intro rec
      unfold F_trace_reader_spots_l0
      dsimp only
      rw [e, Option.bind_some]
      dsimp only
      rw [show ((!true) && (decide (k = 0) || decide (((spA s i C P).2.1 : Int) < 0))) = false by simp, cond_false, show (!true) = false from rfl, cond_false, hsp, Option.bind_some, w64 (x := (N : Int) + 1) (by omega) (by omega)]
      simp only [letJ]
      cases hb : (inB (spA s i C P).2.2.2.1 && inB (spA s i C P).2.2.2.2) with
      | false => rw [show (!false) = true from rfl, cond_true, cond_true, if_pos (.inl rfl)]
      | true =>
        rw [show (!true) = false from rfl, cond_false]
        by_cases h5 : N = 500
        · rw [show (((N : Int)) == 500) = true by simp; omega, cond_true, if_pos (.inr h5)]
        · rw [show (((N : Int)) == 500) = false by simp; omega, cond_false, if_neg (by simp [h5])]; rfl
    by_cases hl : (inB (spA s i C P).2.2.2.1 && inB (spA s i C P).2.2.2.2) = false ∨ N = 500
    · right
      refine ⟨_, .inr ([], ((spA s i C P).2.1 : Int), 5), fun rec => by rw [hbody, if_pos hl], fun rec => ?_, .inr ⟨_, _, _, by decide, rfl, rfl⟩⟩
      rw [href, if_neg (by omega), if_neg (by omega), refJ_lim _ _ _ _ _ _ _ _ _ _ lim hl]
    · left
      have hb : (inB (spA s i C P).2.2.2.1 && inB (spA s i C P).2.2.2.2) = true := by
        cases h : (inB (spA s i C P).2.2.2.1 && inB (spA s i C P).2.2.2.2) with
        | false => exact absurd (.inl h) hl
        | true => rfl
      have hN : N < 500 := by
        have : N ≠ 500 := fun h => hl (.inr h)
        omega
      have hib : InB (spA s i C P).2.2.2 := (inB_iff _).1 hb
      have hcnt := fr.cnt
      have hgl : (L.map mkW).length = f.length := fr.ne_map
      have hd0 : decide (k + 1 = 0) = false := by simp
      by_cases hnew : k = 0 ∧ (C = 77 ∨ C = 109)
      · obtain ⟨rfl, hM⟩ := hnew
        have hst : StR ⟨[z], false⟩ ([(spA s i C P).2.2.2], false) := by
          refine ⟨by simp, ?_, rfl⟩
          exact ⟨rfl, fun j g1 g2 => by
            have : j = 0 := by simp at g1; omega
            subst this; exact hz, fun p hp => by rw [List.mem_singleton] at hp; rw [hp]; exact hib⟩
        refine ⟨(s, ((spA s i C P).2.2.1 : Int), f ++ [⟨[z], false⟩], z, ((N + 1 : Nat) : Int), true, decide (0 + 1 = 0)), _, fun rec => ?_, fun rec => ?_, ⟨L ++ [([(spA s i C P).2.2.2], false)], (spA s i C P).2.2.1, N + 1, 0 + 1, (spA s i C P).2.2.2, f ++ [⟨[z], false⟩], z, true, ⟨.snoc fr hst, by rw [lens_app, lens_one, tot]; rfl, by omega, q5, hz, hib, fun _ => by simp⟩, by omega, by omega, .inr (by simp), rfl, rfl⟩, ?_⟩
        · rw [hbody, if_neg hl]
          rw [show (decide ((0 : Nat) = 0) && ((C == 77) || (C == 109))) = true by simp [hM]]
          simp only [letJ, cond_true]
          rw [app_some (by simp; omega) (by simp; omega), Option.bind_some, Option.bind_some, wlen f _ (by omega), lst_app f _ _ rfl, Option.bind_some, app_some (by simp) (by simp), Option.bind_some, Option.bind_some, Int.toNat_natCast, set_app]
          rfl
        · rw [href, if_neg (by omega), if_neg (by omega), refJ_new _ _ _ _ _ _ _ _ _ hN hb hM (by omega), List.map_append]
          rfl
        · dsimp only; omega
      · have hne : f ≠ [] := hn.resolve_left hnew
        obtain ⟨mm, M, x, y, rfl, rfl, hm, hst⟩ := fr.last hne
        have hxl : x.Spots.length ≤ N := by rw [← tot, lens_app, lens_one]; omega
        have hyl := hst.sp.len
        have hst' : StR ⟨x.Spots ++ [z], x.Closed⟩ (y.1 ++ [(spA s i C P).2.2.2], y.2) := ⟨by simp, hst.sp.snoc hz hib, hst.cl⟩
        rw [List.length_append, List.length_singleton] at hcnt
        rw [List.map_append, List.length_append, List.length_append] at hgl
        simp only [List.map_cons, List.map_nil, List.length_singleton] at hgl
        refine ⟨(s, ((spA s i C P).2.2.1 : Int), mm ++ [⟨x.Spots ++ [z], x.Closed⟩], z, ((N + 1 : Nat) : Int), op, decide (k + 1 = 0)), _, fun rec => ?_, fun rec => ?_, ⟨M ++ [(y.1 ++ [(spA s i C P).2.2.2], y.2)], (spA s i C P).2.2.1, N + 1, k + 1, (spA s i C P).2.2.2, mm ++ [⟨x.Spots ++ [z], x.Closed⟩], z, op, ⟨.snoc hm hst', by
              rw [lens_app, lens_one] at tot ⊢
              simp only [List.length_append, List.length_singleton]; omega, by omega, q5, hz, hib, fun _ => by simp⟩, by omega, by omega, .inr (by simp), rfl, rfl⟩, ?_⟩
        · rw [hbody, if_neg hl]
          rw [show (decide (k = 0) && ((C == 77) || (C == 109))) = false by
            cases hb : (decide (k = 0) && ((C == 77) || (C == 109))) with
            | false => rfl
            | true =>
              exfalso
              simp only [Bool.and_eq_true, Bool.or_eq_true, beq_iff_eq, decide_eq_true_eq] at hb
              exact hnew hb]
          simp only [letJ, cond_false]
          rw [wlen mm _ (by omega), lst_app mm _ _ rfl, Option.bind_some, app_some (by simp; omega) (by simp; omega), Option.bind_some, Option.bind_some, Int.toNat_natCast, set_app, hd0]
        · rw [href, if_neg (by omega), if_neg (by omega), List.map_append, List.map_cons, List.map_nil, refJ_old _ _ _ _ _ _ _ _ _ _ _ hN hb hnew (by omega) (by rw [mkW_len]; omega) (by omega), List.map_append]
          simp only [mkW, List.map_append, List.map_cons, List.map_nil]
        · dsimp only; omega

/-! ## The outer loops -/
/-- What both read. -/
theorem read_both (s : List UInt8) (hs : s.length ≤ 1048576) :
    (∃ f L, F_trace_Read s = some (f, 0, 0) ∧ F_lecternref10_Read s = some (L.map mkW, 0, 0) ∧ FR f L ∧ lens f ≤ 500) ∨
    (∃ pl e, e ≠ 0 ∧ F_trace_Read s = some ([], pl, e) ∧ F_lecternref10_Read s = some ([], pl, e)) := by
  have hh := iter_two (b := F_trace_Read_l0 s) (c := F_lecternref10_Read_l0 s) (fun x => s.length - x.2.1.toNat)
    (fun x y => ∃ (L : FgW) (i N : Nat) (P : Int × Int) (f : List T_trace_Stroke) (pen : Nat × Nat) (op : Bool), RdI s L i N P f pen op ∧ x = (s, (i : Int), f, pen, (N : Int), op) ∧ y = (L.map mkW, P.1, P.2, op, (N : Int), (i : Int)))
    (fun o q => (∃ f L, o = (f, 0, 0) ∧ q = (L.map mkW, 0, 0) ∧ FR f L ∧ lens f ≤ 500) ∨ (∃ pl e, e ≠ 0 ∧ o = ([], pl, e) ∧ q = ([], pl, e)))
    ?_ FUEL FUEL (s, (0 : Int), ([] : List T_trace_Stroke), ((0, 0) : Nat × Nat), (0 : Int), false) (([] : List T_lecternref10_Stroke), (0 : Int), (0 : Int), false, (0 : Int), (0 : Int)) ⟨[], 0, 0, (0, 0), [], (0, 0), false, ⟨.nil, rfl, by omega, by omega, ⟨zero_I, zero_I⟩, ⟨by decide, by decide, by decide, by decide⟩, by simp⟩, rfl, rfl⟩ (by unfold FUEL; dsimp only; omega) (by unfold FUEL; dsimp only; omega)
  · obtain ⟨o, q, e1, e2, h⟩ := hh
    unfold F_trace_Read F_lecternref10_Read
    dsimp only
    rw [e1, e2]
    rcases h with ⟨f, L, rfl, rfl, h1, h2⟩ | ⟨pl, e, h1, rfl, rfl⟩
    · exact .inl ⟨f, L, rfl, rfl, h1, h2⟩
    · exact .inr ⟨pl, e, h1, rfl, rfl⟩
  rintro _ _ ⟨L, i, N, P, f, pen, op, hI, rfl, rfl⟩
  obtain ⟨fr, tot, lim, pos, hpen, inb, opn⟩ := hI
  obtain ⟨t1, t2, t3, t4, _⟩ := tk_spec s i pos
  have hlook := look_eq ⟨s, (i : Int), f, pen, (N : Int), op⟩ i rfl pos hs
  have hmark := mark_eq s i pos hs
  dsimp only at hlook
  have hcnt := fr.cnt
  by_cases h0 : (tk s i).1 = 0
  · right
    refine ⟨(f, 0, 0), (L.map mkW, 0, 0), fun rec => ?_, fun rec => ?_, .inl ⟨f, L, rfl, rfl, fr, by omega⟩⟩
    · unfold F_trace_Read_l0
      dsimp only
      rw [hlook, Option.bind_some]
      dsimp only
      rw [show (((tk s i).1 : Int) == 0) = true by simp [h0], cond_true]
    · unfold F_lecternref10_Read_l0
      dsimp only
      rw [hmark, Option.bind_some]
      dsimp only
      rw [show (((tk s i).1 : Int) == 0) = true by simp [h0], cond_true]
  have b0 : (((tk s i).1 : Int) == 0) = false := by simp [h0]
  by_cases h1 : (tk s i).1 = 1
  case neg =>
    have b1 : (((tk s i).1 : Int) != 1) = true := by simp; omega
    right
    refine ⟨([], ((tk s i).2.1 : Int), 37), ([], ((tk s i).2.1 : Int), 37), fun rec => ?_, fun rec => ?_, .inr ⟨_, _, by decide, rfl, rfl⟩⟩
    · unfold F_trace_Read_l0
      dsimp only
      rw [hlook, Option.bind_some]
      dsimp only
      rw [b0, cond_false, b1, cond_true]
    · unfold F_lecternref10_Read_l0
      dsimp only
      rw [hmark, Option.bind_some]
      dsimp only
      rw [b0, cond_false, b1, cond_true]
  have b1 : (((tk s i).1 : Int) != 1) = false := by simp [h1]
  obtain ⟨t6, t7⟩ := t4 h1
  have hix := idx_some (l := s) t6
  generalize hc : s[(tk s i).2.1] = c at hix
  generalize hC : (c.toNat : Int) = C
  have hP : ∀ rec, F_trace_Read_l0 s rec (s, (i : Int), f, pen, (N : Int), op) =
     (letJ (fun v24 : Bool => cond v24
       (some (([] : List T_trace_Stroke), ((tk s i).2.1 : Int), (37 : Int)))
       (cond ((C == (90 : Int)) || (C == (122 : Int)))
        ((lst f (IntKind.wrap .i64 ((f.length : Int) - (1 : Int)))).bind fun x28 =>
         (idx x28.Spots (0 : Int)).bind fun x29 =>
         (some (List.set f (Int.toNat (IntKind.wrap .i64 ((f.length : Int) - (1 : Int)))) (⟨x28.Spots, true⟩ : T_trace_Stroke))).bind fun a30 =>
        rec (s, ((tk s i).2.2.1 : Int), a30, x29, (N : Int), false))
        ((F_trace_reader_spots (⟨s, ((tk s i).2.2.1 : Int), f, pen, (N : Int), op⟩ : T_trace_reader) C).bind fun x31 =>
        cond (x31.1.2 != (0 : Int))
         (some (([] : List T_trace_Stroke), x31.1.1, x31.1.2))
         (rec (x31.2.s, x31.2.at_, x31.2.f, x31.2.pen, x31.2.n, x31.2.open_))))) fun J23 => cond ((C != (77 : Int)) && (C != (109 : Int))) (J23 (!op)) (J23 false)) := by
    intro rec
    unfold F_trace_Read_l0
    dsimp only
    rw [hlook, Option.bind_some]
    dsimp only
    rw [b0, cond_false, b1, cond_false, hix, Option.bind_some, hC]
  have hR : ∀ rec, F_lecternref10_Read_l0 s rec (L.map mkW, P.1, P.2, op, (N : Int), (i : Int)) =
    cond ((!((C == (77 : Int)) || (C == (109 : Int)))) && (!op))
     (some (([] : List T_lecternref10_Stroke), ((tk s i).2.1 : Int), (37 : Int)))
     (cond ((C == (90 : Int)) || (C == (122 : Int)))
      ((lst (L.map mkW) (IntKind.wrap .i64 (((L.map mkW).length : Int) - (1 : Int)))).bind fun x26 =>
       (some (List.set (L.map mkW) (Int.toNat (IntKind.wrap .i64 (((L.map mkW).length : Int) - (1 : Int)))) (⟨x26.Spots, true⟩ : T_lecternref10_Stroke))).bind fun a27 =>
       (lst a27 (IntKind.wrap .i64 ((a27.length : Int) - (1 : Int)))).bind fun x28 =>
       (idx x28.Spots (0 : Int)).bind fun x29 =>
      rec (a27, x29.X, x29.Y, false, (N : Int), ((tk s i).2.2.1 : Int)))
      ((iter (F_lecternref10_Read_l1 s c) FUEL (L.map mkW, P.1, P.2, op, (N : Int), ((tk s i).2.2.1 : Int), (0 : Int))).bind fun o =>
      match o with
      | .inl o1 => rec o1
      | .inr o1 => some o1)) := by
    intro rec
    unfold F_lecternref10_Read_l0
    dsimp only
    rw [hmark, Option.bind_some]
    dsimp only
    rw [b0, cond_false, b1, cond_false, hix, Option.bind_some, hC]
    rfl
  by_cases hM : (C = 77 ∨ C = 109) ∨ op = true
  case neg =>
    have hop : op = false := by cases op with | false => rfl | true => exact absurd (.inr rfl) hM
    have hm1 : ¬ (C = 77 ∨ C = 109) := fun h => hM (.inl h)
    subst hop
    right
    refine ⟨([], ((tk s i).2.1 : Int), 37), ([], ((tk s i).2.1 : Int), 37), fun rec => ?_, fun rec => ?_, .inr ⟨_, _, by decide, rfl, rfl⟩⟩
    · rw [hP]
      simp only [letJ]
      rw [show ((C != 77) && (C != 109)) = true by simp; omega]; rfl
    · rw [hR, show ((!((C == (77 : Int)) || (C == (109 : Int)))) && (!false)) = true by simp; omega, cond_true]
  have hP2 : ∀ rec, F_trace_Read_l0 s rec (s, (i : Int), f, pen, (N : Int), op) =
       (cond ((C == (90 : Int)) || (C == (122 : Int)))
        ((lst f (IntKind.wrap .i64 ((f.length : Int) - (1 : Int)))).bind fun x28 =>
         (idx x28.Spots (0 : Int)).bind fun x29 =>
         (some (List.set f (Int.toNat (IntKind.wrap .i64 ((f.length : Int) - (1 : Int)))) (⟨x28.Spots, true⟩ : T_trace_Stroke))).bind fun a30 =>
        rec (s, ((tk s i).2.2.1 : Int), a30, x29, (N : Int), false))
        ((F_trace_reader_spots (⟨s, ((tk s i).2.2.1 : Int), f, pen, (N : Int), op⟩ : T_trace_reader) C).bind fun x31 =>
        cond (x31.1.2 != (0 : Int))
         (some (([] : List T_trace_Stroke), x31.1.1, x31.1.2))
         (rec (x31.2.s, x31.2.at_, x31.2.f, x31.2.pen, x31.2.n, x31.2.open_)))) := by
    intro rec
    rw [hP]
    simp only [letJ]
    by_cases hm1 : C = 77 ∨ C = 109
    · rw [show ((C != 77) && (C != 109)) = false by simp; omega, cond_false, cond_false]
    · rw [show ((C != 77) && (C != 109)) = true by simp; omega, cond_true, hM.resolve_left hm1, show (!true) = false from rfl, cond_false]
  have hR1 : ((!((C == (77 : Int)) || (C == (109 : Int)))) && (!op)) = false := by
    rcases hM with h | h
    · rw [show ((C == 77) || (C == 109)) = true by simp [h]]; rfl
    · rw [h]; simp
  by_cases hZ : C = 90 ∨ C = 122
  · have bZ : ((C == (90 : Int)) || (C == (122 : Int))) = true := by simp [hZ]
    have hop : op = true := hM.resolve_left (by omega)
    obtain ⟨mm, M, x, y, rfl, rfl, hm, hst⟩ := fr.last (opn hop)
    have hx0 : 0 < x.Spots.length := List.length_pos_iff.2 hst.ne
    have hy0 : 0 < y.1.length := by rw [← hst.sp.len]; exact hx0
    have hxl : x.Spots.length ≤ N := by rw [← tot, lens_app, lens_one]; omega
    rw [List.length_append, List.length_singleton] at hcnt
    have hMl := hm.len
    left
    have hst' : StR ⟨x.Spots, true⟩ (y.1, true) := ⟨hst.ne, hst.sp, rfl⟩
    refine ⟨(s, ((tk s i).2.2.1 : Int), mm ++ [⟨x.Spots, true⟩], x.Spots[0], (N : Int), false), _, fun rec => ?_, fun rec => ?_, ⟨M ++ [(y.1, true)], (tk s i).2.2.1, N, y.1[0], mm ++ [⟨x.Spots, true⟩], x.Spots[0], false, ⟨.snoc hm hst', by rw [← tot, lens_app, lens_app, lens_one, lens_one], lim, t3, hst.sp.sp 0 hx0 hy0, hst.sp.inb _ (List.getElem_mem _), by simp⟩, rfl, rfl⟩, ?_⟩
    · rw [hP2, bZ, cond_true, wlen mm _ (by omega), lst_app mm _ _ rfl, Option.bind_some, show (0 : Int) = ((0 : Nat) : Int) from rfl, idx_some hx0, Option.bind_some, Option.bind_some, Int.toNat_natCast, set_app]
    · have hgx : idx (mkW y).Spots ((0 : Nat) : Int) = some (⟨y.1[0].1, y.1[0].2⟩ : T_lecternref10_Spot) := by
        rw [idx_some (by rw [mkW_len]; exact hy0)]; simp [mkW]
      rw [hR, hR1, cond_false, bZ, cond_true, List.map_append, List.map_cons, List.map_nil, wlen (M.map mkW) _ (by rw [List.length_map]; omega), lst_app (M.map mkW) _ _ rfl, Option.bind_some, Option.bind_some, Int.toNat_natCast, set_app, wlen (M.map mkW) _ (by rw [List.length_map]; omega), lst_app (M.map mkW) _ _ rfl, Option.bind_some]
      dsimp only
      rw [show (0 : Int) = ((0 : Nat) : Int) from rfl, hgx, Option.bind_some, List.map_append]
      rfl
    · dsimp only; omega
  · have bZ : ((C == (90 : Int)) || (C == (122 : Int))) = false := by simp; omega
    have hn : (0 = 0 ∧ (C = 77 ∨ C = 109)) ∨ f ≠ [] := by
      rcases hM with h | h
      · exact .inl ⟨rfl, h⟩
      · exact .inr (opn h)
    obtain ⟨o, q, e1, e2, hres⟩ := step_in s hs c C hC (tk s i).2.2.1 FUEL FUEL L (tk s i).2.2.1 N 0 P f pen op ⟨fr, tot, lim, t3, hpen, inb, opn⟩ (Nat.le_refl _) (by omega) hn (by unfold FUEL; omega) (by unfold FUEL; omega)
    have e1' : F_trace_reader_spots (⟨s, ((tk s i).2.2.1 : Int), f, pen, (N : Int), op⟩ : T_trace_reader) C = some o := by
      unfold F_trace_reader_spots
      dsimp only
      rw [show true = decide ((0 : Nat) = 0) from rfl, e1]; rfl
    rcases hres with ⟨L', i', N', P', f', pen', op', hI', h0', rfl, rfl⟩ | ⟨pl, e, r, he, rfl, rfl⟩
    · left
      refine ⟨(s, (i' : Int), f', pen', (N' : Int), op'), (L'.map mkW, P'.1, P'.2, op', (N' : Int), (i' : Int)), fun rec => ?_, fun rec => ?_, ⟨L', i', N', P', f', pen', op', hI', rfl, rfl⟩, ?_⟩
      · rw [hP2, bZ, cond_false, e1', Option.bind_some]; rfl
      · rw [hR, hR1, cond_false, bZ, cond_false, show (0 : Int) = ((0 : Nat) : Int) from rfl, e2, Option.bind_some]
      · have := hI'.pos
        dsimp only; omega
    · right
      refine ⟨([], pl, e), ([], pl, e), fun rec => ?_, fun rec => ?_, .inr ⟨pl, e, he, rfl, rfl⟩⟩
      · rw [hP2, bZ, cond_false, e1', Option.bind_some]
        dsimp only
        rw [show (e != 0) = true by simpa using he, cond_true]
      · rw [hR, hR1, cond_false, bZ, cond_false, show (0 : Int) = ((0 : Nat) : Int) from rfl, e2, Option.bind_some]

/-! ## The law of what is read -/
theorem same_W {f : List T_trace_Stroke} {L : FgW} (h : FR f L) (hl : lens f ≤ 500) : F_lecternlaw10_same f (L.map mkW) = some true := by
  have hlen := h.len
  have hcnt := h.cnt
  have l0 : iter (F_lecternlaw10_same_l0 f (L.map mkW)) FUEL (0 : Int) = some (.inl ()) := by
    obtain ⟨o, h1, rfl⟩ := iter_spec (b := F_lecternlaw10_same_l0 f (L.map mkW)) (fun i x => x = (i : Int)) (fun o => o = .inl ()) f.length (x0 := (0 : Int)) rfl
      (fun i x rec hi hx => .inl ⟨((i + 1 : Nat) : Int), by
        subst hx
        have hi2 : i < L.length := by omega
        have hi3 : i < (L.map mkW).length := by rw [List.length_map]; exact hi2
        obtain ⟨s1, s2, s3⟩ := h.st i hi hi2
        have hle := lens_le f (i + 1)
        have hlt := lens_take f i hi
        have hsl : f[i].Spots.length ≤ 500 := by
          have : lens (f.take (i + 1)) ≤ lens f := hle
          omega
        have hgl : (mkW L[i]).Spots.length = f[i].Spots.length := by rw [mkW_len, s2.len]
        have l1 : iter (F_lecternlaw10_same_l1 (L.map mkW) (i : Int) f[i]) FUEL (0 : Int) = some (.inl ()) := by
          obtain ⟨o, h1, rfl⟩ := iter_spec (b := F_lecternlaw10_same_l1 (L.map mkW) (i : Int) f[i]) (fun j x => x = (j : Int)) (fun o => o = .inl ()) f[i].Spots.length (x0 := (0 : Int)) rfl
            (fun j x rec hj hx => .inl ⟨((j + 1 : Nat) : Int), by
              subst hx
              have hj2 : j < L[i].1.length := by rw [← s2.len]; exact hj
              have hsp := s2.sp j hj hj2
              have hin := s2.inb _ (List.getElem_mem hj2)
              have hb := (inB_iff _).2 hin
              obtain ⟨a1, a2, a3, a4⟩ := hin
              have hgx : idx (mkW L[i]).Spots (j : Int) = some (⟨L[i].1[j].1, L[i].1[j].2⟩ : T_lecternref10_Spot) := by
                rw [idx_some (by rw [mkW_len]; exact hj2)]; simp [mkW]
              unfold F_lecternlaw10_same_l1
              rw [decide_eq_true (by omega), cond_true, idx_some hj, Option.bind_some, from_I hsp (by omega) (by omega), if_pos hb, Option.bind_some]
              simp only [letJ]
              rw [show (!true) = false from rfl, cond_false, idx_some hi3, Option.bind_some, List.getElem_map, hgx, Option.bind_some]
              simp only [beq_self_eq_true, Bool.and_self, Bool.and_true, Bool.not_true, cond_false]
              rw [w64 (by omega) (by omega)]; rfl, rfl⟩)
            (fun x rec hx => ⟨_, by
              subst hx
              unfold F_lecternlaw10_same_l1
              rw [decide_eq_false (by omega), cond_false], rfl⟩) (n := FUEL) (by unfold FUEL; omega)
          exact h1
        unfold F_lecternlaw10_same_l0
        simp only [letJ]
        rw [decide_eq_true (by omega), cond_true]
        simp only [idx_some hi, idx_some hi3, Option.bind_some, List.getElem_map, l1, hgl]
        rw [show (f[i].Closed == (mkW L[i]).Closed) = true by rw [s3]; simp [mkW], show (!true) = false from rfl, cond_false, show (((f[i].Spots.length : Int)) != (f[i].Spots.length : Int)) = false by simp, cond_false, w64 (by omega) (by omega)]
        rfl, rfl⟩)
      (fun x rec hx => ⟨_, by
        subst hx
        unfold F_lecternlaw10_same_l0
        rw [decide_eq_false (by omega), cond_false], rfl⟩) (n := FUEL) (by unfold FUEL; omega)
    exact h1
  unfold F_lecternlaw10_same
  rw [show ((f.length : Int) != ((L.map mkW).length : Int)) = false by simp [hlen], cond_false]
  simp only [letJ, l0, Option.bind_some]
theorem traceReads (s : List UInt8) (hs : s.length ≤ 1048576) : F_lecternlaw10_TraceReads s = some true := by
  unfold F_lecternlaw10_TraceReads
  rw [awake_t]
  rcases read_both s hs with ⟨f, L, e1, e2, h1, h2⟩ | ⟨pl, e, he, e1, e2⟩
  · simp only [Option.bind_some, letJ, Bool.not_true, cond_false, e1, e2, beq_self_eq_true, Bool.and_self, cond_true, same_W h1 h2]
  · have h0 : F_lecternlaw10_same [] [] = some true := same_W .nil (by simp [lens])
    simp only [Option.bind_some, letJ, Bool.not_true, cond_false, e1, e2, beq_self_eq_true, Bool.and_self, cond_true, h0]
end Go.Proofs.YtocfjohangcajaaDoor
