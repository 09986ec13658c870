/- Characters and names: what the program's functions answer. No condition. -/
import Derived.Test.YtilhbalhkljanaaGreatDoorZ0
set_option linter.unusedSectionVars false
set_option linter.unusedSimpArgs false
set_option linter.unusedVariables false
set_option maxRecDepth 20000
set_option maxHeartbeats 1000000
namespace Go.Proofs.YtilhbalhkljanaaGreatDoor
open Go.Lib (decodeL decodeN)
open Go.Lib (decodeL decodeN)
section
variable {f : At → At → Option Int}
theorem Lw {P M Q : List At} {a b n : Int} : ∀ (A2 B2 A1 B1 : List At) (m : Nat), A2.length = B2.length → A1.length = B1.length → (P ++ ((B1 ++ A2) ++ (M ++ ((A1 ++ B2) ++ Q)))).length ≤ 1073741824 → a = (P.length : Int) → b = ((P.length + (A1.length + A2.length) + M.length : Nat) : Int) → n = ((A1.length + A2.length : Nat) : Int) → A2.length < m →
  iter (Bq a b n) m (P ++ ((B1 ++ A2) ++ (M ++ ((A1 ++ B2) ++ Q))), (A1.length : Int)) = some (P ++ ((B1 ++ B2) ++ (M ++ ((A1 ++ A2) ++ Q))))
 | _, _, _, _, 0, _, _, _, _, _, _, h => by omega
 | [], B2, A1, B1, m + 1, h1, h2, hl, ha, hb, hn, hm => by
  have : B2 = [] := List.length_eq_zero_iff.1 h1.symm
  subst this
  rw [Co]
  unfold Bq
  dsimp only
  rw [dF (by rw [hn]; simp), cF]
 | x :: A2, [], A1, B1, m + 1, h1, h2, hl, ha, hb, hn, hm => by simp at h1
 | x :: A2, y :: B2, A1, B1, m + 1, h1, h2, hl, ha, hb, hn, hm => by
  have ih := Lw (P := P) (M := M) (Q := Q) (a := a) (b := b) (n := n) A2 B2 (A1 ++ [x]) (B1 ++ [y]) m (by simpa using h1) (by simp [h2]) (by simp at hl ⊢; omega) ha (by rw [hb]; simp; omega) (by rw [hn]; simp; omega) (by simp at hm; omega)
  simp only [lA, lC, lN] at hl hm hb hn
  rw [Co]
  generalize hrec : iter (Bq a b n) m = rec at ih ⊢
  have w1 : IntKind.wrap .i64 (b + (A1.length : Int)) = b + (A1.length : Int) := w64 om om
  have w2 : IntKind.wrap .i64 (a + (A1.length : Int)) = a + (A1.length : Int) := w64 om om
  have w3 : IntKind.wrap .i64 ((A1.length : Int) + 1) = (A1.length : Int) + 1 := w64 om om
  have e9 : idx (P ++ ((B1 ++ x :: A2) ++ (M ++ ((A1 ++ y :: B2) ++ Q)))) (b + (A1.length : Int)) = some y := GT (U := P ++ ((B1 ++ x :: A2) ++ (M ++ A1))) (V := B2 ++ Q) (by simp) so
  have e10 : idx (P ++ ((B1 ++ x :: A2) ++ (M ++ ((A1 ++ y :: B2) ++ Q)))) (a + (A1.length : Int)) = some x := GT (U := P ++ B1) (V := A2 ++ (M ++ ((A1 ++ y :: B2) ++ Q))) (by simp) so
  have s1 : List.set (P ++ ((B1 ++ x :: A2) ++ (M ++ ((A1 ++ y :: B2) ++ Q)))) (Int.toNat (a + (A1.length : Int))) y = P ++ ((B1 ++ y :: A2) ++ (M ++ ((A1 ++ y :: B2) ++ Q))) := by
   rw [J0 (x := x) (U := P ++ B1) (V := A2 ++ (M ++ ((A1 ++ y :: B2) ++ Q))) y (by simp) so]; simp
  have e13 : idx (P ++ ((B1 ++ y :: A2) ++ (M ++ ((A1 ++ y :: B2) ++ Q)))) (b + (A1.length : Int)) = some y := GT (U := P ++ ((B1 ++ y :: A2) ++ (M ++ A1))) (V := B2 ++ Q) (by simp) so
  have s2 : List.set (P ++ ((B1 ++ y :: A2) ++ (M ++ ((A1 ++ y :: B2) ++ Q)))) (Int.toNat (b + (A1.length : Int))) x = P ++ (((B1 ++ [y]) ++ A2) ++ (M ++ (((A1 ++ [x]) ++ B2) ++ Q))) := by
   rw [J0 (x := y) (U := P ++ ((B1 ++ y :: A2) ++ (M ++ A1))) (V := B2 ++ Q) x (by simp) so]; simp
  unfold Bq
  dsimp only
  rw [dT om, cT, w1, w2, w3, e9, bS, e10, bS, bS, bS, s1, e13, bS, bS, s2]
  rw [show ((A1 ++ [x]).length : Int) = (A1.length : Int) + 1 by simp] at ih
  rw [ih]; simp
theorem Jh {P A M B Q : List At} {a b n : Int} (hAB : A.length = B.length) (hl : (P ++ (A ++ (M ++ (B ++ Q)))).length ≤ 1073741824) (ha : a = (P.length : Int)) (hb : b = ((P.length + A.length + M.length : Nat) : Int)) (hn : n = (A.length : Int)) :
  Bj (P ++ (A ++ (M ++ (B ++ Q)))) a b n f = some (P ++ (B ++ (M ++ (A ++ Q)))) := by
 have := Lw (P := P) (M := M) (Q := Q) (a := a) (b := b) (n := n) A B [] [] Ay hAB rfl (by simpa using hl) ha (by rw [hb]; simp) (by rw [hn]; simp) (by simp at hl; unfold Ay; omega)
 simp only [List.nil_append] at this
 unfold Bj
 rw [show (([] : List At).length : Int) = 0 from rfl] at this
 rw [this]; rfl
theorem Qa {m : Int} : ∀ (n : Nat) (P A B Q : List At), A.length + B.length ≤ n → 0 < A.length → 0 < B.length → (P ++ (A ++ (B ++ Q))).length ≤ 1073741824 → m = ((P.length + A.length : Nat) : Int) → ∀ K, n < K →
  ∃ P' A' B' Q', A'.length = B'.length ∧ 0 < A'.length ∧ P'.length + A'.length = P.length + A.length ∧ iter (BV m f) K (P ++ (A ++ (B ++ Q)), (A.length : Int), (B.length : Int)) = some (P' ++ (A' ++ (B' ++ Q')), (A'.length : Int)) ∧ P' ++ (B' ++ (A' ++ Q')) = P ++ (B ++ (A ++ Q))
 | 0, P, A, B, Q, h, h1, _, _, _, _, _ => by omega
 | n + 1, P, A, B, Q, h, h1, h2, hl, hm, K, hK => by
  obtain ⟨K, rfl⟩ : ∃ k, K = k + 1 := ⟨K - 1, by omega⟩
  have ih := fun P A B Q q1 q2 q3 q4 q5 => Qa (m := m) n P A B Q q1 q2 q3 q4 q5 K om
  have hl' := hl
  simp only [lA] at hl'
  rw [Co]
  generalize iter (BV m f) K = rec at ih ⊢
  have w1 : IntKind.wrap .i64 (m - (A.length : Int)) = m - (A.length : Int) := w64 om om
  have w2 : IntKind.wrap .i64 (m + (B.length : Int)) = m + (B.length : Int) := w64 om om
  have w3 : IntKind.wrap .i64 (m + (B.length : Int) - (A.length : Int)) = m + (B.length : Int) - (A.length : Int) := w64 om om
  have w4 : IntKind.wrap .i64 ((A.length : Int) - (B.length : Int)) = (A.length : Int) - (B.length : Int) := w64 om om
  have w5 : IntKind.wrap .i64 ((B.length : Int) - (A.length : Int)) = (B.length : Int) - (A.length : Int) := w64 om om
  unfold BV
  dsimp only
  by_cases hij : A.length = B.length
  ·refine ⟨P, A, B, Q, hij, h1, rfl, ?_, rfl⟩
   rw [show ((A.length : Int) != (B.length : Int)) = false by rw [hij]; simp, cF]
  ·rw [show ((A.length : Int) != (B.length : Int)) = true by simp; omega, cT]
   by_cases hlt : B.length < A.length
   ·obtain ⟨A1, A2, hA, hA1⟩ : ∃ A1 A2, A = A1 ++ A2 ∧ A1.length = B.length := ⟨A.take B.length, A.drop B.length, (List.take_append_drop _ _).symm, by rw [List.length_take]; omega⟩
    subst hA
    simp only [lA] at *
    have hs := Jh (f := f) (P := P) (A := A1) (M := A2) (B := B) (Q := Q) (a := m - ((A1.length + A2.length : Nat) : Int)) (b := m) (n := (B.length : Int)) hA1 so om (by rw [hm]; omega) om
    rw [dT om, cT, w1]
    simp only [List.append_assoc]
    rw [hs, bS, bS, H8 so, bS, w4]
    obtain ⟨P', A', B', Q', r1, r2, r3, r4, r5⟩ := ih (P ++ B) A2 A1 Q om om om so (by rw [hm]; simp; omega)
    refine ⟨P', A', B', Q', r1, r2, by rw [r3]; simp; omega, ?_, by rw [r5]; simp⟩
    rw [← r4]
    congr 1
    simp only [List.append_assoc]
    congr 2 <;> omega
   ·obtain ⟨B1, B2, hB, hB2⟩ : ∃ B1 B2, B = B1 ++ B2 ∧ B2.length = A.length := ⟨B.take (B.length - A.length), B.drop (B.length - A.length), (List.take_append_drop _ _).symm, by rw [lD]; omega⟩
    subst hB
    simp only [lA] at *
    have hs := Jh (f := f) (P := P) (A := A) (M := B1) (B := B2) (Q := Q) (a := m - (A.length : Int)) (b := m + ((B1.length + B2.length : Nat) : Int) - (A.length : Int)) (n := (A.length : Int)) hB2.symm so om (by rw [hm]; omega) rfl
    rw [dF om, cF, w1, w2, w3]
    simp only [List.append_assoc]
    rw [hs, bS, bS, H8 so, bS, w5]
    obtain ⟨P', A', B', Q', r1, r2, r3, r4, r5⟩ := ih P B2 B1 (A ++ Q) om om om so (by rw [hm]; omega)
    refine ⟨P', A', B', Q', r1, r2, by rw [r3]; omega, ?_, by rw [r5]⟩
    rw [← r4]
    congr 2
    congr 1 <;> omega
theorem Xy {P A B Q : List At} {a m b : Int} (h1 : 0 < A.length) (h2 : 0 < B.length) (hl : (P ++ (A ++ (B ++ Q))).length ≤ 1073741824) (ha : a = (P.length : Int)) (hm : m = ((P.length + A.length : Nat) : Int)) (hb : b = ((P.length + A.length + B.length : Nat) : Int)) :
  BS (P ++ (A ++ (B ++ Q))) a m b f = some (P ++ (B ++ (A ++ Q))) := by
 have hl' := hl
 simp only [lA] at hl'
 obtain ⟨P', A', B', Q', r1, r2, r3, r4, r5⟩ := Qa (f := f) (m := m) (A.length + B.length) P A B Q (Nat.le_refl _) h1 h2 hl hm Ay (by unfold Ay; omega)
 have hlen := congrArg List.length r5
 simp only [lA] at hlen
 have hs := Jh (f := f) (P := P') (A := A') (M := []) (B := B') (Q := Q') (a := m - (A'.length : Int)) (b := m) (n := (A'.length : Int)) r1 so om (by rw [hm]; simp; omega) rfl
 unfold BS
 simp only [Ar]
 rw [w64 (x := m - a) om om, w64 (x := b - m) om om, show m - a = (A.length : Int) by omega, show b - m = (B.length : Int) by omega, r4, bS]
 dsimp only
 rw [w64 (x := m - (A'.length : Int)) om om]
 rw [List.nil_append, List.nil_append] at hs
 rw [hs, bS, bS, H8 so, bS, r5]
structure Ordr (c : At → At → Int) (le : At → At → Prop) : Prop where
 c : ∀ x y, c x y < 0 ↔ ¬ le y x
 tr : ∀ {x y z}, le x y → le y z → le x z
 tot : ∀ x y, le x y ∨ le y x
variable {c : At → At → Int} {le : At → At → Prop} (O : Ordr c le) (hf : ∀ x y, f x y = some (c x y))
abbrev Srt (le : At → At → Prop) (l : List At) : Prop := List.Pairwise le l
include O in
theorem Ordr.lt {x y : At} (h : c x y < 0) : le x y := by
 rcases O.tot x y with h1 | h1
 ·exact h1
 ·exact absurd h1 ((O.c x y).1 h)
include O in
theorem Ordr.ge {x y : At} (h : ¬ c x y < 0) : le y x := Classical.byContradiction fun hn => h ((O.c x y).2 hn)
include O in
theorem Ordr.rf (x : At) : le x x := (O.tot x x).elim id id
include O in
theorem Y5 {Y : List At} (hS : Srt le Y) {i j : Nat} {x y : At} (hx : Y[i]? = some x) (hy : Y[j]? = some y) (hij : i ≤ j) : le x y := by
 obtain ⟨h1, rfl⟩ := List.getElem?_eq_some_iff.1 hx
 obtain ⟨h2, rfl⟩ := List.getElem?_eq_some_iff.1 hy
 rcases Nat.lt_or_ge i j with h | h
 ·exact List.pairwise_iff_getElem.1 hS i j h1 h2 h
 ·have : i = j := by omega
  subst this; exact O.rf _
include O in
theorem Nz {Y : List At} (hS : Srt le Y) {k : Nat} (hk : k ≤ Y.length) {x : At} (h : k = 0 ∨ ∀ y, Y[k - 1]? = some y → le y x) : ∀ y ∈ Y.take k, le y x := by
 intro y hy
 obtain ⟨i, hi⟩ := List.mem_iff_getElem?.1 hy
 have hik : i < k := by have := (List.getElem?_eq_some_iff.1 hi).1; rw [List.length_take] at this; omega
 rw [List.getElem?_take_of_lt hik] at hi
 rcases h with h | h
 ·omega
 ·have hk' : k - 1 < Y.length := by omega
  exact O.tr (Y5 O hS hi (List.getElem?_eq_getElem hk') om) (h _ (List.getElem?_eq_getElem hk'))
include O in
theorem Ns {Y : List At} (hS : Srt le Y) {k : Nat} {x : At} (h : k = Y.length ∨ ∀ y, Y[k]? = some y → le x y) : ∀ y ∈ Y.drop k, le x y := by
 intro y hy
 obtain ⟨i, hi⟩ := List.mem_iff_getElem?.1 hy
 rw [List.getElem?_drop] at hi
 have hil := (List.getElem?_eq_some_iff.1 hi).1
 rcases h with h | h
 ·omega
 ·have hk' : k < Y.length := by omega
  exact O.tr (h _ (List.getElem?_eq_getElem hk')) (Y5 O hS (List.getElem?_eq_getElem hk') hi om)
theorem Nk {X Y : List At} (hX : Srt le X) (hY : Srt le Y) (h : ∀ x ∈ X, ∀ y ∈ Y, le x y) : Srt le (X ++ Y) := List.pairwise_append.2 ⟨hX, hY, h⟩
theorem Sw {X : List At} (h : Srt le X) (k : Nat) : Srt le (X.take k) := h.sublist (List.take_sublist _ _)
theorem Rt {X : List At} (h : Srt le X) (k : Nat) : Srt le (X.drop k) := h.sublist (List.drop_sublist _ _)
include O hf in
theorem VU {P R : List At} : ∀ (n : Nat) (S1 S2 : List At) (x : At) (K : Nat), S1.length = n → (P ++ (S1 ++ x :: (S2 ++ R))).length ≤ 1073741824 → Srt le (S1 ++ S2) → (∀ y ∈ S2, le x y) → n < K →
  ∃ T, iter (AB (P.length : Int) f) K (P ++ (S1 ++ x :: (S2 ++ R)), ((P.length + S1.length : Nat) : Int)) = some (P ++ (T ++ R)) ∧ T.Perm (S1 ++ x :: S2) ∧ Srt le T := by
 intro n
 induction n with
 | zero =>
  intro S1 S2 x K h0 hl hS hx hK
  obtain ⟨K, rfl⟩ : ∃ k, K = k + 1 := ⟨K - 1, by omega⟩
  have : S1 = [] := List.length_eq_zero_iff.1 h0
  subst this
  refine ⟨x :: S2, ?_, List.Perm.refl _, List.pairwise_cons.2 ⟨hx, hS⟩⟩
  rw [Co]
  unfold AB
  dsimp only
  simp only [Ar]
  rw [dF (by simp), cF, cF]
  rfl
 | succ n ih =>
  intro S1 S2 x K h0 hl hS hx hK
  obtain ⟨K, rfl⟩ : ∃ k, K = k + 1 := ⟨K - 1, by omega⟩
  obtain ⟨S, y, rfl⟩ : ∃ S y, S1 = S ++ [y] := ⟨S1.dropLast, S1.getLast (by intro h; rw [h] at h0; simp at h0), (List.dropLast_concat_getLast _).symm⟩
  rw [lA, List.length_singleton] at h0
  have hl' := hl
  simp only [lA, lC, lN] at hl'
  have hlen : (S ++ [y]).length = n + 1 := by simp; omega
  rw [hlen]
  have w2 : IntKind.wrap .i64 (((P.length + (n + 1) : Nat) : Int) - 1) = ((P.length + n : Nat) : Int) := by rw [w64 om om]; omega
  have ex : idx (P ++ ((S ++ [y]) ++ x :: (S2 ++ R))) ((P.length + (n + 1) : Nat) : Int) = some x := GT (U := P ++ (S ++ [y])) (V := S2 ++ R) (by simp) so
  have ey : idx (P ++ ((S ++ [y]) ++ x :: (S2 ++ R))) ((P.length + n : Nat) : Int) = some y := GT (U := P ++ S) (V := x :: (S2 ++ R)) (by simp) so
  rw [Co]
  by_cases hz : c x y < 0
  ·have s1 : List.set (P ++ ((S ++ [y]) ++ x :: (S2 ++ R))) (Int.toNat ((P.length + (n + 1) : Nat) : Int)) y = P ++ ((S ++ [y]) ++ y :: (S2 ++ R)) := by
    rw [J0 (x := x) (U := P ++ (S ++ [y])) (V := S2 ++ R) y (by simp) so]; simp
   have eu : idx (P ++ ((S ++ [y]) ++ y :: (S2 ++ R))) ((P.length + n : Nat) : Int) = some y := GT (U := P ++ S) (V := y :: (S2 ++ R)) (by simp) so
   have s2 : List.set (P ++ ((S ++ [y]) ++ y :: (S2 ++ R))) (Int.toNat ((P.length + n : Nat) : Int)) x = P ++ (S ++ x :: ((y :: S2) ++ R)) := by
    rw [J0 (x := y) (U := P ++ S) (V := y :: (S2 ++ R)) x (by simp) so]; simp
   obtain ⟨T, t1, t2, t3⟩ := ih S (y :: S2) x K om so (by simpa using hS) (fun z hz' => by
    rcases List.mem_cons.1 hz' with rfl | hz'
    ·exact O.lt hz
    ·exact hx z hz') om
   refine ⟨T, ?_, t2.trans ?_, t3⟩
   ·rw [show S.length = n by omega] at t1
    rw [← t1]
    generalize iter (AB (P.length : Int) f) K = rec
    unfold AB
    dsimp only
    simp only [Ar]
    rw [dT om, cT, ex, bS, w2, ey, bS, hf, bS, dT hz, cT, bS, bS, bS, bS, s1, eu, bS, bS, s2]
   ·simp only [List.append_assoc, List.singleton_append]
    exact List.Perm.append_left _ (List.Perm.swap _ _ _)
  ·refine ⟨(S ++ [y]) ++ x :: S2, ?_, List.Perm.refl _, ?_⟩
   ·generalize iter (AB (P.length : Int) f) K = rec
    unfold AB
    dsimp only
    simp only [Ar]
    rw [dT om, cT, ex, bS, w2, ey, bS, hf, bS, dF hz, cF]
    simp
   ·obtain ⟨q1, q2, q3⟩ := List.pairwise_append.1 hS
    refine Nk q1 (List.pairwise_cons.2 ⟨hx, q2⟩) fun u hu v hv => ?_
    have huy : le u y := by
     rcases List.mem_append.1 hu with h | h
     ·exact (List.pairwise_append.1 q1).2.2 u h y (by simp)
     ·rw [List.mem_singleton.1 h]; exact O.rf y
    have hux := O.tr huy (O.ge hz)
    rcases List.mem_cons.1 hv with rfl | hv
    ·exact hux
    ·exact O.tr hux (hx v hv)
include O hf in
theorem W4 {P R : List At} {b : Int} : ∀ (S2 S1 : List At) (K : Nat), (P ++ (S1 ++ (S2 ++ R))).length ≤ 1073741824 → Srt le S1 → b = ((P.length + S1.length + S2.length : Nat) : Int) → S2.length < K →
  ∃ T, iter (AM (P.length : Int) b f) K (P ++ (S1 ++ (S2 ++ R)), ((P.length + S1.length : Nat) : Int)) = some (P ++ (T ++ R)) ∧ T.Perm (S1 ++ S2) ∧ Srt le T := by
 intro S2
 induction S2 with
 | nil =>
  intro S1 K hl hS hb hK
  obtain ⟨K, rfl⟩ : ∃ k, K = k + 1 := ⟨K - 1, by simp at hK; omega⟩
  refine ⟨S1, ?_, by simp, hS⟩
  rw [Co]
  unfold AM
  dsimp only
  rw [dF (by rw [hb]; simp), cF]; rfl
 | cons x S2 ih =>
  intro S1 K hl hS hb hK
  obtain ⟨K, rfl⟩ : ∃ k, K = k + 1 := ⟨K - 1, by simp at hK; omega⟩
  have hl' := hl
  simp only [lA, lC] at hl' hb hK
  obtain ⟨T, t1, t2, t3⟩ := VU (f := f) O hf (P := P) (R := S2 ++ R) S1.length S1 [] x Ay rfl so (by simpa using hS) (by simp) (by unfold Ay; omega)
  rw [List.nil_append] at t1
  have tl := t2.length_eq
  simp only [lA, lC, lN] at tl
  obtain ⟨U, u1, u2, u3⟩ := ih T K so t3 (by rw [hb]; omega) om
  refine ⟨U, ?_, u2.trans ((List.Perm.append_right _ t2).trans (by simp)), u3⟩
  rw [Co, ← u1]
  generalize iter (AM (P.length : Int) b f) K = rec
  unfold AM
  dsimp only
  simp only [Ar]
  rw [dT om, cT]
  have t1' : iter (AB (P.length : Int) f) Ay (P ++ (S1 ++ (x :: S2 ++ R)), ((P.length + S1.length : Nat) : Int)) = some (P ++ (T ++ (S2 ++ R))) := t1
  rw [t1', bS, w64 om om]
  congr 2
  omega
include O hf in
theorem KT {P S R : List At} {b : Int} (hl : (P ++ (S ++ R)).length ≤ 1073741824) (hb : b = ((P.length + S.length : Nat) : Int)) :
  ∃ T, Bm (P ++ (S ++ R)) (P.length : Int) b f = some (P ++ (T ++ R)) ∧ T.Perm S ∧ Srt le T := by
 have hl' := hl
 simp only [lA] at hl'
 unfold Bm
 rw [w64 om om]
 cases S with
 | nil =>
  refine ⟨[], ?_, List.Perm.refl _, List.Pairwise.nil⟩
  obtain ⟨k, hk⟩ : ∃ k, Ay = k + 1 := ⟨Ay - 1, by unfold Ay; omega⟩
  rw [hk, Co]
  unfold AM
  dsimp only
  rw [dF (by rw [hb]; simp; omega), cF]; rfl
 | cons x S =>
  obtain ⟨T, t1, t2, t3⟩ := W4 (f := f) O hf (P := P) (R := R) (b := b) S [x] Ay (by simpa using hl) (List.pairwise_singleton _ _) (by rw [hb]; simp; omega) (by simp at hl'; unfold Ay; omega)
  refine ⟨T, ?_, t2, t3⟩
  have t1' : iter (AM (P.length : Int) b f) Ay (P ++ (x :: S ++ R), ((P.length + 1 : Nat) : Int)) = some (P ++ (T ++ R)) := t1
  rw [show ((P.length : Int) + 1) = ((P.length + 1 : Nat) : Int) by omega, t1']; rfl
end
section
variable {f : At → At → Option Int} {c : At → At → Int} {le : At → At → Prop} (O : Ordr c le) (hf : ∀ x y, f x y = some (c x y))
include hf in
theorem aW {xs : List At} {a i j : Nat} {x : At} (hx : idx xs (a : Int) = some x) (hl : xs.length ≤ 1073741824) (h3 : i ≤ j) (h4 : j ≤ xs.length) : ∃ o : Nat, iter (AU xs (a : Int) f) Ay ((i : Int), (j : Int)) = some (o : Int) ∧ i ≤ o ∧ o ≤ j ∧ (o = i ∨ ∀ y, xs[o - 1]? = some y → c y x < 0) ∧ (o = j ∨ ∀ y, xs[o]? = some y → ¬ c y x < 0) := by
 obtain ⟨r, e, o, rfl, hr⟩ := DG (b := AU xs (a : Int) f) (fun s => (s.2 - s.1).toNat) (fun s => ∃ p q : Nat, s = ((p : Int), (q : Int)) ∧ i ≤ p ∧ p ≤ q ∧ q ≤ j ∧ (p = i ∨ ∀ y, xs[p - 1]? = some y → c y x < 0) ∧ (q = j ∨ ∀ y, xs[q]? = some y → ¬ c y x < 0))
  (fun r => ∃ o : Nat, r = (o : Int) ∧ i ≤ o ∧ o ≤ j ∧ (o = i ∨ ∀ y, xs[o - 1]? = some y → c y x < 0) ∧ (o = j ∨ ∀ y, xs[o]? = some y → ¬ c y x < 0)) (by
  rintro _ ⟨p, q, rfl, i1, i2, i3, i4, i5⟩
  have hh := LV (x := (p : Int) + (q : Int)) om om
  obtain ⟨m, hm⟩ : ∃ m : Nat, ((p : Int) + (q : Int)) / 2 = (m : Int) := ⟨(((p : Int) + (q : Int)) / 2).toNat, by omega⟩
  rw [hm] at hh
  by_cases hpq : p < q
  ·left
   have hmx : m < xs.length := by omega
   have ex : idx xs (m : Int) = some xs[m] := A6 hmx
   have w1 : IntKind.wrap .i64 ((m : Int) + 1) = ((m + 1 : Nat) : Int) := by rw [w64 om om]; omega
   by_cases hz : c xs[m] x < 0
   ·refine ⟨(((m + 1 : Nat) : Int), (q : Int)), fun rec => ?_, ⟨m + 1, q, rfl, by omega, by omega, i3, .inr fun y hy => by rw [Nat.add_sub_cancel, List.getElem?_eq_getElem hmx] at hy; rw [← sj hy]; exact hz, i5⟩, by dsimp only; omega⟩
    unfold AU
    dsimp only
    rw [dT om, cT, hh, ex, bS, hx, bS, hf, bS, w1, dT hz, cT]
   ·refine ⟨((p : Int), (m : Int)), fun rec => ?_, ⟨p, m, rfl, i1, by omega, by omega, i4, .inr fun y hy => by rw [List.getElem?_eq_getElem hmx] at hy; rw [← sj hy]; exact hz⟩, by dsimp only; omega⟩
    unfold AU
    dsimp only
    rw [dT om, cT, hh, ex, bS, hx, bS, hf, bS, w1, dF hz, cF]
  ·right
   have hpq' : p = q := by omega
   refine ⟨(p : Int), fun rec => ?_, p, rfl, i1, by omega, i4, by rw [hpq']; exact i5⟩
   unfold AU
   dsimp only
   rw [dF om, cF]) Ay ((i : Int), (j : Int)) ⟨i, j, rfl, Nat.le_refl _, h3, Nat.le_refl _, .inl rfl, .inl rfl⟩ (by unfold Ay; dsimp only; omega)
 exact ⟨o, e, hr⟩
include hf in
theorem ac {xs : List At} {a i j : Nat} {x : At} (hx : idx xs (a : Int) = some x) (hl : xs.length ≤ 1073741824) (h3 : i ≤ j) (h4 : j ≤ xs.length) : ∃ o : Nat, iter (AV xs (a : Int) f) Ay ((i : Int), (j : Int)) = some (o : Int) ∧ i ≤ o ∧ o ≤ j ∧ (o = i ∨ ∀ y, xs[o - 1]? = some y → ¬ c x y < 0) ∧ (o = j ∨ ∀ y, xs[o]? = some y → c x y < 0) := by
 obtain ⟨r, e, o, rfl, hr⟩ := DG (b := AV xs (a : Int) f) (fun s => (s.2 - s.1).toNat) (fun s => ∃ p q : Nat, s = ((p : Int), (q : Int)) ∧ i ≤ p ∧ p ≤ q ∧ q ≤ j ∧ (p = i ∨ ∀ y, xs[p - 1]? = some y → ¬ c x y < 0) ∧ (q = j ∨ ∀ y, xs[q]? = some y → c x y < 0))
  (fun r => ∃ o : Nat, r = (o : Int) ∧ i ≤ o ∧ o ≤ j ∧ (o = i ∨ ∀ y, xs[o - 1]? = some y → ¬ c x y < 0) ∧ (o = j ∨ ∀ y, xs[o]? = some y → c x y < 0)) (by
  rintro _ ⟨p, q, rfl, i1, i2, i3, i4, i5⟩
  have hh := LV (x := (p : Int) + (q : Int)) om om
  obtain ⟨m, hm⟩ : ∃ m : Nat, ((p : Int) + (q : Int)) / 2 = (m : Int) := ⟨(((p : Int) + (q : Int)) / 2).toNat, by omega⟩
  rw [hm] at hh
  by_cases hpq : p < q
  ·left
   have hmx : m < xs.length := by omega
   have ex : idx xs (m : Int) = some xs[m] := A6 hmx
   have w1 : IntKind.wrap .i64 ((m : Int) + 1) = ((m + 1 : Nat) : Int) := by rw [w64 om om]; omega
   by_cases hz : c x xs[m] < 0
   ·refine ⟨((p : Int), (m : Int)), fun rec => ?_, ⟨p, m, rfl, i1, by omega, by omega, i4, .inr fun y hy => by rw [List.getElem?_eq_getElem hmx] at hy; rw [← sj hy]; exact hz⟩, by dsimp only; omega⟩
    unfold AV
    dsimp only
    rw [dT om, cT, hh, hx, bS, ex, bS, hf, bS, w1, dT hz, bT, cF]
   ·refine ⟨(((m + 1 : Nat) : Int), (q : Int)), fun rec => ?_, ⟨m + 1, q, rfl, by omega, by omega, i3, .inr fun y hy => by rw [Nat.add_sub_cancel, List.getElem?_eq_getElem hmx] at hy; rw [← sj hy]; exact hz, i5⟩, by dsimp only; omega⟩
    unfold AV
    dsimp only
    rw [dT om, cT, hh, hx, bS, ex, bS, hf, bS, w1, dF hz, bF, cT]
  ·right
   have hpq' : p = q := by omega
   refine ⟨(p : Int), fun rec => ?_, p, rfl, i1, by omega, i4, by rw [hpq']; exact i5⟩
   unfold AV
   dsimp only
   rw [dF om, cF]) Ay ((i : Int), (j : Int)) ⟨i, j, rfl, Nat.le_refl _, h3, Nat.le_refl _, .inl rfl, .inl rfl⟩ (by unfold Ay; dsimp only; omega)
 exact ⟨o, e, hr⟩
include hf in
theorem VG {xs : List At} {a m b s0 r0 N : Nat} (hl : xs.length ≤ 1073741824) (hN : ((a : Int) + (b : Int)) / 2 + (m : Int) = (N : Int)) (hbl : b ≤ xs.length) (hal : a ≤ xs.length) (hml : m ≤ xs.length) (h1 : s0 ≤ r0) (h2 : r0 ≤ xs.length) (h3 : r0 ≤ N) (h4 : N - 1 - s0 < xs.length) (h5 : 0 < N) :
  ∃ o : Nat, iter (Bd xs (a : Int) (m : Int) (b : Int) f) Ay ((s0 : Int), (r0 : Int)) = some (o : Int) ∧ s0 ≤ o ∧ o ≤ r0 ∧ (o = s0 ∨ ∀ y z, xs[N - 1 - (o - 1)]? = some y → xs[o - 1]? = some z → ¬ c y z < 0) ∧ (o = r0 ∨ ∀ y z, xs[N - 1 - o]? = some y → xs[o]? = some z → c y z < 0) := by
 have hmid := LV (x := (a : Int) + (b : Int)) om om
 have w1 : IntKind.wrap .i64 (((a : Int) + (b : Int)) / 2 + (m : Int)) = (N : Int) := by rw [hN]; exact w64 om om
 have w2 : IntKind.wrap .i64 ((N : Int) - 1) = (N : Int) - 1 := w64 om om
 obtain ⟨r, e, o, rfl, hr⟩ := DG (b := Bd xs (a : Int) (m : Int) (b : Int) f) (fun s => (s.2 - s.1).toNat) (fun s => ∃ p q : Nat, s = ((p : Int), (q : Int)) ∧ s0 ≤ p ∧ p ≤ q ∧ q ≤ r0 ∧ (p = s0 ∨ ∀ y z, xs[N - 1 - (p - 1)]? = some y → xs[p - 1]? = some z → ¬ c y z < 0) ∧ (q = r0 ∨ ∀ y z, xs[N - 1 - q]? = some y → xs[q]? = some z → c y z < 0))
  (fun r => ∃ o : Nat, r = (o : Int) ∧ s0 ≤ o ∧ o ≤ r0 ∧ (o = s0 ∨ ∀ y z, xs[N - 1 - (o - 1)]? = some y → xs[o - 1]? = some z → ¬ c y z < 0) ∧ (o = r0 ∨ ∀ y z, xs[N - 1 - o]? = some y → xs[o]? = some z → c y z < 0)) (by
  rintro _ ⟨p, q, rfl, i1, i2, i3, i4, i5⟩
  have hh := LV (x := (p : Int) + (q : Int)) om om
  obtain ⟨k, hk⟩ : ∃ k : Nat, ((p : Int) + (q : Int)) / 2 = (k : Int) := ⟨(((p : Int) + (q : Int)) / 2).toNat, by omega⟩
  rw [hk] at hh
  by_cases hpq : p < q
  ·left
   have hkx : k < xs.length := by omega
   have hnx : N - 1 - k < xs.length := by omega
   have ex : idx xs (k : Int) = some xs[k] := A6 hkx
   have ey : idx xs ((N - 1 - k : Nat) : Int) = some xs[N - 1 - k] := A6 hnx
   have w4 : IntKind.wrap .i64 ((k : Int) + 1) = ((k + 1 : Nat) : Int) := by rw [w64 om om]; omega
   have w3 : IntKind.wrap .i64 ((N : Int) - 1 - (k : Int)) = ((N - 1 - k : Nat) : Int) := by rw [w64 om om]; omega
   by_cases hz : c xs[N - 1 - k] xs[k] < 0
   ·refine ⟨((p : Int), (k : Int)), fun rec => ?_, ⟨p, k, rfl, i1, by omega, by omega, i4, .inr fun y z hy hz' => by rw [List.getElem?_eq_getElem hnx] at hy; rw [List.getElem?_eq_getElem hkx] at hz'; rw [← sj hy, ← sj hz']; exact hz⟩, by dsimp only; omega⟩
    unfold Bd
    dsimp only
    rw [dT om, cT, hmid, hh, w1, w2, w3, ey, bS, ex, bS, hf, bS, w4, dT hz, bT, cF]
   ·refine ⟨(((k + 1 : Nat) : Int), (q : Int)), fun rec => ?_, ⟨k + 1, q, rfl, by omega, by omega, i3, .inr fun y z hy hz' => by rw [Nat.add_sub_cancel] at hy hz'; rw [List.getElem?_eq_getElem hnx] at hy; rw [List.getElem?_eq_getElem hkx] at hz'; rw [← sj hy, ← sj hz']; exact hz, i5⟩, by dsimp only; omega⟩
    unfold Bd
    dsimp only
    rw [dT om, cT, hmid, hh, w1, w2, w3, ey, bS, ex, bS, hf, bS, w4, dF hz, bF, cT]
  ·right
   have hpq' : p = q := by omega
   refine ⟨(p : Int), fun rec => ?_, p, rfl, i1, by omega, i4, by rw [hpq']; exact i5⟩
   unfold Bd
   dsimp only
   rw [dF om, cF]) Ay ((s0 : Int), (r0 : Int)) ⟨s0, r0, rfl, Nat.le_refl _, h1, Nat.le_refl _, .inl rfl, .inl rfl⟩ (by unfold Ay; dsimp only; omega)
 exact ⟨o, e, hr⟩
theorem bJ {P R : List At} {x : At} {i : Int} : ∀ (Y2 Y1 : List At) (K : Nat), (P ++ (Y1 ++ x :: (Y2 ++ R))).length ≤ 1073741824 → i = ((P.length + Y1.length + Y2.length + 1 : Nat) : Int) → Y2.length < K →
  iter (A9 i) K (P ++ (Y1 ++ x :: (Y2 ++ R)), ((P.length + Y1.length : Nat) : Int)) = some (P ++ (Y1 ++ (Y2 ++ x :: R)))
 | _, _, 0, _, _, h => by omega
 | [], Y1, K + 1, hl, hi, hK => by
  simp only [lA, lC, lN] at hl hi
  have w1 : IntKind.wrap .i64 (i - 1) = i - 1 := w64 om om
  rw [Co]
  unfold A9
  dsimp only
  rw [w1, dF om, cF]; rfl
 | y :: Y2, Y1, K + 1, hl, hi, hK => by
  have ih := bJ (P := P) (R := R) (x := x) (i := i) Y2 (Y1 ++ [y]) K (by simp at hl ⊢; omega) (by rw [hi]; simp; omega) (by simp at hK; omega)
  have hl' := hl
  simp only [lA, lC] at hl' hi
  have w1 : IntKind.wrap .i64 (i - 1) = i - 1 := w64 om om
  have w2 : IntKind.wrap .i64 (((P.length + Y1.length : Nat) : Int) + 1) = ((P.length + (Y1.length + 1) : Nat) : Int) := by rw [w64 om om]; omega
  have ex : idx (P ++ (Y1 ++ x :: (y :: Y2 ++ R))) ((P.length + (Y1.length + 1) : Nat) : Int) = some y := GT (U := P ++ (Y1 ++ [x])) (V := Y2 ++ R) (by simp) (by simp)
  have ey : idx (P ++ (Y1 ++ x :: (y :: Y2 ++ R))) ((P.length + Y1.length : Nat) : Int) = some x := GT (U := P ++ Y1) (V := y :: Y2 ++ R) (by simp) (by simp)
  have s1 : List.set (P ++ (Y1 ++ x :: (y :: Y2 ++ R))) (Int.toNat ((P.length + Y1.length : Nat) : Int)) y = P ++ (Y1 ++ y :: (y :: Y2 ++ R)) := by
   rw [J0 (x := x) (U := P ++ Y1) (V := y :: Y2 ++ R) y (by simp) so]; simp
  have ez : idx (P ++ (Y1 ++ y :: (y :: Y2 ++ R))) ((P.length + (Y1.length + 1) : Nat) : Int) = some y := GT (U := P ++ (Y1 ++ [y])) (V := Y2 ++ R) (by simp) (by simp)
  have s2 : List.set (P ++ (Y1 ++ y :: (y :: Y2 ++ R))) (Int.toNat ((P.length + (Y1.length + 1) : Nat) : Int)) x = P ++ ((Y1 ++ [y]) ++ x :: (Y2 ++ R)) := by
   rw [J0 (x := y) (U := P ++ (Y1 ++ [y])) (V := Y2 ++ R) x (by simp) so]; simp
  rw [Co]
  generalize iter (A9 i) K = rec at ih ⊢
  unfold A9
  dsimp only
  rw [w1, dT om, cT, w2, ex, bS, ey, bS, bS, bS, s1, ez, bS, bS, s2]
  rw [show (Y1 ++ [y]).length = Y1.length + 1 by simp] at ih
  rw [ih]; simp
theorem bM {P R : List At} {x : At} {i : Int} : ∀ (n : Nat) (X1 X2 : List At) (K : Nat), X1.length = n → (P ++ (X1 ++ x :: (X2 ++ R))).length ≤ 1073741824 → i = (P.length : Int) → n < K →
  iter (Bc i) K (P ++ (X1 ++ x :: (X2 ++ R)), ((P.length + n : Nat) : Int)) = some (P ++ (x :: (X1 ++ (X2 ++ R))))
 | _, _, _, 0, _, _, _, h => by omega
 | 0, X1, X2, K + 1, hn, hl, hi, hK => by
  have : X1 = [] := List.length_eq_zero_iff.1 hn
  subst this
  rw [Co]
  unfold Bc
  dsimp only
  rw [dF om, cF]; rfl
 | n + 1, X1, X2, K + 1, hn, hl, hi, hK => by
  obtain ⟨S, y, rfl⟩ : ∃ S y, X1 = S ++ [y] := ⟨X1.dropLast, X1.getLast (by intro h; rw [h] at hn; simp at hn), (List.dropLast_concat_getLast _).symm⟩
  rw [lA, List.length_singleton] at hn
  have ih := bM (P := P) (R := R) (x := x) (i := i) n S (y :: X2) K om (by simp at hl ⊢; omega) hi om
  have hl' := hl
  simp only [lA, lC, lN] at hl'
  have w2 : IntKind.wrap .i64 (((P.length + (n + 1) : Nat) : Int) - 1) = ((P.length + n : Nat) : Int) := by rw [w64 om om]; omega
  have ex : idx (P ++ ((S ++ [y]) ++ x :: (X2 ++ R))) ((P.length + n : Nat) : Int) = some y := GT (U := P ++ S) (V := x :: (X2 ++ R)) (by simp) so
  have ey : idx (P ++ ((S ++ [y]) ++ x :: (X2 ++ R))) ((P.length + (n + 1) : Nat) : Int) = some x := GT (U := P ++ (S ++ [y])) (V := X2 ++ R) (by simp) so
  have s1 : List.set (P ++ ((S ++ [y]) ++ x :: (X2 ++ R))) (Int.toNat ((P.length + (n + 1) : Nat) : Int)) y = P ++ ((S ++ [y]) ++ y :: (X2 ++ R)) := by
   rw [J0 (x := x) (U := P ++ (S ++ [y])) (V := X2 ++ R) y (by simp) so]; simp
  have ez : idx (P ++ ((S ++ [y]) ++ y :: (X2 ++ R))) ((P.length + n : Nat) : Int) = some y := GT (U := P ++ S) (V := y :: (X2 ++ R)) (by simp) so
  have s2 : List.set (P ++ ((S ++ [y]) ++ y :: (X2 ++ R))) (Int.toNat ((P.length + n : Nat) : Int)) x = P ++ (S ++ x :: ((y :: X2) ++ R)) := by
   rw [J0 (x := y) (U := P ++ S) (V := y :: (X2 ++ R)) x (by simp) so]; simp
  rw [Co]
  generalize iter (Bc i) K = rec at ih ⊢
  unfold Bc
  dsimp only
  rw [dT om, cT, w2, ex, bS, ey, bS, bS, bS, s1, ez, bS, bS, s2, ih]
  simp
end
abbrev Ri := List At × Int × Int × Int × (At → At → Option Int) → Option (List At)
def MX (rec0 : Ri) (f : At → At → Option Int) (a m b : Int) (k : List At → Option (List At)) (l : List At) : Option (List At) :=
 cond ((decide (a < m)) && (decide (m < b))) ((rec0 (l, a, m, b, f)).bind fun x => (some x).bind fun y => (eqL y l).bind fun _ => k y) (k l)
def bj (f : At → At → Option Int) (a m b : Int) (k : List At → Option (List At)) (l : List At) : Option (List At) :=
 cond ((decide (a < m)) && (decide (m < b))) ((BS l a m b f).bind fun x => (some x).bind fun y => (eqL y l).bind fun _ => k y) (k l)
theorem eQ {P X R : List At} {k : Nat} (h : k < X.length) : (P ++ (X ++ R))[P.length + k]? = X[k]? := by
 rw [List.getElem?_append_right om, Nat.add_sub_cancel_left, List.getElem?_append_left h]
theorem fu {P X Y R : List At} {k : Nat} (h : k < Y.length) : (P ++ (X ++ (Y ++ R)))[P.length + X.length + k]? = Y[k]? := by
 rw [← List.append_assoc, List.getElem?_append_right (by simp <;> omega), List.getElem?_append_left (by simp <;> omega)]
 congr 1; simp
section
variable {f : At → At → Option Int} {c : At → At → Int} {le : At → At → Prop} (O : Ordr c le) (hf : ∀ x y, f x y = some (c x y))
theorem aS {P A B Q : List At} {a m b : Int} (hl : (P ++ (A ++ (B ++ Q))).length ≤ 1073741824) (ha : a = (P.length : Int)) (hm : m = ((P.length + A.length : Nat) : Int)) (hb : b = ((P.length + A.length + B.length : Nat) : Int)) (k : List At → Option (List At)) :
  bj f a m b k (P ++ (A ++ (B ++ Q))) = k (P ++ (B ++ (A ++ Q))) := by
 unfold bj
 by_cases h1 : 0 < A.length
 ·by_cases h2 : 0 < B.length
  ·rw [dT om, dT om, Bool.and_self, cT, Xy h1 h2 hl ha hm hb, bS, bS, H8 so, bS]
  ·have : B = [] := List.length_eq_zero_iff.1 om
   subst this
   rw [dF (p := m < b) (by simp at hb; omega), Bool.and_false, cF]; rfl
 ·have : A = [] := List.length_eq_zero_iff.1 om
  subst this
  rw [dF (p := a < m) (by simp at hm; omega), Bool.false_and, cF]; rfl
def UG (f : At → At → Option Int) (le : At → At → Prop) (K : Nat) (rec0 : Ri) : Prop := ∀ (P X Y Q : List At) (a m b : Int), 0 < X.length → 0 < Y.length → Srt le X → Srt le Y → (P ++ (X ++ (Y ++ Q))).length ≤ 1073741824 → a = (P.length : Int) → m = ((P.length + X.length : Nat) : Int) → b = ((P.length + X.length + Y.length : Nat) : Int) → X.length + Y.length < K →
 ∃ Z, rec0 (P ++ (X ++ (Y ++ Q)), a, m, b, f) = some (P ++ (Z ++ Q)) ∧ Z.Perm (X ++ Y) ∧ Srt le Z
theorem Sx {rec0 : Ri} {K : Nat} (ih : UG f le K rec0) {P X Y Q : List At} {a m b : Int} (hX : Srt le X) (hY : Srt le Y) (hl : (P ++ (X ++ (Y ++ Q))).length ≤ 1073741824) (ha : a = (P.length : Int)) (hm : m = ((P.length + X.length : Nat) : Int)) (hb : b = ((P.length + X.length + Y.length : Nat) : Int)) (hK : X.length + Y.length < K) :
  ∃ Z, (∀ k, MX rec0 f a m b k (P ++ (X ++ (Y ++ Q))) = k (P ++ (Z ++ Q))) ∧ Z.Perm (X ++ Y) ∧ Srt le Z := by
 unfold MX
 by_cases h1 : 0 < X.length
 ·by_cases h2 : 0 < Y.length
  ·obtain ⟨Z, z1, z2, z3⟩ := ih P X Y Q a m b h1 h2 hX hY hl ha hm hb hK
   have zl := z2.length_eq
   simp only [lA] at zl
   refine ⟨Z, fun k => ?_, z2, z3⟩
   rw [dT om, dT om, Bool.and_self, cT, z1, bS, bS, H8 so, bS]
  ·have : Y = [] := List.length_eq_zero_iff.1 om
   subst this
   refine ⟨X, fun k => ?_, by simp, hX⟩
   rw [dF (p := m < b) (by simp at hb; omega), Bool.and_false, cF]; rfl
 ·have : X = [] := List.length_eq_zero_iff.1 om
  subst this
  refine ⟨Y, fun k => ?_, by simp, hY⟩
  rw [dF (p := a < m) (by simp at hm; omega), Bool.false_and, cF]; rfl
theorem XY {rec0 : Ri} {K : Nat} (ih : UG f le K rec0) {P X1 X2 Y1 Y2 Q : List At} (hX : Srt le (X1 ++ X2)) (hY : Srt le (Y1 ++ Y2)) (h12 : ∀ u ∈ X1, ∀ v ∈ Y2, le u v) (h21 : ∀ u ∈ Y1, ∀ v ∈ X2, le u v)
  {a s M m e b : Int} (hl : (P ++ ((X1 ++ X2) ++ ((Y1 ++ Y2) ++ Q))).length ≤ 1073741824) (ha : a = (P.length : Int)) (hs : s = ((P.length + X1.length : Nat) : Int)) (hM : M = ((P.length + X1.length + Y1.length : Nat) : Int)) (hm : m = ((P.length + X1.length + X2.length : Nat) : Int)) (he : e = ((P.length + X1.length + X2.length + Y1.length : Nat) : Int)) (hb : b = ((P.length + X1.length + X2.length + Y1.length + Y2.length : Nat) : Int)) (hK1 : X1.length + Y1.length < K) (hK2 : X2.length + Y2.length < K) :
  ∃ Z, bj f s m e (MX rec0 f a s M (MX rec0 f M e b some)) (P ++ ((X1 ++ X2) ++ ((Y1 ++ Y2) ++ Q))) = some (P ++ (Z ++ Q)) ∧ Z.Perm ((X1 ++ X2) ++ (Y1 ++ Y2)) ∧ Srt le Z := by
 have hl' := hl
 simp only [lA] at hl'
 obtain ⟨x1, x2, x3⟩ := List.pairwise_append.1 hX
 obtain ⟨y1, y2, y3⟩ := List.pairwise_append.1 hY
 obtain ⟨Z1, z1, z2, z3⟩ := Sx ih (P := P) (X := X1) (Y := Y1) (Q := X2 ++ (Y2 ++ Q)) (a := a) (m := s) (b := M) x1 y1 so ha hs hM hK1
 have zl := z2.length_eq
 simp only [lA] at zl
 obtain ⟨Z2, w1, w2, w3⟩ := Sx ih (P := P ++ Z1) (X := X2) (Y := Y2) (Q := Q) (a := M) (m := e) (b := b) x2 y2 so (by rw [hM]; simp; omega) (by rw [he]; simp; omega) (by rw [hb]; simp; omega) hK2
 refine ⟨Z1 ++ Z2, ?_, ?_, ?_⟩
 ·have hr := aS (f := f) (P := P ++ X1) (A := X2) (B := Y1) (Q := Y2 ++ Q) (a := s) (m := m) (b := e) so (by rw [hs]; simp) (by rw [hm]; simp) (by rw [he]; simp) (MX rec0 f a s M (MX rec0 f M e b some))
  simp only [List.append_assoc] at hr z1 w1 ⊢
  rw [hr, z1, w1]
 ·refine (z2.append w2).trans ?_
  simp only [List.append_assoc]
  refine List.Perm.append_left _ ?_
  rw [← List.append_assoc, ← List.append_assoc]
  exact List.Perm.append_right _ List.perm_append_comm
 ·refine Nk z3 w3 fun u hu v hv => ?_
  have hu := z2.mem_iff.1 hu
  have hv := w2.mem_iff.1 hv
  rcases List.mem_append.1 hu with hu | hu <;> rcases List.mem_append.1 hv with hv | hv
  ·exact x3 u hu v hv
  ·exact h12 u hu v hv
  ·exact h21 u hu v hv
  ·exact y3 u hu v hv
include O hf in
theorem ZK {P Y Q : List At} {x : At} {a m b : Int} (hY : Srt le Y) (hl : (P ++ (x :: (Y ++ Q))).length ≤ 1073741824) (ha : a = (P.length : Int)) (hm : m = ((P.length + 1 : Nat) : Int)) (hb : b = ((P.length + 1 + Y.length : Nat) : Int)) :
  ∃ (Z : List At) (o : Int), iter (AU (P ++ (x :: (Y ++ Q))) a f) Ay (m, b) = some o ∧ iter (A9 o) Ay (P ++ (x :: (Y ++ Q)), a) = some (P ++ (Z ++ Q)) ∧ Z.Perm (x :: Y) ∧ Srt le Z := by
 have hl' := hl
 simp only [lA, lC] at hl'
 subst ha hm hb
 obtain ⟨o, e, o1, o2, o3, o4⟩ := aW (f := f) hf (xs := P ++ (x :: (Y ++ Q))) (a := P.length) (i := P.length + 1) (j := P.length + 1 + Y.length) (x := x) (GT (U := P) (V := Y ++ Q) rfl rfl) hl om so
 obtain ⟨k, rfl⟩ : ∃ k, o = P.length + 1 + k := ⟨o - (P.length + 1), by omega⟩
 have hk : k ≤ Y.length := by omega
 have hrow : ∀ t, t < Y.length → (P ++ (x :: (Y ++ Q)))[P.length + 1 + t]? = Y[t]? := fun t ht => fu (P := P) (X := [x]) (Y := Y) (R := Q) ht
 have p1 : ∀ y ∈ Y.take k, le y x := Nz O hY hk (by
  by_cases h0 : k = 0
  ·exact .inl h0
  ·right
   intro y hy
   rcases o3 with o3 | o3
   ·omega
   ·exact O.lt (o3 y (by rw [show P.length + 1 + k - 1 = P.length + 1 + (k - 1) by omega, hrow _ om]; exact hy)))
 have p2 : ∀ y ∈ Y.drop k, le x y := Ns O hY (by
  by_cases h0 : k = Y.length
  ·exact .inl h0
  ·right
   intro y hy
   rcases o4 with o4 | o4
   ·omega
   ·exact O.ge (o4 y (by rw [hrow _ om]; exact hy)))
 have hg := bJ (P := P) (R := Y.drop k ++ Q) (x := x) (i := ((P.length + 1 + k : Nat) : Int)) (Y.take k) [] Ay so (by rw [List.length_take]; simp; omega) (by rw [List.length_take]; unfold Ay; omega)
 have hsp : Y.take k ++ (Y.drop k ++ Q) = Y ++ Q := by rw [← List.append_assoc, List.take_append_drop]
 rw [hsp] at hg
 refine ⟨Y.take k ++ x :: Y.drop k, _, e, by simpa using hg, ?_, ?_⟩
 ·refine List.perm_middle.trans ?_
  rw [List.take_append_drop]
 ·refine Nk (Sw hY k) (List.pairwise_cons.2 ⟨p2, Rt hY k⟩) fun u hu v hv => ?_
  rcases List.mem_cons.1 hv with rfl | hv
  ·exact p1 u hu
  ·exact O.tr (p1 u hu) (p2 v hv)
include O hf in
theorem WK {P X Q : List At} {y : At} {a m : Int} (hX : Srt le X) (hl : (P ++ (X ++ (y :: Q))).length ≤ 1073741824) (ha : a = (P.length : Int)) (hm : m = ((P.length + X.length : Nat) : Int)) :
  ∃ (Z : List At) (o : Int), iter (AV (P ++ (X ++ (y :: Q))) m f) Ay (a, m) = some o ∧ iter (Bc o) Ay (P ++ (X ++ (y :: Q)), m) = some (P ++ (Z ++ Q)) ∧ Z.Perm (X ++ [y]) ∧ Srt le Z := by
 have hl' := hl
 simp only [lA, lC] at hl'
 subst ha hm
 obtain ⟨o, e, o1, o2, o3, o4⟩ := ac (f := f) hf (xs := P ++ (X ++ (y :: Q))) (a := P.length + X.length) (i := P.length) (j := P.length + X.length) (x := y) (GT (U := P ++ X) (V := Q) (by simp) (by simp)) hl om (by simp <;> omega)
 obtain ⟨k, rfl⟩ : ∃ k, o = P.length + k := ⟨o - P.length, by omega⟩
 have hk : k ≤ X.length := by omega
 have hrow : ∀ t, t < X.length → (P ++ (X ++ (y :: Q)))[P.length + t]? = X[t]? := fun t ht => eQ ht
 have p1 : ∀ u ∈ X.take k, le u y := Nz O hX hk (by
  by_cases h0 : k = 0
  ·exact .inl h0
  ·right
   intro u hu
   rcases o3 with o3 | o3
   ·omega
   ·exact O.ge (o3 u (by rw [show P.length + k - 1 = P.length + (k - 1) by omega, hrow _ om]; exact hu)))
 have p2 : ∀ u ∈ X.drop k, le y u := Ns O hX (by
  by_cases h0 : k = X.length
  ·exact .inl h0
  ·right
   intro u hu
   rcases o4 with o4 | o4
   ·omega
   ·exact O.lt (o4 u (by rw [hrow _ om]; exact hu)))
 have hg := bM (P := P ++ X.take k) (R := Q) (x := y) (i := ((P.length + k : Nat) : Int)) (X.length - k) (X.drop k) [] Ay (by rw [lD]) so (by rw [lA, List.length_take]; omega) (by unfold Ay; omega)
 have hsp : X.take k ++ (X.drop k ++ y :: Q) = X ++ y :: Q := by rw [← List.append_assoc, List.take_append_drop]
 rw [show ((P ++ X.take k).length + (X.length - k)) = P.length + X.length by rw [lA, List.length_take]; omega] at hg
 simp only [List.append_assoc, List.nil_append] at hg
 rw [hsp] at hg
 refine ⟨X.take k ++ y :: X.drop k, _, e, by simpa using hg, ?_, ?_⟩
 ·refine List.perm_middle.trans ?_
  rw [List.take_append_drop]
  exact (List.perm_append_singleton y X).symm
 ·refine Nk (Sw hX k) (List.pairwise_cons.2 ⟨p2, Rt hX k⟩) fun u hu v hv => ?_
  rcases List.mem_cons.1 hv with rfl | hv
  ·exact p1 u hu
  ·exact O.tr (p1 u hu) (p2 v hv)
include O hf in
theorem LE : ∀ K : Nat, UG f le K (iter AG K)
 | 0 => fun _ _ _ _ _ _ _ _ _ _ _ _ _ _ _ h => by omega
 | K + 1 => fun P X Y Q a m b h1 h2 hX hY hl ha hm hb hK => by
  have ih := LE K
  have hl' := hl
  simp only [lA] at hl'
  rw [Co]
  generalize iter AG K = rec0 at ih ⊢
  unfold AG
  dsimp only
  simp only [Ar]
  have w1 : IntKind.wrap .i64 (m - a) = m - a := w64 om om
  have w2 : IntKind.wrap .i64 (b - m) = b - m := w64 om om
  rw [w1, w2]
  by_cases c1 : m - a = 1
  ·obtain ⟨x, rfl⟩ : ∃ x, X = [x] := List.length_eq_one_iff.1 om
   rw [show ((m - a) == 1) = true by simpa using c1, cT]
   obtain ⟨Z, o, e1, e2, e3, e4⟩ := ZK (f := f) O hf (P := P) (Y := Y) (Q := Q) (x := x) (a := a) (m := m) (b := b) hY hl ha hm hb
   refine ⟨Z, ?_, e3, e4⟩
   simp only [List.singleton_append] at *
   rw [e1, bS, e2, bS]
  rw [show ((m - a) == 1) = false by simpa using c1, cF]
  by_cases c2 : b - m = 1
  ·obtain ⟨y, rfl⟩ : ∃ y, Y = [y] := List.length_eq_one_iff.1 om
   rw [show ((b - m) == 1) = true by simpa using c2, cT]
   obtain ⟨Z, o, e1, e2, e3, e4⟩ := WK (f := f) O hf (P := P) (X := X) (Q := Q) (y := y) (a := a) (m := m) hX hl ha hm
   refine ⟨Z, ?_, e3, e4⟩
   simp only [List.singleton_append] at *
   rw [e1, bS, e2, bS]
  rw [show ((b - m) == 1) = false by simpa using c2, cF]
  have hmid := LV (x := a + b) om om
  rw [hmid]
  obtain ⟨M, hM⟩ : ∃ M : Nat, (a + b) / 2 = (M : Int) := ⟨((a + b) / 2).toNat, by omega⟩
  have hN : ((P.length : Int) + ((P.length + X.length + Y.length : Nat) : Int)) / 2 + ((P.length + X.length : Nat) : Int) = ((M + (P.length + X.length) : Nat) : Int) := by omega
  rw [hM]
  have m1 : a < M ∧ (M : Int) < b ∧ 2 * (M : Int) ≤ a + b ∧ a + b ≤ 2 * M + 1 := by omega
  obtain ⟨m1, m2, m3, m4⟩ := m1
  have w3 : IntKind.wrap .i64 ((M : Int) + m) = M + m := w64 om om
  have w4 : IntKind.wrap .i64 ((M : Int) + m - b) = M + m - b := w64 om om
  rw [w3, w4]
  have r1 : ∀ t, t < X.length → (P ++ (X ++ (Y ++ Q)))[P.length + t]? = X[t]? := fun t ht => eQ ht
  have r2 : ∀ t, t < Y.length → (P ++ (X ++ (Y ++ Q)))[P.length + X.length + t]? = Y[t]? := fun t ht => fu ht
  have tail : ∀ (o s0 r0 : Nat), P.length ≤ o → o ≤ P.length + X.length → P.length + X.length ≤ M + (P.length + X.length) - o → M + (P.length + X.length) - o ≤ P.length + X.length + Y.length → o ≤ M + (P.length + X.length) →
    (o = s0 → o = P.length ∨ M + (P.length + X.length) - o = P.length + X.length + Y.length) → (o = r0 → o = P.length + X.length ∨ M + (P.length + X.length) - o = P.length + X.length) →
    (o = s0 ∨ ∀ y z, (P ++ (X ++ (Y ++ Q)))[M + (P.length + X.length) - 1 - (o - 1)]? = some y → (P ++ (X ++ (Y ++ Q)))[o - 1]? = some z → ¬ c y z < 0) →
    (o = r0 ∨ ∀ y z, (P ++ (X ++ (Y ++ Q)))[M + (P.length + X.length) - 1 - o]? = some y → (P ++ (X ++ (Y ++ Q)))[o]? = some z → c y z < 0) →
    ∃ Z, bj f (o : Int) m (IntKind.wrap .i64 ((M : Int) + m - (o : Int))) (MX rec0 f a (o : Int) (M : Int) (MX rec0 f (M : Int) (IntKind.wrap .i64 ((M : Int) + m - (o : Int))) b some)) (P ++ (X ++ (Y ++ Q))) = some (P ++ (Z ++ Q)) ∧ Z.Perm (X ++ Y) ∧ Srt le Z := by
   intro o s0 r0 t1 t2 t3 t4 t5 t6 t7 t8 t9
   obtain ⟨i, rfl⟩ : ∃ i, o = P.length + i := ⟨o - P.length, by omega⟩
   obtain ⟨j, hj⟩ : ∃ j, M = P.length + i + j := ⟨M - (P.length + i), by omega⟩
   have hi : i ≤ X.length := by omega
   have hjY : j ≤ Y.length := by omega
   have w5 : IntKind.wrap .i64 ((M : Int) + m - ((P.length + i : Nat) : Int)) = ((P.length + X.length + j : Nat) : Int) := by rw [w64 om om]; omega
   rw [w5]
   have l1 : (X.take i).length = i := by rw [List.length_take]; omega
   have l2 : (X.drop i).length = X.length - i := lD
   have l3 : (Y.take j).length = j := by rw [List.length_take]; omega
   have l4 : (Y.drop j).length = Y.length - j := lD
   have h12 : ∀ u ∈ X.take i, ∀ v ∈ Y.drop j, le u v := by
    by_cases hi0 : i = 0
    ·intro u hu; rw [hi0, List.take_zero] at hu; cases hu
    by_cases hj0 : j = Y.length
    ·intro u hu v hv; rw [hj0, List.drop_length] at hv; cases hv
    have hlt : i - 1 < X.length := by omega
    have hjt : j < Y.length := by omega
    have hle : le X[i - 1] Y[j] := by
     rcases t8 with t8 | t8
     ·rcases t6 t8 with h | h <;> omega
     ·refine O.ge (t8 _ _ ?_ ?_)
      ·rw [show M + (P.length + X.length) - 1 - (P.length + i - 1) = P.length + X.length + j by omega, r2 _ hjt, List.getElem?_eq_getElem hjt]
      ·rw [show P.length + i - 1 = P.length + (i - 1) by omega, r1 _ hlt, List.getElem?_eq_getElem hlt]
    intro u hu v hv
    have a1 := Nz O hX hi (x := X[i - 1]) (.inr fun y hy => by rw [List.getElem?_eq_getElem hlt] at hy; rw [← sj hy]; exact O.rf _) u hu
    have a2 := Ns O hY (k := j) (x := Y[j]) (.inr fun y hy => by rw [List.getElem?_eq_getElem hjt] at hy; rw [← sj hy]; exact O.rf _) v hv
    exact O.tr a1 (O.tr hle a2)
   have h21 : ∀ u ∈ Y.take j, ∀ v ∈ X.drop i, le u v := by
    by_cases hj0 : j = 0
    ·intro u hu; rw [hj0, List.take_zero] at hu; cases hu
    by_cases hi0 : i = X.length
    ·intro u hu v hv; rw [hi0, List.drop_length] at hv; cases hv
    have hlt : i < X.length := by omega
    have hjt : j - 1 < Y.length := by omega
    have hle : le Y[j - 1] X[i] := by
     rcases t9 with t9 | t9
     ·rcases t7 t9 with h | h <;> omega
     ·refine O.lt (t9 _ _ ?_ ?_)
      ·rw [show M + (P.length + X.length) - 1 - (P.length + i) = P.length + X.length + (j - 1) by omega, r2 _ hjt, List.getElem?_eq_getElem hjt]
      ·rw [r1 _ hlt, List.getElem?_eq_getElem hlt]
    intro u hu v hv
    have a1 := Nz O hY hjY (x := Y[j - 1]) (.inr fun y hy => by rw [List.getElem?_eq_getElem hjt] at hy; rw [← sj hy]; exact O.rf _) u hu
    have a2 := Ns O hX (k := i) (x := X[i]) (.inr fun y hy => by rw [List.getElem?_eq_getElem hlt] at hy; rw [← sj hy]; exact O.rf _) v hv
    exact O.tr a1 (O.tr hle a2)
   have hXs := List.take_append_drop i X
   have hYs := List.take_append_drop j Y
   have := XY (f := f) ih (P := P) (X1 := X.take i) (X2 := X.drop i) (Y1 := Y.take j) (Y2 := Y.drop j) (Q := Q) (by rw [hXs]; exact hX) (by rw [hYs]; exact hY) h12 h21 (a := a) (s := ((P.length + i : Nat) : Int)) (M := (M : Int)) (m := m) (e := ((P.length + X.length + j : Nat) : Int)) (b := b)
    (by rw [hXs, hYs]; exact hl) ha (by rw [l1]) (by rw [l1, l3, hj]) (by rw [l1, l2]; omega) (by rw [l1, l2, l3]; omega) (by rw [l1, l2, l3, l4]; omega) (by rw [l1, l3]; omega) (by rw [l2, l4]; omega)
   rw [hXs, hYs] at this
   exact this
  subst ha hm hb
  by_cases c3 : (M : Int) < ((P.length + X.length : Nat) : Int)
  ·rw [dT c3, cT]
   obtain ⟨o, e, o1, o2, o3, o4⟩ := VG (f := f) hf (xs := P ++ (X ++ (Y ++ Q))) (a := P.length) (m := P.length + X.length) (b := P.length + X.length + Y.length) (s0 := M + (P.length + X.length) - (P.length + X.length + Y.length)) (r0 := M) (N := M + (P.length + X.length)) hl hN (by simp <;> omega) (by simp) (by simp <;> omega) om (by simp <;> omega) om (by simp <;> omega) om
   rw [show (M : Int) + ((P.length + X.length : Nat) : Int) - ((P.length + X.length + Y.length : Nat) : Int) = ((M + (P.length + X.length) - (P.length + X.length + Y.length) : Nat) : Int) by omega, e, bS]
   exact tail o _ _ om om om om om (fun h => by right; omega) (fun h => by right; omega) o3 o4
  ·rw [dF c3, cF]
   obtain ⟨o, e, o1, o2, o3, o4⟩ := VG (f := f) hf (xs := P ++ (X ++ (Y ++ Q))) (a := P.length) (m := P.length + X.length) (b := P.length + X.length + Y.length) (s0 := P.length) (r0 := P.length + X.length) (N := M + (P.length + X.length)) hl hN (by simp <;> omega) (by simp) (by simp <;> omega) om (by simp <;> omega) om (by simp <;> omega) om
   rw [e, bS]
   exact tail o _ _ om om om om om (fun h => by left; exact h) (fun h => by left; exact h) o3 o4
include O hf in
theorem P9 {P X Y Q : List At} {a m b : Int} (h1 : 0 < X.length) (h2 : 0 < Y.length) (hX : Srt le X) (hY : Srt le Y) (hl : (P ++ (X ++ (Y ++ Q))).length ≤ 1073741824) (ha : a = (P.length : Int)) (hm : m = ((P.length + X.length : Nat) : Int)) (hb : b = ((P.length + X.length + Y.length : Nat) : Int)) :
  ∃ Z, B5 (P ++ (X ++ (Y ++ Q))) a m b f = some (P ++ (Z ++ Q)) ∧ Z.Perm (X ++ Y) ∧ Srt le Z := by
 unfold B5
 exact LE (f := f) O hf Ay P X Y Q a m b h1 h2 hX hY hl ha hm hb (by simp at hl; unfold Ay; omega)
end
def Fl (le : At → At → Prop) (s : Nat) (Ls : List (List At)) : Prop := ∀ X ∈ Ls, X.length = s ∧ Srt le X
theorem Ux {le : At → At → Prop} {s : Nat} : Fl le s [] := fun _ h => by cases h
theorem UU {le : At → At → Prop} {s : Nat} {X : List At} {Ls : List (List At)} (h1 : X.length = s) (h2 : Srt le X) (h : Fl le s Ls) : Fl le s (X :: Ls) := fun Y hY => by
 rcases List.mem_cons.1 hY with rfl | hY
 ·exact ⟨h1, h2⟩
 ·exact h Y hY
theorem OO {le : At → At → Prop} {s : Nat} : ∀ {Ls : List (List At)}, Fl le s Ls → Ls.flatten.length = Ls.length * s
 | [], _ => by simp
 | X :: Ls, h => by
  rw [List.flatten_cons, lA, (h X List.mem_cons_self).1, OO (Ls := Ls) fun Y hY => h Y (List.mem_cons_of_mem _ hY), lC, Nat.succ_mul]; omega
section
variable {f : At → At → Option Int} {c : At → At → Int} {le : At → At → Prop} (O : Ordr c le) (hf : ∀ x y, f x y = some (c x y))
include O hf in
theorem PW {n : Int} : ∀ (K : Nat) (P R : List At), R.length < K → (P ++ R).length ≤ 536870912 → n = ((P.length + R.length : Nat) : Int) →
  ∃ Ls X, Fl le 20 Ls ∧ X.length < 20 ∧ iter (BA n f) K (P ++ R, (P.length : Int), ((P.length + 20 : Nat) : Int)) = some (P ++ (Ls.flatten ++ X), ((P.length + Ls.flatten.length : Nat) : Int)) ∧ (Ls.flatten ++ X).Perm R
 | 0, _, _, h, _, _ => by omega
 | K + 1, P, R, hK, hl, hn => by
  have ih := PW (n := n) K
  have hl' := hl
  simp only [lA] at hl'
  rw [Co]
  generalize iter (BA n f) K = rec at ih ⊢
  unfold BA
  dsimp only
  by_cases hb : 20 ≤ R.length
  ·obtain ⟨R1, R2, rfl, hR⟩ : ∃ R1 R2, R = R1 ++ R2 ∧ R1.length = 20 := ⟨R.take 20, R.drop 20, (List.take_append_drop _ _).symm, by rw [List.length_take]; omega⟩
   rw [lA] at hK hn hl'
   obtain ⟨T, t1, t2, t3⟩ := KT (f := f) O hf (P := P) (S := R1) (R := R2) (b := ((P.length + 20 : Nat) : Int)) (by simp [-List.length_flatten]; omega) (by rw [hR])
   have tl := t2.length_eq
   obtain ⟨Ls, X, q1, q2, q3, q4⟩ := ih (P ++ T) R2 om (by simp [-List.length_flatten]; omega) (by rw [hn]; simp; omega)
   refine ⟨T :: Ls, X, UU om t3 q1, q2, ?_, ?_⟩
   ·rw [dT om, cT, t1, bS, bS, H8 (by simp [-List.length_flatten]; omega), bS, w64 om om]
    rw [show (P ++ T).length = P.length + 20 by rw [lA]; omega] at q3
    rw [List.append_assoc] at q3
    rw [show ((P.length + 20 : Nat) : Int) + 20 = ((P.length + 20 + 20 : Nat) : Int) by omega, q3]
    rw [List.flatten_cons, lA, show T.length = 20 by omega, Nat.add_assoc]
    simp only [List.append_assoc]
   ·rw [List.flatten_cons, List.append_assoc]
    exact t2.append q4
  ·refine ⟨[], R, Ux, by omega, ?_, by simp⟩
   rw [dF om, cF]
   simp
include O hf in
theorem VC {n : Int} {s : Nat} (hs : 0 < s) {X : List At} (hX : X.length < s) : ∀ (K : Nat) (Ls : List (List At)) (P : List At), Ls.length < K → Fl le s Ls → (P ++ (Ls.flatten ++ X)).length ≤ 536870912 → n = ((P.length + Ls.flatten.length + X.length : Nat) : Int) → s ≤ 536870912 →
  ∃ Ls' A, Fl le (2 * s) Ls' ∧ (A = [] ∨ A.length = s) ∧ Srt le A ∧ iter (BU n f (s : Int)) K (P ++ (Ls.flatten ++ X), (P.length : Int), ((P.length + 2 * s : Nat) : Int)) = some (P ++ (Ls'.flatten ++ (A ++ X)), ((P.length + Ls'.flatten.length : Nat) : Int)) ∧ (Ls'.flatten ++ A).Perm Ls.flatten
 | 0, _, _, h, _, _, _, _ => by omega
 | K + 1, Ls, P, hK, hF, hl, hn, hsl => by
  have ih := VC (n := n) hs hX K
  have hl' := hl
  have hfl := OO hF
  simp only [lA] at hl'
  rw [Co]
  generalize iter (BU n f (s : Int)) K = rec at ih ⊢
  unfold BU
  dsimp only
  match Ls, hK, hF, hl, hn, hfl, hl' with
  | [], _, _, _, hn, _, _ =>
   refine ⟨[], [], Ux, .inl rfl, List.Pairwise.nil, ?_, by simp⟩
   rw [dF (by simp at hn; omega), cF]
   simp
  | [A], _, hF, _, hn, _, _ =>
   obtain ⟨a1, a2⟩ := hF A List.mem_cons_self
   refine ⟨[], A, Ux, .inr a1, a2, ?_, by simp⟩
   rw [dF (by simp at hn; omega), cF]
   simp
  | A :: B :: Ls, hK, hF, hl, hn, hfl, hl' =>
   obtain ⟨a1, a2⟩ := hF A List.mem_cons_self
   obtain ⟨b1, b2⟩ := hF B (List.mem_cons_of_mem _ List.mem_cons_self)
   have hF' : Fl le s Ls := fun Y hY => hF Y (List.mem_cons_of_mem _ (List.mem_cons_of_mem _ hY))
   simp only [List.flatten_cons, lA, lC] at hn hl' hK
   obtain ⟨Z, z1, z2, z3⟩ := P9 (f := f) O hf (P := P) (X := A) (Y := B) (Q := Ls.flatten ++ X) (a := (P.length : Int)) (m := ((P.length + s : Nat) : Int)) (b := ((P.length + 2 * s : Nat) : Int)) om om a2 b2 (by simp [-List.length_flatten]; omega) rfl (by rw [a1]) (by rw [a1, b1]; omega)
   have zl := z2.length_eq
   rw [lA] at zl
   obtain ⟨Ls', R, q1, q2, q3, q4, q5⟩ := ih Ls (P ++ Z) om hF' (by simp [-List.length_flatten]; omega) (by rw [hn]; simp; omega) hsl
   refine ⟨Z :: Ls', R, UU om z3 q1, q2, q3, ?_, ?_⟩
   ·have hsh : P ++ ((A :: B :: Ls).flatten ++ X) = P ++ (A ++ (B ++ (Ls.flatten ++ X))) := by simp
    rw [hsh, dT om, cT, w64 (x := (P.length : Int) + (s : Int)) om om, show (P.length : Int) + (s : Int) = ((P.length + s : Nat) : Int) by omega, z1, bS, bS, H8 (by simp [-List.length_flatten]; omega), bS, w64 (x := 2 * (s : Int)) om om, w64 om om]
    rw [show (P ++ Z).length = P.length + 2 * s by rw [lA]; omega, List.append_assoc] at q4
    rw [show ((P.length + 2 * s : Nat) : Int) + 2 * (s : Int) = ((P.length + 2 * s + 2 * s : Nat) : Int) by omega, q4]
    rw [List.flatten_cons, lA, show Z.length = 2 * s by omega, Nat.add_assoc]
    simp only [List.append_assoc]
   ·simp only [List.flatten_cons, List.append_assoc]
    have h1 := z2.append q5
    simp only [List.append_assoc] at h1
    exact h1
def Blk (le : At → At → Prop) (xs : List At) (l : List At) (s : Nat) : Prop := ∃ Ls X, l = Ls.flatten ++ X ∧ Fl le s Ls ∧ X.length < s ∧ Srt le X ∧ l.Perm xs
include O hf in
theorem Uj {xs : List At} (hl : xs.length ≤ 536870912) : ∃ ys, Cs xs (xs.length : Int) f = some ys ∧ ys.Perm xs ∧ Srt le ys := by
 obtain ⟨Ls, X, f1, f2, f3, f4⟩ := PW (f := f) O hf (n := (xs.length : Int)) Ay [] xs (by unfold Ay; omega) (by simpa [-List.length_flatten] using hl) (by simp)
 simp only [List.nil_append, lN, Nat.zero_add] at f3
 have hlen := f4.length_eq
 rw [lA] at hlen
 obtain ⟨T, t1, t2, t3⟩ := KT (f := f) O hf (P := Ls.flatten) (S := X) (R := []) (b := (xs.length : Int)) (by simp [-List.length_flatten]; omega) (by rw [← hlen])
 rw [List.append_nil, List.append_nil] at t1
 have tl := t2.length_eq
 obtain ⟨l2, e2, h2⟩ := DG (b := BC (xs.length : Int) f) (fun x => (2 * xs.length + 20 - x.2).toNat) (fun x => ∃ s : Nat, x.2 = (s : Int) ∧ 0 < s ∧ s ≤ 2 * xs.length + 20 ∧ Blk le xs x.1 s) (fun o => o.Perm xs ∧ Srt le o) (by
  rintro ⟨l, _⟩ ⟨s, rfl, s1, s2, Ls, X, rfl, b1, b2, b3, b4⟩
  have hlen := b4.length_eq
  rw [lA] at hlen
  have hfl := OO b1
  by_cases hs : s < xs.length
  ·left
   obtain ⟨Ls', A, q1, q2, q3, q4, q5⟩ := VC (f := f) O hf (n := (xs.length : Int)) s1 b2 Ay Ls [] (by
    have : Ls.length ≤ Ls.length * s := Nat.le_mul_of_pos_right _ s1
    unfold Ay; omega) b1 (by simp [-List.length_flatten]; omega) (by simp [-List.length_flatten]; omega) om
   simp only [List.nil_append, lN, Nat.zero_add] at q4
   rw [show ((0 : Nat) : Int) = 0 from rfl] at q4
   have ql := q5.length_eq
   rw [lA] at ql
   have ws : IntKind.wrap .i64 (2 * (s : Int)) = ((2 * s : Nat) : Int) := by rw [w64 om om]; omega
   have w1 : IntKind.wrap .i64 (((Ls'.flatten.length : Nat) : Int) + (s : Int)) = ((Ls'.flatten.length + s : Nat) : Int) := by rw [w64 om om]; omega
   have w2 : IntKind.wrap .i64 ((s : Int) * 2) = ((2 * s : Nat) : Int) := by rw [w64 om om]; omega
   have hperm : ∀ R : List At, R.Perm (A ++ X) → (Ls'.flatten ++ R).Perm xs := fun R hR => by
    refine (List.Perm.append_left _ hR).trans ?_
    rw [← List.append_assoc]
    exact (List.Perm.append_right _ q5).trans b4
   by_cases cc : Ls'.flatten.length + s < xs.length
   ·have hA : A.length = s := by
     rcases q2 with h | h
     ·rw [h, lN] at ql; omega
     ·exact h
    have hX0 : 0 < X.length := by omega
    obtain ⟨Z, z1, z2, z3⟩ := P9 (f := f) O hf (P := Ls'.flatten) (X := A) (Y := X) (Q := []) (a := ((Ls'.flatten.length : Nat) : Int)) (m := ((Ls'.flatten.length + s : Nat) : Int)) (b := (xs.length : Int)) om hX0 q3 b3 (by simp [-List.length_flatten]; omega) rfl (by rw [hA]) om
    rw [List.append_nil, List.append_nil] at z1
    have zl := z2.length_eq
    rw [lA] at zl
    refine ⟨(Ls'.flatten ++ Z, ((2 * s : Nat) : Int)), fun rec => ?_, ⟨2 * s, rfl, by omega, by omega, Ls', Z, rfl, q1, by omega, z3, hperm Z z2⟩, by dsimp only; omega⟩
    unfold BC
    dsimp only
    simp only [Ar]
    rw [dT om, cT, ws, q4, bS]
    dsimp only
    rw [w1, dT om, cT, z1, bS, bS, H8 (by simp [-List.length_flatten]; omega), bS, w2]
   ·refine ⟨(Ls'.flatten ++ (A ++ X), ((2 * s : Nat) : Int)), fun rec => ?_, ⟨2 * s, rfl, by omega, by omega, Ls', A ++ X, rfl, q1, ?_, ?_, hperm _ (List.Perm.refl _)⟩, by dsimp only; omega⟩
    ·unfold BC
     dsimp only
     simp only [Ar]
     rw [dT om, cT, ws, q4, bS]
     dsimp only
     rw [w1, dF om, cF, w2]
    ·rw [lA]
     rcases q2 with h | h
     ·rw [h, lN]; omega
     ·omega
    ·rcases q2 with h | h
     ·rw [h, List.nil_append]; exact b3
     ·have : X = [] := List.length_eq_zero_iff.1 om
      rw [this, List.append_nil]; exact q3
  ·right
   refine ⟨Ls.flatten ++ X, fun rec => ?_, b4, ?_⟩
   ·unfold BC
    dsimp only
    rw [dF om, cF]
   ·match Ls, b1, hfl, hlen with
    | [], _, _, _ => rw [List.flatten_nil, List.nil_append]; exact b3
    | [A], b1, _, hlen =>
     obtain ⟨a1, a2⟩ := b1 A List.mem_cons_self
     simp only [List.flatten_cons, List.flatten_nil, List.append_nil] at hlen ⊢
     have : X = [] := List.length_eq_zero_iff.1 om
     rw [this, List.append_nil]; exact a2
    | A :: B :: Ls, b1, _, hlen =>
     obtain ⟨a1, a2⟩ := b1 A List.mem_cons_self
     obtain ⟨b1', b2'⟩ := b1 B (List.mem_cons_of_mem _ List.mem_cons_self)
     simp only [List.flatten_cons, lA] at hlen
     omega) Ay (Ls.flatten ++ T, (20 : Int)) ⟨20, rfl, by omega, by omega, Ls, T, rfl, f1, by omega, t3, (List.Perm.append_left _ t2).trans f4⟩ (by unfold Ay; dsimp only; omega)
 unfold Cs
 simp only [Ar]
 have f3' : iter (BA (xs.length : Int) f) Ay (xs, (0 : Int), (20 : Int)) = some (Ls.flatten ++ X, ((Ls.flatten.length : Nat) : Int)) := f3
 rw [f3', bS]
 dsimp only
 rw [t1, bS, bS, H8 (by simp [-List.length_flatten]; omega), bS, e2, bS]
 exact ⟨l2, rfl, h2⟩
include O hf in
theorem ZL {xs : List At} (hl : xs.length ≤ 536870912) : ∃ ys, A8 xs f = some ys ∧ ys.Perm xs ∧ Srt le ys := by
 obtain ⟨ys, y1, y2, y3⟩ := Uj (f := f) O hf hl
 unfold A8
 rw [y1, bS, bS, H8 y2.length_eq, bS]
 exact ⟨ys, rfl, y2, y3⟩
end
structure Cmp {α : Type} (f : α → α → Int) : Prop where
 rng : ∀ a b, f a b = -1 ∨ f a b = 0 ∨ f a b = 1
 anti : ∀ a b, f b a = - f a b
 trans : ∀ a b c, f a b ≤ 0 → f b c ≤ 0 → f a c ≤ 0
theorem Cmp.refl {α : Type} {f : α → α → Int} (h : Cmp f) (a : α) : f a a = 0 := by have := h.anti a a; omega
theorem Cmp.eqL {α : Type} {f : α → α → Int} (h : Cmp f) {a b : α} (c : α) (e : f a b = 0) : f b c = f a c := by
 have e' : f b a = 0 := by rw [h.anti a b, e]; rfl
 have h1 := h.trans a b c; have h2 := h.trans b a c
 have h3 := h.trans c b a; have h4 := h.trans c a b
 have a1 := h.anti a c; have a2 := h.anti b c
 have r1 := h.rng a c; have r2 := h.rng b c
 omega
theorem Cmp.eqR {α : Type} {f : α → α → Int} (h : Cmp f) {b c : α} (a : α) (e : f b c = 0) : f a b = f a c := by
 have := h.eqL a e
 have a1 := h.anti a b; have a2 := h.anti a c
 omega
theorem Cmp.lex {α β : Type} {f : α → α → Int} {g : β → β → Int} (hf : Cmp f) (hg : Cmp g) : Cmp (fun x y : α × β => if f x.1 y.1 ≠ 0 then f x.1 y.1 else g x.2 y.2) := by
 refine ⟨fun a b => ?_, fun a b => ?_, fun a b c h1 h2 => ?_⟩
 ·by_cases h : f a.1 b.1 = 0
  ·simpa [h] using hg.rng a.2 b.2
  ·rw [if_pos h]; exact hf.rng _ _
 ·have := hf.anti a.1 b.1
  by_cases h : f a.1 b.1 = 0
  ·have h' : f b.1 a.1 = 0 := by omega
   simpa [h, h'] using hg.anti a.2 b.2
  ·have h' : ¬ f b.1 a.1 = 0 := by omega
   rw [if_pos h, if_pos h', this]
 ·by_cases e1 : f a.1 b.1 = 0
  ·have e := hf.eqL c.1 e1
   by_cases e2 : f b.1 c.1 = 0
   ·have e3 : f a.1 c.1 = 0 := by omega
    simp only [ne_eq, e1, e2, e3, not_true_eq_false, if_false] at h1 h2 ⊢
    exact hg.trans _ _ _ h1 h2
   ·have e3 : ¬ f a.1 c.1 = 0 := by omega
    simp only [ne_eq, e2, e3, not_false_eq_true, if_true] at h2 ⊢
    omega
  ·by_cases e2 : f b.1 c.1 = 0
   ·have e := hf.eqR a.1 e2
    have e3 : ¬ f a.1 c.1 = 0 := by omega
    simp only [ne_eq, e1, e3, not_false_eq_true, if_true] at h1 ⊢
    omega
   ·simp only [ne_eq, e1, e2, not_false_eq_true, if_true] at h1 h2
    have h3 := hf.trans _ _ _ h1 h2
    by_cases e3 : f a.1 c.1 = 0
    ·exfalso
     have e4 := hf.anti a.1 b.1
     have e5 := hf.eqL b.1 (show f c.1 a.1 = 0 by rw [hf.anti, e3]; rfl)
     have e6 := hf.anti b.1 c.1
     have r := hf.rng a.1 b.1
     omega
    ·simp only [ne_eq, e3, not_false_eq_true, if_true]; exact h3
theorem Cmp.comap {α β : Type} {f : α → α → Int} (hf : Cmp f) (k : β → α) : Cmp (fun x y => f (k x) (k y)) :=
 ⟨fun a b => hf.rng _ _, fun a b => hf.anti _ _, fun a b c => hf.trans _ _ _⟩
def Xk (a b : Int) : Int := if a < b then -1 else if b < a then 1 else 0
theorem ZD : Cmp Xk := by
 refine ⟨fun a b => ?_, fun a b => ?_, fun a b c => ?_⟩ <;> unfold Xk <;> (repeat' split) <;> omega
def Hl : LB → LB → Int
 | [], [] => 0
 | [], _ :: _ => -1
 | _ :: _, [] => 1
 | a :: x, b :: y => if Xk a.toNat b.toNat ≠ 0 then Xk a.toNat b.toNat else Hl x y
theorem RY : Cmp Hl := by
 have hI := ZD
 refine ⟨fun a => ?_, fun a => ?_, fun a => ?_⟩
 ·induction a with
  | nil => intro b; cases b <;> simp [Hl]
  | cons x a ih =>
   intro b
   cases b with
   | nil => simp [Hl]
   | cons y b =>
    simp only [Hl]
    split
    ·exact hI.rng _ _
    ·exact ih b
 ·induction a with
  | nil => intro b; cases b <;> simp [Hl]
  | cons x a ih =>
   intro b
   cases b with
   | nil => simp [Hl]
   | cons y b =>
    simp only [Hl]
    have := hI.anti x.toNat y.toNat
    have := ih b
    split <;> split <;> omega
 ·induction a with
  | nil => intro b c h1 h2; cases b <;> cases c <;> simp_all [Hl]
  | cons x a ih =>
   intro b c h1 h2
   cases b with
   | nil => simp [Hl] at h1
   | cons y b =>
    cases c with
    | nil => simp [Hl] at h2
    | cons z c =>
     simp only [Hl] at h1 h2 ⊢
     have t := hI.trans x.toNat y.toNat z.toNat
     have l := fun e => hI.eqL (a := (x.toNat : Int)) (b := y.toNat) z.toNat e
     have r := fun e => hI.eqR (b := (y.toNat : Int)) (c := z.toNat) x.toNat e
     have an := hI.anti (x.toNat : Int) y.toNat
     have l2 := fun e => hI.eqL (a := (x.toNat : Int)) (b := z.toNat) y.toNat e
     have an2 := hI.anti (y.toNat : Int) z.toNat
     have := ih b c
     split at h1 <;> split at h2 <;> split <;> omega
theorem P4 : ∀ a b : LB, (if Op.bytesLess a b then (-1 : Int) else if !(Op.bytesLess a b || a == b) then 1 else 0) = Hl a b
 | [], [] => by simp [Op.bytesLess, Hl]
 | [], _ :: _ => by simp [Op.bytesLess, Hl]
 | _ :: _, [] => by simp [Op.bytesLess, Hl]
 | a :: x, b :: y => by
  have ih := P4 x y
  simp only [Op.bytesLess, Hl, Xk]
  rw [← ih]
  by_cases h1 : a < b
  ·have : a.toNat < b.toNat := h1
   have h3 : ((a.toNat : Int) < b.toNat) := by omega
   simp [h1, h3]
  ·by_cases h2 : a = b
   ·subst h2
    simp [UInt8.lt_irrefl]
   ·have h4 : ¬ a.toNat < b.toNat := h1
    have h5 : a.toNat ≠ b.toNat := fun e => h2 (UInt8.toNat_inj.1 e)
    have h6 : ¬ ((a.toNat : Int) < b.toNat) := by omega
    have h7 : ((b.toNat : Int) < a.toNat) := by omega
    simp [h1, h2, h6, h7]
theorem Mp : ∀ {a b : LB}, Hl a b = 0 → a = b
 | [], [], _ => rfl
 | [], _ :: _, h => by simp [Hl] at h
 | _ :: _, [], h => by simp [Hl] at h
 | a :: x, b :: y, h => by
  simp only [Hl, Xk] at h
  by_cases h1 : a = b
  ·subst h1
   simp only [Int.lt_irrefl, if_false, ne_eq, not_true_eq_false] at h
   rw [Mp h]
  ·have h5 : a.toNat ≠ b.toNat := fun e => h1 (UInt8.toNat_inj.1 e)
   exfalso
   split at h <;> (repeat' split at h) <;> omega
def QC (x y : Ah) : Int := if Hl x.URI y.URI ≠ 0 then Hl x.URI y.URI else Hl x.Local y.Local
theorem cmpN_cmp : Cmp QC := (Cmp.lex RY RY).comap fun x : Ah => (x.URI, x.Local)
theorem Wj {x y : Ah} (h : QC x y = 0) : x = y := by
 unfold QC at h
 by_cases h1 : Hl x.URI y.URI = 0
 ·rw [if_neg (fun h => h h1)] at h
  cases x; cases y
  rw [Ah.mk.injEq]
  exact ⟨Mp h1, Mp h⟩
 ·rw [if_pos h1] at h; exact absurd h h1
theorem Jb (a b : LB) : Cu a b = some (Hl a b) := by
 rw [← P4]
 unfold Cu Er
 rw [bS, bS, show (!(a == a)) = false by simp, show (!(b == b)) = false by simp, cF, cF]
 cases Op.bytesLess a b <;> cases (a == b) <;> rfl
theorem bK (a b : Int) : FZ [a, b] = some (if a ≠ 0 then a else b) := by
 unfold FZ
 simp only [Ar]
 rw [show Ay = (Ay - 3) + 1 + 1 + 1 by unfold Ay; rfl]
 have s0 : ∀ rec, E8 [a, b] rec (0 : Int) = cond (a != 0) (some (.inr a)) (rec 1) := fun rec => rfl
 have s1 : ∀ rec, E8 [a, b] rec (1 : Int) = cond (b != 0) (some (.inr b)) (rec 2) := fun rec => rfl
 have s2 : ∀ rec, E8 [a, b] rec (2 : Int) = some (.inl ()) := fun rec => rfl
 rw [Co, s0]
 by_cases h : a = 0
 ·rw [show (a != 0) = false by simpa using h, cF, Co, s1, if_neg (fun g => g h)]
  by_cases h' : b = 0
  ·rw [show (b != 0) = false by simpa using h', cF, Co, s2, h']; rfl
  ·rw [show (b != 0) = true by simpa using h', cT]; rfl
 ·rw [show (a != 0) = true by simpa using h, cT, if_pos h]; rfl
theorem WZ (x y : At) : C6 x y = some (QC x.Name y.Name) := by
 unfold C6
 rw [Jb, bS, Jb, bS, bK, bS]
 rfl
def leA (x y : At) : Prop := QC x.Name y.Name ≤ 0
theorem gA : Ordr (fun x y => QC x.Name y.Name) leA where
 c := fun x y => by
  have := cmpN_cmp.anti x.Name y.Name
  unfold leA; omega
 tr := fun h1 h2 => cmpN_cmp.trans _ _ _ h1 h2
 tot := fun x y => by
  have := cmpN_cmp.anti x.Name y.Name
  unfold leA; omega
theorem OJ {xs : List At} (hl : xs.length ≤ 536870912) : ∃ ys, A8 xs C6 = some ys ∧ ys.Perm xs ∧ Srt leA ys := ZL gA WZ hl
section
variable {f : At → At → Option Int} (hf : ∀ x y, ∃ z, f x y = some z)
include hf
end
theorem LP {p : TP} (h : p.Name.length ≤ 1073741824) : ∃ r, Df p = some r := by
 unfold Df
 obtain ⟨r, hr⟩ := Jr p.Name h
 rw [hr, bS]
 cases (r.2.2 && (r.1 == ([120, 109, 108, 110, 115] : LB))) <;> cases (p.Name == ([120, 109, 108, 110, 115] : LB)) <;> exact ⟨_, rfl⟩
theorem Wc (p u : LB) : ∃ e, EF p u = some e := by
 unfold EF
 simp only [Ar]
 cases (p == ([120, 109, 108, 110, 115] : LB)) with
 | true => exact ⟨_, rfl⟩
 | false =>
  rw [cF]
  cases (u == SPN) with
  | true => exact ⟨_, rfl⟩
  | false =>
   rw [cF]
   cases (!((p == BX) == (u == SPX))) <;> cases ((!(p == ([] : LB))) && (u == ([] : LB))) <;> cases (decide ((100 : Int) < (u.length : Int))) <;> exact ⟨_, rfl⟩
theorem QL {h : List LB} {p : LB} (hl : h.length ≤ 1073741824) : ∃ b, Cr h p = some b := by
 unfold Cr Db
 obtain ⟨o, e, _⟩ := CC (b := Cq h p) (fun i x => x = (i : Int)) (fun _ => True) h.length (x0 := (0 : Int)) rfl (by
  rintro i _ rec hi rfl
  unfold Cq
  rw [dT (show (i : Int) < (h.length : Int) by omega), cT, A6 hi, bS]
  cases (p == h[i]) with
  | true => exact .inr ⟨_, rfl, trivial⟩
  | false => exact .inl ⟨_, rfl, by rw [w64 om om]; omega⟩) (by
  rintro _ rec rfl
  unfold Cq
  rw [dF om, cF]
  exact ⟨_, rfl, trivial⟩) (n := Ay) (by unfold Ay; omega)
 simp only [Ar]
 rw [e, bS]
 cases o <;> exact ⟨_, rfl⟩
theorem Ut {h : List Ai} {p : LB} (hl : h.length ≤ 1099511627776) : ∃ b, AS h (fun z0 => Ce z0 p) = some b ∧ b.length ≤ h.length := by
 unfold AS BW
 obtain ⟨o, e, ho⟩ := CC (b := Bp h (fun z0 => Ce z0 p)) (fun i x => x = (i : Int)) (fun o => o = .inl () ∨ ∃ k : Nat, o = .inr (k : Int) ∧ k < h.length) h.length (x0 := (0 : Int)) rfl (by
  rintro i _ rec hi rfl
  unfold Bp Ce
  rw [dT (show (i : Int) < (h.length : Int) by omega), cT, A6 hi, bS]
  dsimp only
  rw [bS]
  cases ((h[i]).prefix_ == p) with
  | true => exact .inr ⟨_, rfl, .inr ⟨i, rfl, hi⟩⟩
  | false => exact .inl ⟨_, rfl, by rw [w64 om om]; omega⟩) (by
  rintro _ rec rfl
  unfold Bp
  rw [dF om, cF]
  exact ⟨_, rfl, .inl rfl⟩) (n := Ay) (by unfold Ay; omega)
 simp only [Ar]
 rw [e, bS]
 rcases ho with rfl | ⟨k, rfl, hk⟩
 ·exact ⟨h, rfl, Nat.le_refl _⟩
 ·dsimp only
  rw [bS, show ((k : Int) == -1) = false by rw [bn]; omega, cF]
  obtain ⟨⟨a, j⟩, e2, h1, h2, h3⟩ := DG (b := AD (fun z0 => Ce z0 p)) (fun s => (h.length - s.2.2).toNat) (fun s => s.1.length = h.length ∧ 0 ≤ s.2.1 ∧ s.2.1 < s.2.2 ∧ s.2.2 ≤ h.length) (fun o => o.1.length = h.length ∧ 0 ≤ o.2 ∧ o.2 < h.length) (by
   rintro ⟨l, i, j⟩ ⟨i1, i2, i3, i4⟩
   dsimp only at i1 i2 i3 i4
   by_cases hj : j < h.length
   ·left
    obtain ⟨x, ex⟩ := Tb (l := l) (i := j) om om
    obtain ⟨y, ey⟩ := Tb (l := l) (i := i) om om
    have w1 : IntKind.wrap .i64 (j + 1) = j + 1 := w64 om om
    have w2 : IntKind.wrap .i64 (i + 1) = i + 1 := w64 om om
    cases hx : (x.prefix_ == p) with
    | true =>
     refine ⟨(l, i, j + 1), fun rec => ?_, ⟨i1, i2, by dsimp only; omega, by dsimp only; omega⟩, by dsimp only; omega⟩
     unfold AD Ce
     dsimp only
     simp only [Ar]
     rw [dT (show j < (l.length : Int) by omega), cT, ex, bS, hx, bS, bT, cF, w1]
    | false =>
     refine ⟨(List.set l (Int.toNat i) x, i + 1, j + 1), fun rec => ?_, ⟨by simp [i1], by dsimp only; omega, by dsimp only; omega, by dsimp only; omega⟩, by dsimp only; omega⟩
     unfold AD Ce
     dsimp only
     simp only [Ar]
     rw [dT (show j < (l.length : Int) by omega), cT, ex, bS, hx, bS, bF, cT, ey, bS, bS, w1, w2]
   ·right
    refine ⟨(l, i), fun rec => ?_, i1, i2, by dsimp only; omega⟩
    unfold AD
    dsimp only
    rw [dF (show ¬ j < (l.length : Int) by omega), cF]) Ay (h, (k : Int), (k : Int) + 1) ⟨rfl, by dsimp only; omega, by dsimp only; omega, by dsimp only; omega⟩ (by unfold Ay; dsimp only; omega)
  dsimp only at h1 h2 h3
  rw [w64 (x := (k : Int) + 1) om om, e2, bS]
  dsimp only
  have hs : slc a j (a.length : Int) = some (List.take (((a.length : Int)).toNat - j.toNat) (a.drop j.toNat)) := by
   unfold slc; rw [if_pos om]
  rw [hs, bS, show ltL j a.length = some () by unfold ltL; rw [if_pos om], bS]
  exact ⟨_, rfl, by rw [List.length_take]; omega⟩
theorem RC {s : List Ai} {ps : List TP} (hs : s.length ≤ 8589934592) (hp : ps.length ≤ 65600) (hn : ∀ p ∈ ps, p.Name.length ≤ 1073741824) : ∃ s' e, Cm ⟨s⟩ ps = some (⟨s'⟩, e) ∧ s'.length ≤ s.length + ps.length := by
 obtain ⟨o, e, ho⟩ := CC (b := CH ps) (fun i x => x.2.2.2 = (i : Int) ∧ x.2.1.length ≤ i ∧ x.2.2.1.length ≤ s.length + i) (fun o => match o with | .inl x => x.2.length ≤ s.length + ps.length | .inr x => x.1.binds.length ≤ s.length + ps.length) ps.length (x0 := (([] : List Ai), ([] : List LB), s, (0 : Int))) ⟨rfl, by simp, by simp⟩ (by
  rintro i ⟨c, had, b, j⟩ rec hi ⟨h1, h2, h3⟩
  dsimp only at h1 h2 h3
  subst h1
  obtain ⟨d, hd⟩ := LP (hn ps[i] (List.getElem_mem hi))
  obtain ⟨we, hw⟩ := Wc d.1 (ps[i]).Value
  have w1 : IntKind.wrap .i64 ((i : Int) + 1) = ((i + 1 : Nat) : Int) := by rw [w64 om om]; omega
  unfold CH
  dsimp only
  simp only [Ar]
  rw [dT (show (i : Int) < (ps.length : Int) by omega), cT, A6 hi, bS, hd, bS, w1]
  cases hdd : d.2 with
  | false => exact .inl ⟨_, rfl, rfl, by dsimp only; omega, by dsimp only; omega⟩
  | true =>
   rw [bT, cF, hw, bS]
   cases hwe : (we != 0) with
   | true => exact .inr ⟨_, rfl, by simp⟩
   | false =>
    obtain ⟨ct, hct⟩ := QL (h := had) (p := d.1) om
    rw [cF, hct, bS]
    cases ct with
    | true => exact .inr ⟨_, rfl, by simp⟩
    | false =>
     obtain ⟨b', hb', hbl⟩ := Ut (h := b) (p := d.1) om
     rw [cF, CU so so, bS, hb', bS]
     cases ((!(d.1 == ([120, 109, 108] : LB))) && (!((ps[i]).Value == ([] : LB)))) with
     | true =>
      rw [cT, CU so so, bS, bS]
      exact .inl ⟨_, rfl, rfl, by simp; omega, by simp; omega⟩
     | false => exact .inl ⟨_, rfl, rfl, by simp; omega, by dsimp only; omega⟩) (by
  rintro ⟨c, had, b, j⟩ rec ⟨h1, h2, h3⟩
  dsimp only at h1 h2 h3
  subst h1
  unfold CH
  dsimp only
  rw [dF om, cF]
  exact ⟨_, rfl, h3⟩) (n := Ay) (by unfold Ay; omega)
 unfold Cm
 dsimp only
 rw [CU so so, bS, List.nil_append]
 simp only [Ar]
 rw [e, bS]
 cases o with
 | inl x => exact ⟨_, _, rfl, ho⟩
 | inr x => exact ⟨x.1.binds, x.2, rfl, ho⟩
theorem Wx {s : List Ai} (p : LB) (hs : s.length ≤ 1099511627776) : ∃ r, CY ⟨s⟩ p = some r := by
 unfold CY
 cases (p == ([120, 109, 108] : LB)) with
 | true => exact ⟨_, rfl⟩
 | false =>
  rw [cF]
  obtain ⟨o, e, _⟩ := CC (b := Cw ⟨s⟩ p) (fun i x => x = (i : Int)) (fun _ => True) s.length (x0 := (0 : Int)) rfl (by
   rintro i _ rec hi rfl
   unfold Cw
   dsimp only
   rw [dT (show (i : Int) < (s.length : Int) by omega), cT, A6 hi, bS]
   cases ((s[i]).prefix_ == p) with
   | true => exact .inr ⟨_, rfl, trivial⟩
   | false => exact .inl ⟨_, rfl, by rw [w64 om om]; omega⟩) (by
   rintro _ rec rfl
   unfold Cw
   dsimp only
   rw [dF om, cF]
   exact ⟨_, rfl, trivial⟩) (n := Ay) (by unfold Ay; omega)
  simp only [Ar]
  rw [e, bS]
  cases o <;> exact ⟨_, rfl⟩
theorem Kh {s : List Ai} {q : LB} (hs : s.length ≤ 1099511627776) (hq : q.length ≤ 1073741824) : ∃ r, BY ⟨s⟩ q = some r := by
 unfold BY
 obtain ⟨x, hx⟩ := Jr q hq
 obtain ⟨y, hy⟩ := Wx x.1 hs
 rw [hx, bS]
 cases (!x.2.2) with
 | true => exact ⟨_, rfl⟩
 | false =>
  rw [cF]
  cases (x.1 == ([120, 109, 108, 110, 115] : LB)) with
  | true => exact ⟨_, rfl⟩
  | false =>
   rw [cF, hy, bS]
   cases (!y.2) <;> exact ⟨_, rfl⟩
theorem PQ {s : List Ai} {ps : List TP} (hs : s.length ≤ 1099511627776) (hp : ps.length ≤ 65600) (hn : ∀ p ∈ ps, p.Name.length ≤ 1073741824) : ∃ l e, CD ⟨s⟩ ps = some (l, e) ∧ l.length ≤ ps.length := by
 obtain ⟨o, e, ho⟩ := CC (b := Cb ⟨s⟩ ps) (fun i x => x.2 = (i : Int) ∧ x.1.length ≤ i) (fun o => match o with | .inl x => x.length ≤ ps.length | .inr x => x.1 = []) ps.length (x0 := (([] : List Aa), (0 : Int))) ⟨rfl, by simp⟩ (by
  rintro i ⟨a, j⟩ rec hi ⟨h1, h2⟩
  dsimp only at h1 h2
  subst h1
  have hnm := hn ps[i] (List.getElem_mem hi)
  obtain ⟨d, hd⟩ := LP hnm
  obtain ⟨el, hel⟩ := Kh (s := s) hs hnm
  obtain ⟨sp, hsp⟩ := Jr (ps[i]).Name hnm
  have w1 : IntKind.wrap .i64 ((i : Int) + 1) = ((i + 1 : Nat) : Int) := by rw [w64 om om]; omega
  unfold Cb
  dsimp only
  simp only [Ar]
  rw [dT (show (i : Int) < (ps.length : Int) by omega), cT, A6 hi, bS, hd, bS, w1]
  cases d.2 with
  | true => exact .inl ⟨_, rfl, rfl, by dsimp only; omega⟩
  | false =>
   rw [cF, hel, bS]
   cases (el.2 != 0) with
   | true => exact .inr ⟨_, rfl, rfl⟩
   | false =>
    rw [cF, hsp, bS]
    cases (sp.1 == ([] : LB)) with
    | true =>
     rw [cT, CU so so, bS, bS]
     exact .inl ⟨_, rfl, rfl, by simp; omega⟩
    | false =>
     rw [cF, CU so so, bS, bS]
     exact .inl ⟨_, rfl, rfl, by simp; omega⟩) (by
  rintro ⟨a, j⟩ rec ⟨h1, h2⟩
  dsimp only at h1 h2
  subst h1
  unfold Cb
  dsimp only
  rw [dF om, cF]
  exact ⟨_, rfl, h2⟩) (n := Ay) (by unfold Ay; omega)
 unfold CD
 simp only [Ar]
 rw [e, bS]
 cases o with
 | inr x => exact ⟨x.1, x.2, rfl, by rw [show x.1 = [] from ho]; simp⟩
 | inl a =>
  dsimp only at ho ⊢
  obtain ⟨ys, y1, y0, _⟩ := OJ (xs := a) om
  have y2 := y0.length_eq
  rw [y1, bS, bS, H8 y2, bS]
  obtain ⟨o2, e2, ho2⟩ := CC (b := BH ys) (fun i x => x = (i : Int)) (fun o => match o with | .inl _ => True | .inr x => x.1 = []) ys.length (x0 := (0 : Int)) rfl (by
   rintro i _ rec hi rfl
   have w1 : IntKind.wrap .i64 ((i : Int) + 1) = ((i + 1 : Nat) : Int) := by rw [w64 om om]; omega
   unfold BH
   simp only [Ar]
   rw [dT (show (i : Int) < (ys.length : Int) by omega), cT, w1]
   by_cases h0 : 0 < i
   ·obtain ⟨x, ex⟩ := Tb (l := ys) (i := (i : Int) - 1) om om
    rw [dT (show (0 : Int) < (i : Int) by omega), cT, A6 hi, bS, w64 (x := (i : Int) - 1) om om, ex, bS]
    cases (((ys[i]).Name.URI == x.Name.URI) && (((ys[i]).Name.Local == x.Name.Local) && true)) with
    | true => exact .inr ⟨_, rfl, rfl⟩
    | false => exact .inl ⟨_, rfl, rfl⟩
   ·rw [dF (show ¬ (0 : Int) < (i : Int) by omega), cF]
    exact .inl ⟨_, rfl, rfl⟩) (by
   rintro _ rec rfl
   unfold BH
   rw [dF om, cF]
   exact ⟨_, rfl, trivial⟩) (n := Ay) (by unfold Ay; omega)
  rw [e2, bS]
  cases o2 with
  | inl _ => exact ⟨ys, 0, rfl, by omega⟩
  | inr x => exact ⟨x.1, x.2, rfl, by rw [show x.1 = [] from ho2]; simp⟩
structure RI (k : Nat) (r : Rdr) : Prop where
 ne : r.open_ ≠ []
 len : r.open_.length ≤ 34
 n0 : 0 ≤ r.nodes
 n1 : r.nodes ≤ k
 op : ∀ o ∈ r.open_, o.node.Kids.length ≤ k ∧ o.in_.binds.length ≤ 65600 * k ∧ ∀ x ∈ o.node.Kids, x.Text.length ≤ 8192
 tx : ∀ o ∈ r.open_, o.node.Text = []
structure Fit (t : Tk) : Prop where
 k : t.Kind = 1 ∨ t.Kind = 2 ∨ t.Kind = 3 ∨ t.Kind = 4 ∨ t.Kind = 5 ∨ t.Kind = 6 ∨ t.Kind = 7 ∨ t.Kind = 8
 ps : t.Pairs.length ≤ 65600
 nm : t.Kind = 2 ∨ t.Kind = 4 → t.Name.length ≤ 65536 ∧ ∀ p ∈ t.Pairs, p.Name.length ≤ 65536
 tx : t.Text.length ≤ 262144
theorem RI.mono {k : Nat} {r : Rdr} (h : RI k r) : RI (k + 1) r := ⟨h.ne, h.len, h.n0, by have := h.n1; omega, fun o ho => ⟨by have := (h.op o ho).1; omega, by have := (h.op o ho).2.1; omega, (h.op o ho).2.2⟩, h.tx⟩
theorem OH (b : Op) (x : Nd) : (kid b x).node.Kids = b.node.Kids ++ [x] := rfl
theorem RI.kid {k : Nat} {b : Op} {l : List Op} {n : Int} {d d' : Bool} {x : Nd} (h : RI k ⟨b :: l, n, d⟩) (hx : x.Text.length ≤ 8192) : RI (k + 1) ⟨kid b x :: l, n + 1, d'⟩ := by
 obtain ⟨h1, h2, h3, h4, h5, h6⟩ := h
 dsimp only at h1 h2 h3 h4 h5 h6
 refine ⟨by simp, by simpa using h2, by dsimp only; omega, by dsimp only; omega, fun o ho => ?_, fun o ho => by
  rcases List.mem_cons.1 ho with rfl | ho
  ·exact h6 b List.mem_cons_self
  ·exact h6 o (List.mem_cons_of_mem _ ho)⟩
 rcases List.mem_cons.1 ho with rfl | ho
 ·obtain ⟨a1, a2, a3⟩ := h5 b List.mem_cons_self
  rw [OH]
  refine ⟨by simp; omega, by show b.in_.binds.length ≤ _; omega, fun y hy => ?_⟩
  rcases List.mem_append.1 hy with hy | hy
  ·exact a3 y hy
  ·rw [List.mem_singleton.1 hy]; exact hx
 ·obtain ⟨a1, a2, a3⟩ := h5 o (List.mem_cons_of_mem _ ho)
  exact ⟨by omega, by omega, a3⟩
theorem RI.nodes {k : Nat} {l : List Op} {n m : Int} {d d' : Bool} (h : RI k ⟨l, n, d⟩) (h0 : 0 ≤ m) (h1 : m ≤ k) : RI k ⟨l, m, d'⟩ := ⟨h.ne, h.len, h0, h1, h.op, h.tx⟩
theorem RI.close {k : Nat} {a b : Op} {l : List Op} {n : Int} {d d' : Bool} (h : RI k ⟨a :: b :: l, n, d⟩) : RI (k + 1) ⟨Go.Proofs.YtilhbalhkljanaaGreatDoor.kid b a.node :: l, n, d'⟩ := by
 have h' : RI k ⟨b :: l, n, d⟩ := ⟨by simp, by have := h.len; simp at this ⊢; omega, h.n0, h.n1, fun o ho => h.op o (List.mem_cons_of_mem _ ho), fun o ho => h.tx o (List.mem_cons_of_mem _ ho)⟩
 have := RI.kid (d' := d') (x := a.node) h' (by rw [h.tx a List.mem_cons_self]; simp)
 exact RI.nodes this h.n0 (by have := h.n1; dsimp only at this; omega)
mutual
def szN (a : Nat) : Ad → Nat
 | ⟨_, _, av, ks, _⟩ => 1 + a * av.length + szL a ks
def szL (a : Nat) : List Ad → Nat
 | [] => 0
 | k :: ks => szN a k + szL a ks
end
theorem Fo (a : Nat) (x : Nd) : szN a x = 1 + a * x.Attrs.length + szL a x.Kids := by cases x; rfl
theorem KH (a : Nat) : ∀ xs ys : List Nd, szL a (xs ++ ys) = szL a xs + szL a ys
 | [], ys => by simp [szL]
 | x :: xs, ys => by show szN a x + szL a (xs ++ ys) = szN a x + szL a xs + szL a ys; rw [KH a xs ys]; omega
theorem Nn (a : Nat) : ∀ {xs : List Nd} {x : Nd}, x ∈ xs → szN a x ≤ szL a xs
 | y :: ys, x, h => by
  show _ ≤ szN a y + szL a ys
  rcases List.mem_cons.1 h with rfl | h
  ·omega
  ·have := Nn a h; omega
theorem Lu (a : Nat) : ∀ xs : List Nd, xs.length ≤ szL a xs
 | [] => Nat.zero_le _
 | x :: xs => by
  show _ ≤ szN a x + szL a xs
  have := Lu a xs
  have := Fo a x
  rw [lC]; omega
def szS (a : Nat) : List Op → Nat
 | [] => 0
 | o :: l => szN a o.node + szS a l
structure Grow (r r' : Rdr) : Prop where
 n : r.nodes ≤ r'.nodes
 w0 : (szS 0 r'.open_ : Int) - r'.nodes = szS 0 r.open_ - r.nodes
 w1 : szS 1 r'.open_ ≤ szS 1 r.open_ + 65601
theorem Grow.refl (r : Rdr) : Grow r r := ⟨Int.le_refl _, rfl, by omega⟩
theorem NC (a : Nat) (b : Op) (x : Nd) : szN a (kid b x).node = szN a b.node + szN a x := by
 rw [Fo, Fo a b.node]
 show 1 + a * b.node.Attrs.length + szL a (b.node.Kids ++ [x]) = _
 rw [KH]
 show _ + (_ + (szN a x + 0)) = _
 omega
theorem Grow.kid {b : Op} {l : List Op} {n : Int} {d d' : Bool} {x : Nd} (h1 : x.Kids = []) (h2 : x.Attrs.length ≤ 65600) : Grow ⟨b :: l, n, d⟩ ⟨Go.Proofs.YtilhbalhkljanaaGreatDoor.kid b x :: l, n + 1, d'⟩ := by
 have e0 := NC 0 b x
 have e1 := NC 1 b x
 have x0 := Fo 0 x
 have x1 := Fo 1 x
 rw [h1] at x0 x1
 have z0 : szL 0 ([] : List Nd) = 0 := rfl
 have z1 : szL 1 ([] : List Nd) = 0 := rfl
 refine ⟨by dsimp only; omega, ?_, ?_⟩
 ·show ((szN 0 _ + szS 0 l : Nat) : Int) - (n + 1) = ((szN 0 b.node + szS 0 l : Nat) : Int) - n
  omega
 ·show szN 1 _ + szS 1 l ≤ szN 1 b.node + szS 1 l + 65601
  omega
theorem Grow.close {a b : Op} {l : List Op} {n : Int} {d d' : Bool} : Grow ⟨a :: b :: l, n, d⟩ ⟨Go.Proofs.YtilhbalhkljanaaGreatDoor.kid b a.node :: l, n, d'⟩ := by
 have e0 := NC 0 b a.node
 have e1 := NC 1 b a.node
 refine ⟨Int.le_refl _, ?_, ?_⟩
 ·show ((szN 0 _ + szS 0 l : Nat) : Int) - n = ((szN 0 a.node + (szN 0 b.node + szS 0 l) : Nat) : Int) - n
  omega
 ·show szN 1 _ + szS 1 l ≤ szN 1 a.node + (szN 1 b.node + szS 1 l) + 65601
  omega
theorem Grow.open {a : Op} {o : List Op} {n : Int} {d : Bool} (h1 : a.node.Kids = []) (h2 : a.node.Attrs.length ≤ 65600) : Grow ⟨o, n, d⟩ ⟨a :: o, n + 1, d⟩ := by
 have x0 := Fo 0 a.node
 have x1 := Fo 1 a.node
 rw [h1] at x0 x1
 have z0 : szL 0 ([] : List Nd) = 0 := rfl
 have z1 : szL 1 ([] : List Nd) = 0 := rfl
 refine ⟨by dsimp only; omega, ?_, ?_⟩
 ·show ((szN 0 a.node + szS 0 o : Nat) : Int) - (n + 1) = (szS 0 o : Int) - n
  omega
 ·show szN 1 a.node + szS 1 o ≤ szS 1 o + 65601
  omega
def Vi (t : Tk) : Bool := (t.Kind == 6) || decide (0 < t.Refs) || !(Lib.trimS t.Text [32, 9, 10, 13] == [])
theorem L6 {b : Op} {n : Int} {d : Bool} {t : Tk} (h : t.Text.length ≤ 262144) : AQ ⟨[b], n, d⟩ t = some (if Vi t = true then 30 else 0, ⟨[b], n, d⟩) := by
 have ht : HW t.Text [32, 9, 10, 13] = some (Lib.trimS t.Text [32, 9, 10, 13]) := by
  unfold HW; rw [if_pos ⟨by omega, by decide, by decide⟩]
 unfold AQ Vi
 dsimp only
 rw [show ((([b] : List Op).length : Int) == 1) = true from rfl, cT]
 simp only [Ar]
 rw [ht]
 cases ((t.Kind == (6 : Int)) || (decide ((0 : Int) < t.Refs))) with
 | true => rfl
 | false =>
  rw [cF, bS]
  cases (!(Lib.trimS t.Text [32, 9, 10, 13] == ([] : LB))) <;> rfl
def Ea (pre : List Nd) : List Op → List Op
 | [] => []
 | [b] => [⟨⟨b.node.Kind, b.node.Name, b.node.Attrs, pre ++ b.node.Kids, b.node.Text⟩, b.raw, b.in_⟩]
 | a :: b :: l => a :: Ea pre (b :: l)
def Gy (pre : List Nd) (m : Int) (r : Rdr) : Rdr := ⟨Ea pre r.open_, r.nodes + m, r.done⟩
theorem Di (pre : List Nd) : ∀ l, (Ea pre l).length = l.length
 | [] => rfl
 | [_] => rfl
 | _ :: b :: l => by show (Ea pre (b :: l)).length + 1 = _; rw [Di pre (b :: l)]; rfl
theorem TW (pre : List Nd) (a : Op) {l : List Op} (h : l ≠ []) : Ea pre (a :: l) = a :: Ea pre l := by
 cases l with
 | nil => exact absurd rfl h
 | cons b l => rfl
theorem HL (pre : List Nd) (b : Op) (l : List Op) : ∃ b', Ea pre (b :: l) = b' :: Ea pre l ∧ b'.in_ = b.in_ ∧ b'.raw = b.raw ∧ b'.node.Text = b.node.Text ∧ (l ≠ [] → b' = b) ∧ b'.node.Kids.length ≤ pre.length + b.node.Kids.length ∧ ∀ x, Ea pre (kid b x :: l) = kid b' x :: Ea pre l := by
 cases l with
 | nil => exact ⟨_, rfl, rfl, rfl, rfl, fun h => absurd rfl h, by simp, fun x => by simp [Ea, kid]⟩
 | cons c l => exact ⟨b, rfl, rfl, rfl, rfl, fun _ => rfl, by omega, fun x => rfl⟩
def SF (y : Option (Int × Rdr)) : Prop := ∃ e r, y = some (e, r) ∧ e ≠ 0
def Step0 (k : Nat) (pre : List Nd) (m : Int) (r : Rdr) (x : Option (Int × Rdr)) (y : Option (Int × Rdr)) : Prop :=
 ∃ e r', x = some (e, r') ∧ (e = 0 → RI (k + 1) r' ∧ Grow r r' ∧ y = some (0, Gy pre m r')) ∧ (e ≠ 0 → SF y)
def fb (k : Nat) (pre : List Nd) (m : Int) (r : Rdr) (x : Option (Int × Rdr)) (y : Option (Int × Rdr)) : Prop :=
 ∃ e r', x = some (e, r') ∧ (e = 0 → RI (k + 1) r' ∧ Grow r r' ∧ (r'.nodes + m ≤ 2000 → y = some (0, Gy pre m r')) ∧ (2000 < r'.nodes + m → SF y)) ∧ (e ≠ 0 → SF y)
theorem Step0.fin {k : Nat} {pre : List Nd} {m : Int} (hm : 0 ≤ m) {r : Rdr} {x y : Option (Int × Rdr)} (h : Step0 k pre m r x y) : fb k pre m r (x.bind fun z => some (fin z)) (y.bind fun z => some (fin z)) := by
 obtain ⟨e, r', rfl, h, hf⟩ := h
 rw [bS]
 by_cases he : e = 0
 ·subst he
  obtain ⟨h1, h2, h3⟩ := h rfl
  rw [h3, bS]
  by_cases hn : 2000 < r'.nodes
  ·exact ⟨_, _, by rw [Rd hn], fun h => (by cases h), fun _ => ⟨5, _, by rw [Rd (by show 2000 < r'.nodes + m; omega)], by decide⟩⟩
  ·exact ⟨_, _, by rw [Yf om], fun _ => ⟨h1, h2, fun h4 => by rw [Yf (by show r'.nodes + m ≤ 2000; exact h4)], fun h4 => ⟨5, _, by rw [Rd (by show 2000 < r'.nodes + m; exact h4)], by decide⟩⟩, fun h => absurd rfl h⟩
 ·obtain ⟨e', r'', rfl, he'⟩ := hf he
  exact ⟨e, r', by unfold Go.Proofs.YtilhbalhkljanaaGreatDoor.fin; rw [if_neg (fun h => he h.1)], fun h => absurd h he, fun _ => ⟨e', r'', by rw [bS]; unfold Go.Proofs.YtilhbalhkljanaaGreatDoor.fin; rw [if_neg (fun h => he' h.1)], he'⟩⟩
section
variable {k : Nat} {pre : List Nd} {m : Int} (hm0 : 0 ≤ m) (hm1 : m ≤ 1000) (hpre : pre.length ≤ 1000) (hk : k ≤ 70000)
include hm0 hm1 hpre hk
theorem Sy {r : Rdr} (h : RI k r) (x : Nd) (x1 : x.Kids = []) (x2 : x.Attrs = []) : Step0 k pre m r (Ba r x) (Ba (Gy pre m r) x) := by
 obtain ⟨o, n, d⟩ := r
 cases o with
 | nil => exact absurd rfl h.ne
 | cons b l =>
  obtain ⟨a1, a2, a3⟩ := h.op b List.mem_cons_self
  have hlen := h.len
  have hn0 := h.n0
  have hn1 := h.n1
  dsimp only at hlen hn0 hn1
  simp only [lC] at hlen
  rw [QD x om om hn0 om]
  obtain ⟨b', e1, _, _, _, _, e5, e6⟩ := HL pre b l
  have eL : Gy pre m ⟨b :: l, n, d⟩ = ⟨b' :: Ea pre l, n + m, d⟩ := by show (⟨Ea pre (b :: l), n + m, d⟩ : Rdr) = _; rw [e1]
  rw [eL, QD x (by rw [Di]; omega) om om om]
  by_cases hx : 8192 < x.Text.length
  ·exact ⟨5, _, by rw [if_pos hx], fun h => (by cases h), fun _ => ⟨5, _, by rw [if_pos hx], by decide⟩⟩
  ·refine ⟨0, _, by rw [if_neg hx], fun _ => ⟨h.kid om, Grow.kid x1 (by rw [x2]; simp), ?_⟩, fun h => absurd rfl h⟩
   rw [if_neg hx]
   show some _ = some ((0 : Int), (⟨Ea pre (kid b x :: l), (n + 1) + m, d⟩ : Rdr))
   rw [e6, show n + 1 + m = n + m + 1 by omega]
theorem Uf {a b : Op} {l : List Op} {n : Int} {d : Bool} (h : RI k ⟨a :: b :: l, n, d⟩) : ∃ r', Bn ⟨a :: b :: l, n, d⟩ = some r' ∧ RI (k + 1) r' ∧ Grow ⟨a :: b :: l, n, d⟩ r' ∧ Bn (Gy pre m ⟨a :: b :: l, n, d⟩) = some (Gy pre m r') := by
 obtain ⟨a1, a2, a3⟩ := h.op b (by simp)
 have hlen := h.len
 simp only [lC] at hlen
 refine ⟨_, IS om om, h.close, Grow.close, ?_⟩
 obtain ⟨b', e1, _, _, _, _, e5, e6⟩ := HL pre b l
 show Bn ⟨Ea pre (a :: b :: l), n + m, d⟩ = _
 rw [TW pre a (by simp), e1, IS (by rw [Di]; omega) om]
 show some _ = some (⟨Ea pre (kid b a.node :: l), n + m, d || decide (l.length = 0)⟩ : Rdr)
 rw [e6, Di]
theorem Oy {r : Rdr} {t : Tk} (h : RI k r) (ft : Fit t) (h24 : t.Kind = 2 ∨ t.Kind = 4) : ∃ e r', AH r t = some (e, r') ∧ (e = 0 → ∃ a, r' = ⟨a :: r.open_, r.nodes + 1, r.done⟩ ∧ a.node.Attrs.length ≤ 65600 ∧ a.node.Kids = [] ∧ RI (k + 1) r' ∧ AH (Gy pre m r) t = some (0, Gy pre m r')) ∧ (e ≠ 0 → SF (AH (Gy pre m r) t)) := by
 obtain ⟨o, n, d⟩ := r
 cases o with
 | nil => exact absurd rfl h.ne
 | cons b l =>
  obtain ⟨a1, a2, a3⟩ := h.op b List.mem_cons_self
  have hlen := h.len
  have hn0 := h.n0
  have hn1 := h.n1
  dsimp only at hlen hn0 hn1
  simp only [lC] at hlen
  obtain ⟨hnm, hpn⟩ := ft.nm h24
  have hps := ft.ps
  by_cases c1 : l.length = 0 ∧ d = true
  ·have key : ∀ (b : Op) (l : List Op) (n : Int), l.length = 0 → AH ⟨b :: l, n, true⟩ t = some (30, ⟨b :: l, n, true⟩) := by
    intro b l n hl
    unfold AH
    simp only [Ar]
    rw [show (((b :: l).length : Int) == 1) = true by simp; omega, cT, cT]
   obtain ⟨c0, rfl⟩ := c1
   obtain ⟨b', e1, _⟩ := HL pre b l
   refine ⟨30, _, key b l n c0, fun h => (by cases h), fun _ => ⟨30, ⟨b' :: Ea pre l, n + m, true⟩, ?_, by decide⟩⟩
   show AH ⟨Ea pre (b :: l), n + m, true⟩ t = _
   rw [e1]
   exact key b' _ _ (by rw [Di]; exact c0)
  obtain ⟨b', e1, e2, e3, e4, e5, e6, _⟩ := HL pre b l
  have eL : Gy pre m ⟨b :: l, n, d⟩ = ⟨b' :: Ea pre l, n + m, d⟩ := by show (⟨Ea pre (b :: l), n + m, d⟩ : Rdr) = _; rw [e1]
  rw [eL]
  have c1' : ¬ ((Ea pre l).length = 0 ∧ d = true) := by rw [Di]; exact c1
  obtain ⟨s', e, hO, hs'⟩ := RC (s := b.in_.binds) (ps := t.Pairs) om hps (fun p hp => by have := hpn p hp; omega)
  have hO1 : Cm b.in_ t.Pairs = some (⟨s'⟩, e) := hO
  obtain ⟨q, hE⟩ := Kh (s := s') (q := t.Name) om om
  obtain ⟨v, ve, hA, hv⟩ := PQ (s := s') (ps := t.Pairs) om hps (fun p hp => by have := hpn p hp; omega)
  have kL := ML (a := b') (l := Ea pre l) (n := n + m) (d := d) t (by rw [Di]; omega) c1'
  rw [e2, hO1, Di] at kL
  rw [ML t om c1, hO1]
  by_cases c2 : 32 < l.length
  ·rw [dT (show (32 : Int) < (l.length : Int) by omega), cT] at kL ⊢
   exact ⟨31, _, rfl, fun h => (by cases h), fun _ => ⟨31, _, kL, by decide⟩⟩
  rw [dF (show ¬ (32 : Int) < (l.length : Int) by omega), cF, bS] at kL ⊢
  dsimp only at kL ⊢
  by_cases c3 : e = 0
  case neg =>
   rw [show (e != 0) = true by simpa using c3, cT] at kL ⊢
   exact ⟨e, _, rfl, fun h => absurd h c3, fun _ => ⟨e, _, kL, c3⟩⟩
  rw [show (e != 0) = false by simpa using c3, cF, hE, bS] at kL ⊢
  by_cases c4 : q.2 = 0
  case neg =>
   rw [show (q.2 != 0) = true by simpa using c4, cT] at kL ⊢
   exact ⟨q.2, _, rfl, fun h => absurd h c4, fun _ => ⟨q.2, _, kL, c4⟩⟩
  rw [show (q.2 != 0) = false by simpa using c4, cF, hA, bS] at kL ⊢
  dsimp only at kL ⊢
  by_cases c5 : ve = 0
  case neg =>
   rw [show (ve != 0) = true by simpa using c5, cT] at kL ⊢
   exact ⟨ve, _, rfl, fun h => absurd h c5, fun _ => ⟨ve, _, kL, c5⟩⟩
  rw [show (ve != 0) = false by simpa using c5, cF, RN _ _ (by dsimp only; omega), bS] at kL ⊢
  dsimp only at kL ⊢
  cases hb : Ua v with
  | true =>
   rw [hb] at kL
   simp only [if_true] at kL ⊢
   exact ⟨5, ⟨b :: l, n, d⟩, rfl, fun h => (by cases h), fun _ => ⟨5, _, kL, by decide⟩⟩
  | false =>
   rw [hb] at kL
   simp only [Bool.false_eq_true, if_false] at kL ⊢
   rw [CU (by simp only [lC, lN]; omega) (by simp only [lC, lN]; omega), bS, w64 om om]
   rw [CU (by simp only [lC, lN, Di]; omega) (by simp only [lC, lN, Di]; omega), bS, w64 om om] at kL
   refine ⟨0, _, rfl, fun _ => ⟨_, rfl, (by show v.length ≤ _; omega), rfl, ⟨by simp, by simp only [lC]; omega, by dsimp only; omega, by dsimp only; omega, fun o ho => ?_, fun o ho => by
    rcases List.mem_cons.1 ho with rfl | ho
    ·rfl
    ·exact h.tx o ho⟩, ?_⟩, fun h => absurd rfl h⟩
   ·rcases List.mem_cons.1 ho with rfl | ho
    ·exact ⟨by simp, by show s'.length ≤ _; omega, by simp⟩
    ·obtain ⟨p1, p2, p3⟩ := h.op o ho
     exact ⟨by omega, by omega, p3⟩
   ·show AH ⟨b' :: Ea pre l, n + m, d⟩ t = some ((0 : Int), (⟨_ :: Ea pre (b :: l), n + 1 + m, d⟩ : Rdr))
    rw [e1, kL, show n + 1 + m = n + m + 1 by omega]
end
theorem RI.setK {k : Nat} {b : Op} {l : List Op} {n : Int} {d : Bool} {ks : List Nd} (h : RI k ⟨b :: l, n, d⟩) (h1 : ks.length ≤ k) (h2 : ∀ x ∈ ks, x.Text.length ≤ 8192) : RI k ⟨Go.Proofs.YtilhbalhkljanaaGreatDoor.setK b ks :: l, n, d⟩ := by
 obtain ⟨a1, a2, a3, a4, a5, a6⟩ := h
 refine ⟨by simp, by simpa using a2, a3, a4, fun o ho => ?_, fun o ho => ?_⟩
 ·rcases List.mem_cons.1 ho with rfl | ho
  ·exact ⟨h1, (a5 b List.mem_cons_self).2.1, h2⟩
  ·exact a5 o (List.mem_cons_of_mem _ ho)
 ·rcases List.mem_cons.1 ho with rfl | ho
  ·exact a6 b List.mem_cons_self
  ·exact a6 o (List.mem_cons_of_mem _ ho)
structure fS (q : Nat) (r r' : Rdr) : Prop where
 n : r.nodes ≤ r'.nodes
 w0 : (szS 0 r'.open_ : Int) - r'.nodes = szS 0 r.open_ - r.nodes
 w1 : szS 1 r'.open_ ≤ szS 1 r.open_ + 65601 * q
section
variable {k : Nat} {pre : List Nd} {m : Int} (hm0 : 0 ≤ m) (hm1 : m ≤ 1000) (hpre : pre.length ≤ 1000) (hk : k ≤ 70000)
include hm0 hm1 hpre hk
theorem PJ {r : Rdr} {t : Tk} (h : RI k r) (ft : Fit t) : Step0 k pre m r (AQ r t) (AQ (Gy pre m r) t) := by
 obtain ⟨o, n, d⟩ := r
 have hn0 := h.n0
 have hn1 := h.n1
 have hlen := h.len
 have htx := ft.tx
 dsimp only at hn0 hn1 hlen
 match o, h, hlen with
 | [], h, _ => exact absurd rfl h.ne
 | [b], h, _ =>
  rw [L6 htx]
  refine ⟨_, _, rfl, fun he => ⟨h.mono, Grow.refl _, ?_⟩, fun he => ⟨_, _, L6 (b := ⟨⟨b.node.Kind, b.node.Name, b.node.Attrs, pre ++ b.node.Kids, b.node.Text⟩, b.raw, b.in_⟩) (n := n + m) (d := d) htx, he⟩⟩
  show AQ ⟨[_], n + m, d⟩ t = _
  rw [L6 htx, he]
  rfl
 | b :: c :: l, h, hlen =>
  simp only [lC] at hlen
  obtain ⟨a1, a2, a3⟩ := h.op b List.mem_cons_self
  obtain ⟨c', e1, _⟩ := HL pre c l
  have eL : Gy pre m ⟨b :: c :: l, n, d⟩ = ⟨b :: c' :: Ea pre l, n + m, d⟩ := by
   show (⟨b :: Ea pre (c :: l), n + m, d⟩ : Rdr) = _
   rw [e1]
  have eS : ∀ b2 n2, Gy pre m ⟨b2 :: c :: l, n2, d⟩ = ⟨b2 :: c' :: Ea pre l, n2 + m, d⟩ := by
   intro b2 n2
   show (⟨b2 :: Ea pre (c :: l), n2 + m, d⟩ : Rdr) = _
   rw [e1]
  rw [eL]
  by_cases ht : t.Text = []
  ·rw [NV om ht, NV (by rw [Di]; omega) ht]
   exact ⟨_, _, rfl, fun _ => ⟨h.mono, Grow.refl _, by rw [eS]⟩, fun h => absurd rfl h⟩
  by_cases hx : ∀ x, b.node.Kids.getLast? = some x → x.Kind ≠ 3
  ·rw [OI om om hn0 om ht hx, OI (by rw [Di]; omega) om om om ht hx]
   by_cases hb : 8192 < t.Text.length
   ·exact ⟨5, _, by rw [if_pos hb], fun h => (by cases h), fun _ => ⟨5, _, by rw [if_pos hb], by decide⟩⟩
   ·refine ⟨0, _, by rw [if_neg hb], fun _ => ⟨h.kid (show t.Text.length ≤ 8192 by omega), Grow.kid rfl (by simp [txN]), ?_⟩, fun h => absurd rfl h⟩
    rw [if_neg hb, eS, show n + m + 1 = n + 1 + m by omega]
  ·obtain ⟨x, hx1, hx3⟩ : ∃ x, b.node.Kids.getLast? = some x ∧ x.Kind = 3 := by
    have := Classical.not_forall.1 hx
    obtain ⟨x, hx⟩ := this
    rw [Classical.not_imp] at hx
    exact ⟨x, hx.1, Classical.not_not.1 hx.2⟩
   obtain ⟨ks, hK⟩ : ∃ ks, b.node.Kids = ks ++ [x] := by
    rcases List.eq_nil_or_concat b.node.Kids with h0 | ⟨ks, y, h0⟩
    ·rw [h0] at hx1; simp at hx1
    ·rw [List.concat_eq_append] at h0
     rw [h0, List.getLast?_concat] at hx1
     exact ⟨ks, by rw [h0, sj hx1]⟩
   have hkl : ks.length + 1 ≤ k := by rw [hK] at a1; simpa using a1
   have hxt := a3 x (by rw [hK]; simp)
   rw [MK (k := ks) (x := x) om om ht hK hx3 om, MK (k := ks) (x := x) (by rw [Di]; omega) om ht hK hx3 om]
   by_cases hb : 8192 < (x.Text ++ t.Text).length
   ·exact ⟨5, _, by rw [if_pos hb], fun h => (by cases h), fun _ => ⟨5, _, by rw [if_pos hb], by decide⟩⟩
   ·refine ⟨0, _, by rw [if_neg hb], fun _ => ⟨(RI.setK h so fun y hy => ?_).mono, ?_, ?_⟩, fun h => absurd rfl h⟩
    ·rcases List.mem_append.1 hy with hy | hy
     ·exact a3 y (by rw [hK]; exact List.mem_append_left _ hy)
     ·rw [List.mem_singleton.1 hy]; dsimp only; omega
    ·have ew : ∀ a, szN a (Go.Proofs.YtilhbalhkljanaaGreatDoor.setK b (ks ++ [⟨x.Kind, x.Name, x.Attrs, x.Kids, x.Text ++ t.Text⟩])).node = szN a b.node := by
      intro a
      rw [Fo, Fo a b.node, hK]
      show 1 + a * b.node.Attrs.length + szL a (ks ++ [⟨x.Kind, x.Name, x.Attrs, x.Kids, x.Text ++ t.Text⟩]) = _
      rw [KH, KH]
      show _ + (_ + (szN a _ + 0)) = _ + (_ + (szN a x + 0))
      rw [Fo, Fo a x]
     refine ⟨Int.le_refl _, ?_, ?_⟩
     ·show ((szN 0 _ + szS 0 (c :: l) : Nat) : Int) - n = ((szN 0 b.node + szS 0 (c :: l) : Nat) : Int) - n
      rw [ew]
     ·show szN 1 _ + szS 1 (c :: l) ≤ szN 1 b.node + szS 1 (c :: l) + 65601
      rw [ew]; omega
    ·rw [if_neg hb, eS]
theorem PL {r : Rdr} {t : Tk} (h : RI k r) (ft : Fit t) : fb k pre m r (Aw r t) (Aw (Gy pre m r) t) := by
 rcases ft.k with hk' | hk' | hk' | hk' | hk' | hk' | hk' | hk'
 ·rw [Uv hk', Uv hk']
  exact Step0.fin (x := some (0, r)) (y := some (0, Gy pre m r)) hm0 ⟨0, r, rfl, fun _ => ⟨h.mono, Grow.refl _, rfl⟩, fun h => absurd rfl h⟩
 ·rw [TT hk', TT hk']
  obtain ⟨e, r', h1, h2, h3⟩ := Oy hm0 hm1 hpre hk h ft (.inl hk')
  refine Step0.fin hm0 ⟨e, r', h1, fun he => ?_, h3⟩
  obtain ⟨a, rfl, h7, h8, h5, h6⟩ := h2 he
  exact ⟨h5, Grow.open h8 h7, h6⟩
 ·rw [S9 hk', S9 hk']
  obtain ⟨o, n, d⟩ := r
  match o, h with
  | [], h => exact absurd rfl h.ne
  | [b], h => exact ⟨26, ⟨[b], n, d⟩, if_pos rfl, fun h => (by cases h), fun _ => ⟨26, _, if_pos rfl, by decide⟩⟩
  | a :: b :: l, h =>
   have hlen := h.len
   simp only [lC] at hlen
   have hl1 : ¬ (⟨a :: b :: l, n, d⟩ : Rdr).open_.length = 1 := by simp
   have hl2 : ¬ (Gy pre m ⟨a :: b :: l, n, d⟩).open_.length = 1 := by show ¬ (Ea pre (a :: b :: l)).length = 1; rw [Di]; simp
   have eL : (Gy pre m ⟨a :: b :: l, n, d⟩).open_ = a :: Ea pre (b :: l) := rfl
   rw [if_neg hl1, if_neg hl2, eL]
   dsimp only
   rw [GJ so, GJ (by rw [Di]; simp; omega), bS, bS]
   dsimp only
   by_cases hr : a.raw = t.Name
   ·rw [if_pos hr, if_pos hr]
    obtain ⟨r', h1, h2, h3, h4⟩ := Uf hm0 hm1 hpre hk h
    rw [h1, h4]
    exact Step0.fin (x := some (0, r')) (y := some (0, Gy pre m r')) hm0 ⟨0, r', rfl, fun _ => ⟨h2, h3, rfl⟩, fun h => absurd rfl h⟩
   ·exact ⟨26, _, by rw [if_neg hr], fun h => (by cases h), fun _ => ⟨26, _, by rw [if_neg hr], by decide⟩⟩
 ·rw [Ty hk', Ty hk']
  obtain ⟨e, r', h1, h2, h3⟩ := Oy hm0 hm1 hpre hk h ft (.inr hk')
  rw [h1, bS]
  dsimp only
  by_cases he : e = 0
  case neg =>
   obtain ⟨e', r'', h4, he'⟩ := h3 he
   rw [h4, bS]
   dsimp only
   exact ⟨e, r', by rw [if_neg he], fun h => absurd h he, fun _ => ⟨e', r'', by rw [if_neg he'], he'⟩⟩
  obtain ⟨a, rfl, h7, h8, h5, h6⟩ := h2 he
  rw [if_pos he, h6, bS]
  dsimp only
  rw [if_pos rfl]
  obtain ⟨o, n, d⟩ := r
  match o, h, h5 with
  | [], h, _ => exact absurd rfl h.ne
  | b :: l, h, h5 =>
   obtain ⟨a1, a2, a3⟩ := h.op b List.mem_cons_self
   have hlen := h.len
   have hn0 := h.n0
   have hn1 := h.n1
   simp only [lC] at hlen
   dsimp only at hn0 hn1 ⊢
   obtain ⟨b', e1, _, _, _, _, e5, e6⟩ := HL pre b l
   have eL : Gy pre m ⟨a :: b :: l, n + 1, d⟩ = ⟨a :: b' :: Ea pre l, n + 1 + m, d⟩ := by
    show (⟨a :: Ea pre (b :: l), n + 1 + m, d⟩ : Rdr) = _
    rw [e1]
   rw [eL, IS om om, IS (by rw [Di]; omega) om]
   refine Step0.fin (x := some (0, _)) (y := some (0, _)) hm0 ⟨0, _, rfl, fun _ => ⟨h.kid (by rw [h5.tx a List.mem_cons_self]; simp), Grow.kid h8 h7, ?_⟩, fun h => absurd rfl h⟩
   show some ((0 : Int), _) = some ((0 : Int), (⟨Ea pre (kid b a.node :: l), n + 1 + m, d || decide (l.length = 0)⟩ : Rdr))
   rw [e6, Di]
 ·rw [Kx (.inl hk'), Kx (.inl hk')]
  exact Step0.fin hm0 (PJ hm0 hm1 hpre hk h ft)
 ·rw [Kx (.inr hk'), Kx (.inr hk')]
  exact Step0.fin hm0 (PJ hm0 hm1 hpre hk h ft)
 ·rw [To hk', To hk']
  exact Step0.fin hm0 (Sy hm0 hm1 hpre hk h _ rfl rfl)
 ·rw [Ts hk', Ts hk']
  exact Step0.fin hm0 (Sy hm0 hm1 hpre hk h _ rfl rfl)
omit hk in
theorem L7 : ∀ (L : List Tk) (k : Nat) (r : Rdr), RI k r → (∀ t ∈ L, Fit t) → k + L.length ≤ 70000 →
  ∃ o, Id L r = some o ∧ (∀ r', o = .inl r' → RI (k + L.length) r' ∧ fS L.length r r' ∧ (r'.nodes + m ≤ 2000 → Id L (Gy pre m r) = some (.inl (Gy pre m r'))) ∧ (2000 < r'.nodes + m → r.nodes + m ≤ 2000 → ∃ x, Id L (Gy pre m r) = some (.inr x))) ∧
   (∀ x, o = .inr x → ∃ y, Id L (Gy pre m r) = some (.inr y))
 | [], k, r, h, _, _ => ⟨.inl r, rfl, fun r' e => by injection e with e; subst e; exact ⟨h, ⟨Int.le_refl _, rfl, by simp⟩, fun _ => rfl, fun h1 h2 => by omega⟩, fun x e => by cases e⟩
 | t :: L, k, r, h, ft, hl => by
  rw [lC] at hl
  obtain ⟨e, r1, h1, h2, h3⟩ := PL hm0 hm1 hpre om h (ft t List.mem_cons_self)
  have hr : ∀ r, Id (t :: L) r = (Aw r t).bind fun x => if x.1 ≠ 0 then some (.inr (t.At, x.1)) else Id L x.2 := fun _ => rfl
  have hfail : SF (Aw (Gy pre m r) t) → ∃ y, Id (t :: L) (Gy pre m r) = some (.inr y) := by
   rintro ⟨e', r'', q1, q2⟩
   rw [hr, q1, bS]
   dsimp only
   exact ⟨_, by rw [if_pos q2]⟩
  rw [hr r, h1, bS]
  dsimp only
  by_cases he : e = 0
  case neg => exact ⟨_, by rw [if_pos he], fun r' e => (by cases e), fun _ _ => hfail (h3 he)⟩
  obtain ⟨g1, g2, g3, g4⟩ := h2 he
  obtain ⟨o, e1, e2, e3⟩ := L7 L (k + 1) r1 g1 (fun u hu => ft u (List.mem_cons_of_mem _ hu)) om
  have hgo : r1.nodes + m ≤ 2000 → Id (t :: L) (Gy pre m r) = Id L (Gy pre m r1) := by
   intro hn
   rw [hr, g3 hn, bS]
   dsimp only
   rw [if_neg (by simp)]
  refine ⟨o, by rw [if_neg (by simpa using he)]; exact e1, fun r' eo => ?_, fun x eo => ?_⟩
  ·obtain ⟨f1, f2, f3, f4⟩ := e2 r' eo
   refine ⟨by rw [lC, show k + (L.length + 1) = k + 1 + L.length by omega]; exact f1, ⟨by have := g2.n; have := f2.n; omega, by rw [f2.w0, g2.w0], by have := g2.w1; have := f2.w1; rw [lC]; omega⟩, fun hm => ?_, fun hm _ => ?_⟩
   ·rw [hgo (by have := f2.n; omega)]; exact f3 hm
   ·by_cases hn : r1.nodes + m ≤ 2000
    ·rw [hgo hn]; exact f4 hm hn
    ·exact hfail (g4 om)
  ·by_cases hn : r1.nodes + m ≤ 2000
   ·rw [hgo hn]; exact e3 x eo
   ·exact hfail (g4 om)
end
theorem YW {b : LB} {i j : Nat} {t : Tk} (hb : b.length ≤ 65536) (g : Yj t) (h : JY b i t j) : Fit t := by
 have hl := h.len
 have hn : ∀ x : LB, IG x → x.length ≤ 65536 := fun x hx => UB hx
 rcases g with ⟨k, n, x, la, g1, g2⟩ | ⟨k, g1, g2, g3, x⟩ | ⟨k, g1, p, x⟩ | ⟨k, n, p, g1, g2, g3⟩ | ⟨k, n, p, g1, g2, g3, g4⟩ | ⟨k, n, p, g1, g2, g3, g4⟩ | ⟨k, g1, p, g2, g3, g4, g5⟩
 ·exact ⟨.inl k, by omega, fun h => absurd h (by rw [k]; decide), by rw [x]; simp⟩
 ·refine ⟨by rcases k with k | k <;> simp [k], by omega, fun _ => ⟨hn _ g1, fun p hp => hn _ (g2 p hp).1⟩, by rw [x]; simp⟩
 ·exact ⟨by simp [k], by omega, fun h => absurd h (by rw [k]; decide), by rw [x]; simp⟩
 ·exact ⟨by simp [k], by omega, fun h => absurd h (by rw [k]; decide), g3⟩
 ·exact ⟨by simp [k], by omega, fun h => absurd h (by rw [k]; decide), by omega⟩
 ·exact ⟨by simp [k], by omega, fun h => absurd h (by rw [k]; decide), by omega⟩
 ·exact ⟨by simp [k], by omega, fun h => absurd h (by rw [k]; decide), by omega⟩
theorem cE {U : LB} (hU : U.length ≤ 65536) (hok : OkT U) (h13 : (13 : UInt8) ∉ U) {L : List Tk} {j : Nat} (h : Tr U L j) : ∀ t ∈ L, Fit t := by
 induction h with
 | nil => intro t ht; simp at ht
 | @snoc L j k t h1 h2 h3 h4 h5 ih =>
  intro u hu
  rcases List.mem_append.1 hu with hu | hu
  ·exact ih u hu
  ·rw [List.mem_singleton.1 hu]
   exact YW hU (NR hU hok h13 h2 h3 h4 h5).1 h4
theorem U8 : RI 0 r0 := ⟨by simp [r0], by simp [r0], by simp [r0], by simp [r0], by simp [r0], by simp [r0]⟩
theorem Vl (p : LB) : (13 : UInt8) ∉ pln p := NJ _ _
theorem Oe {p : LB} {L : List Tk} {a : Int} (hp : p.length ≤ 65536) (h : DH p = some (L, a, 0)) : (∀ t ∈ L, Fit t) ∧ L.length ≤ 65536 ∧ OkT (pln p) ∧ Tr (pln p) L (pln p).length ∧
  Ci p = (Id L r0).bind fun o => match o with
   | .inl r => Xs p r
   | .inr (x, y) => some (nd0, x, y) := by
 obtain ⟨h1, h2, _⟩ := cL hp h
 have hl := Qo p
 have h3 := bZ h2
 exact ⟨cE om h1 (Vl p) h2, by omega, h1, h2, YJ h om⟩
theorem X6 {p : LB} {r : Rdr} (hp : p.length ≤ 1073741824) (h : r.open_ ≠ []) : ∃ x, Xs p r = some x := by
 unfold Xs
 rw [NS p hp]
 cases h1 : decide ((1 : Int) < (r.open_.length : Int)) with
 | true => exact ⟨_, rfl⟩
 | false =>
  have hlen := of_decide_eq_false h1
  rw [cF]
  cases (!r.done) with
  | true => exact ⟨_, rfl⟩
  | false =>
   rw [cF]
   match ho : r.open_, h with
   | [], h => exact absurd rfl h
   | [b], _ => exact ⟨(b.node, 0, 0), rfl⟩
   | a :: b :: l, _ => rw [ho] at hlen; simp at hlen; omega
theorem W6 (p : LB) (hp : p.length ≤ 1073741824) : ∃ x, Ci p = some x := by
 obtain ⟨L, a, e, hA, _⟩ := Th p hp
 by_cases he : e = 0
 ·subst he
  have hl : p.length ≤ 65536 := by
   apply Classical.byContradiction
   intro hc
   unfold DH at hA
   rw [dT om, cT] at hA
   have := sj hA
   injection this with _ this
   injection this with _ this
   cases this
  obtain ⟨h1, h2, _, _, h3⟩ := Oe hl hA
  obtain ⟨o, e1, e2, _⟩ := L7 (pre := []) (m := 0) om om (by simp) L 0 r0 U8 h1 om
  rw [h3, e1, bS]
  cases o with
  | inl r =>
   obtain ⟨g1, _⟩ := e2 r rfl
   exact X6 hp g1.ne
  | inr x => exact ⟨_, rfl⟩
 ·unfold Ci
  rw [hA, bS]
  dsimp only
  rw [show (e != 0) = true by simpa using he, cT]
  exact ⟨_, rfl⟩
section
variable {X b : LB}
variable (hU : (X ++ b).length ≤ 1073741824)
include hU
def shT (At : Int) (t : Tk) : Tk := ⟨t.Kind, At, t.Name, t.Pairs, t.Text, t.Refs⟩
omit hU in
end
inductive Ch (U : LB) : Nat → List Tk → Nat → Prop
 | nil {i : Nat} : Ch U i [] i
 | cons {i k j : Nat} {t : Tk} {L : List Tk} : i < U.length → AJ ⟨U, (i : Int)⟩ (Iy (i : Int)) = some (0, ⟨U, (k : Int)⟩, t) → Ch U k L j → Ch U i (t :: L) j
theorem Ch.app {U : LB} {i j k : Nat} {L M : List Tk} (h : Ch U i L j) (g : Ch U j M k) : Ch U i (L ++ M) k := by
 induction h with
 | nil => exact g
 | cons h1 h2 _ ih => exact .cons h1 h2 (ih g)
theorem Ch.one {U : LB} {i k : Nat} {t : Tk} (h1 : i < U.length) (h2 : AJ ⟨U, (i : Int)⟩ (Iy (i : Int)) = some (0, ⟨U, (k : Int)⟩, t)) : Ch U i [t] k := .cons h1 h2 .nil
theorem PU (t : Tk) (L : List Tk) (r : Rdr) : Id (t :: L) r = (Aw r t).bind fun x => if x.1 ≠ 0 then some (.inr (t.At, x.1)) else Id L x.2 := rfl
theorem XJ {L : List Tk} {r : Rdr} {x : Int × Int} (h : Id L r = some (.inr x)) : x.2 ≠ 0 := by
  induction L generalizing r with
  | nil => cases sj h
  | cons t L ih =>
    rw [PU] at h
    obtain ⟨y, h1, h2⟩ := Dx h
    by_cases hx : y.1 ≠ 0
    · rw [if_pos hx] at h2
      have h2 := sj h2
      injection h2 with h2
      rw [← h2]; exact hx
    · rw [if_neg hx] at h2; exact ih h2
theorem W7 {p : LB} {d : Nd} {a : Int} (hp : p.length ≤ 1073741824) (h : Ci p = some (d, a, 0)) : ∃ L r o, p.length ≤ 65536 ∧ (∀ t ∈ L, Fit t) ∧ L.length ≤ 65536 ∧ OkT (pln p) ∧ Tr (pln p) L (pln p).length ∧ Id L r0 = some (.inl r) ∧ r.open_ = [o] ∧ r.done = true ∧ o.node = d := by
  obtain ⟨L, x, e, hA, _⟩ := Th p hp
  by_cases he : e = 0
  case neg =>
    unfold Ci at h
    rw [hA, bS] at h
    dsimp only at h
    rw [show (e != 0) = true by simpa using he, cT] at h
    injection sj h with _ h
    injection h with _ h
    exact absurd h he
  subst he
  have hl : p.length ≤ 65536 := by
    apply Classical.byContradiction
    intro hc
    unfold DH at hA
    rw [dT om, cT] at hA
    have := sj hA
    injection this with _ this
    injection this with _ this
    cases this
  obtain ⟨h1, h2, h3, h4, h5⟩ := Oe hl hA
  rw [h5] at h
  obtain ⟨o, e1, e2⟩ := Dx h
  cases o with
  | inr y =>
    have := XJ e1
    obtain ⟨y1, y2⟩ := y
    dsimp only at e2
    injection sj e2 with _ e2
    injection e2 with _ e2
    exact absurd e2 this
  | inl r =>
    dsimp only at e2
    have hq : (∃ x, CA p = some x) := ⟨_, NS p om⟩
    obtain ⟨x, hx⟩ := hq
    unfold Xs at e2
    rw [hx] at e2
    cases c1 : decide ((1 : Int) < (r.open_.length : Int)) with
    | true =>
      rw [c1, cT, bS] at e2
      injection sj e2 with _ e2
      injection e2 with _ e2
      cases e2
    | false =>
      rw [c1, cF] at e2
      have hlen := of_decide_eq_false c1
      cases c2 : r.done with
      | false =>
        rw [c2, bF, cT, bS] at e2
        injection sj e2 with _ e2
        injection e2 with _ e2
        cases e2
      | true =>
        rw [c2, bT, cF] at e2
        match ho : r.open_ with
        | [] => rw [ho] at e2; cases e2
        | [b] =>
          rw [ho] at e2
          have e2 : some (b.node, (0 : Int), (0 : Int)) = some (d, a, 0) := e2
          injection sj e2 with e2 _
          exact ⟨L, r, b, hl, h1, h2, h3, h4, e1, ho, c2, e2⟩
        | _ :: _ :: l => rw [ho] at hlen; simp at hlen; omega
theorem ZX (a : Nat) (ks : List Nd) {i : Nat} (hi : i < ks.length) : szL a (ks.take (i + 1)) = szL a (ks.take i) + szN a ks[i] := by
 rw [List.take_succ_eq_append_getElem hi, KH]; rfl
theorem W8 (a : Nat) (ks : List Nd) (i : Nat) : szL a (ks.take i) ≤ szL a ks := by
 have := KH a (ks.take i) (ks.drop i)
 rw [List.take_append_drop] at this; omega
theorem PV : ∀ (n : Nat) (x : Nd) (K : Nat), szN 1 x ≤ n → n ≤ 5000000000 → n ≤ K → iter BP K (x, x) = some true
 | 0, x, K, h, _, _ => by have := Fo 1 x; omega
 | n + 1, x, K, h, hn, hK => by
  obtain ⟨K, rfl⟩ : ∃ k, K = k + 1 := ⟨K - 1, by omega⟩
  have hx := Fo 1 x
  have hl := Lu 1 x.Kids
  refine Wn om om fun k hk => ?_
  have := Nn 1 hk
  exact PV n k K om om om
theorem YP {x : Nd} (h : szN 1 x ≤ 5000000000) : C0 x x = some true := by
 unfold C0
 exact PV _ x Ay h (Nat.le_refl _) (by unfold Ay; omega)
def bys (y : List Int) : LB := y.map fun n => UInt8.ofNat n.toNat
theorem gl {y : List Int} (o : ∀ n ∈ y, okI .u8 n) : (bys y).map AL = y.map fun n => [D.int .u8 n] := by
 unfold bys
 rw [List.map_map]
 refine List.map_congr_left fun n hn => ?_
 have h := o n hn
 unfold okI at h
 have e1 : IntKind.min .u8 = 0 := by decide
 have e2 : IntKind.max .u8 = 255 := by decide
 rw [e1, e2] at h
 have h2 : (UInt8.ofNat n.toNat).toNat = n.toNat := by show n.toNat % 256 = n.toNat; omega
 show [D.int .u8 ((UInt8.ofNat n.toNat).toNat : Int)] = _
 rw [h2, Int.toNat_of_nonneg h.1]
theorem Yc (y : List Int) : (y.map fun _ => 1).sum = y.length := by
 induction y with
 | nil => rfl
 | cons a l ih => rw [List.map_cons, List.sum_cons, ih, lC]; omega
theorem ag (y : List Int) : (bys y).length = y.length := by unfold bys; rw [List.length_map]
structure Doc (p B : LB) (d : Nd) (L : List Tk) (j : Nat) (r : Rdr) (o : Op) : Prop where
 bq : B = lnR false p
 st : RT p = p
 len : p.length ≤ 60000
 ok : OkT B
 c0 : B[0]? = some 60
 tr : Tr B L j
 ls : ∀ t, L.getLast? = some t → t.Kind = 5 → j < B.length
 run : Id L r0 = some (.inl r)
 op : r.open_ = [o]
 dn : r.done = true
 nd : o.node = d
 ws : ∀ c ∈ B.drop j, c = 10 ∨ c = 32 ∨ c = 9
 ft : ∀ t ∈ L, Fit t
 ll : L.length ≤ 65536
section
variable {p B : LB} {d : Nd} {L : List Tk} {j : Nat} {r : Rdr} {o : Op} (D : Doc p B d L j r o)
include D
end
section
variable {p B : LB} {d : Nd} {L : List Tk} {j : Nat} {r : Rdr} {o : Op} (D : Doc p B d L j r o)
include D
end
mutual
def flN : Ad → List Ad
 | ⟨k, n, a, ks, t⟩ => ⟨k, n, a, ks, t⟩ :: flL ks
def flL : List Ad → List Ad
 | [] => []
 | x :: l => flN x ++ flL l
end
theorem TD (x : Nd) : flN x = x :: flL x.Kids := by cases x; rfl
theorem UW : ∀ a b : List Nd, flL (a ++ b) = flL a ++ flL b
 | [], b => rfl
 | x :: a, b => by show flN x ++ flL (a ++ b) = (flN x ++ flL a) ++ flL b; rw [UW a b, List.append_assoc]
theorem aT (x : Nd) : flL [x] = flN x := by show flN x ++ [] = flN x; rw [List.append_nil]
theorem ZT (ks : List Nd) {i : Nat} (hi : i < ks.length) : flL (ks.take (i + 1)) = flL (ks.take i) ++ flN ks[i] := by
 rw [List.take_succ_eq_append_getElem hi, UW, aT]
mutual
theorem Qp : ∀ x : Ad, (flN x).length = szN 0 x
 | ⟨k, n, a, ks, t⟩ => by
  show (flL ks).length + 1 = 1 + 0 * a.length + szL 0 ks
  rw [Q7 ks]; omega
theorem Q7 : ∀ l : List Ad, (flL l).length = szL 0 l
 | [] => rfl
 | x :: l => by
  show (flN x ++ flL l).length = szN 0 x + szL 0 l
  rw [lA, Qp x, Q7 l]
end
theorem Vt : ∀ (n : Nat) (x : Nd) (l : List Nd) (K : Nat), szN 0 x ≤ n → n ≤ 1000000 → l.length + szN 0 x ≤ 1000000 → n ≤ K → iter Dn K (x, l) = some (l ++ flN x)
 | 0, x, l, K, h, _, _, _ => by have := Fo 0 x; omega
 | n + 1, x, l, K, h, hn, hs, hK => by
  obtain ⟨K, rfl⟩ : ∃ k, K = k + 1 := ⟨K - 1, by omega⟩
  have hx := Fo 0 x
  have hl := Lu 0 x.Kids
  have ih := fun y l hy hs => Vt n y l K hy om hs om
  rw [Co]
  generalize iter Dn K = rc at ih ⊢
  unfold Dn
  simp only [Ar]
  obtain ⟨o, e, ho⟩ := CC (b := FU x rc) (fun i s => s = ((l ++ [x]) ++ flL (x.Kids.take i), (i : Int))) (fun o => o = l ++ flN x) x.Kids.length (x0 := (l ++ [x], (0 : Int))) (by
   show _ = ((l ++ [x]) ++ flL [], _); rw [show flL [] = [] from rfl, List.append_nil]; rfl) (by
   rintro i _ rec hi rfl
   left
   have h1 := ZX 0 x.Kids hi
   have h2 := W8 0 x.Kids (i + 1)
   have h3 := Nn 0 (List.getElem_mem hi)
   refine ⟨((l ++ [x]) ++ flL (x.Kids.take (i + 1)), ((i + 1 : Nat) : Int)), ?_, rfl⟩
   unfold FU
   dsimp only
   have h4 := Q7 (x.Kids.take i)
   rw [dT om, cT, A6 hi, bS, ih _ _ om (by simp only [lA, lC, lN]; omega), bS, w64 om om, ZT _ hi, List.append_assoc]
   rfl) (by
   rintro _ rec rfl
   refine ⟨l ++ flN x, ?_, rfl⟩
   unfold FU
   dsimp only
   rw [dF om, cF, List.take_length, TD, List.append_assoc]
   rfl) (n := Ay) (by unfold Ay; omega)
  rw [CU (by simp only [lC, lN]; omega) (by simp only [lC, lN]; omega), bS, e, bS, ho]
theorem Ya {d : Nd} (h : szN 0 d ≤ 100000) : Gu d [] = some (flN d) := by
 unfold Gu
 exact Vt (szN 0 d) d [] Ay (Nat.le_refl _) om so (by unfold Ay; omega)
theorem Ef {l : List Nd} {f : Nd → Option Bool} (hl : l.length ≤ 1000000) (h : ∀ x ∈ l, f x = some false) : An l f = some false := by
 unfold An Bt
 simp only [Ar]
 obtain ⟨o, e, rfl⟩ := CC (b := BE l f) (fun i s => s = (i : Int)) (fun o => o = .inl ()) l.length (x0 := (0 : Int)) rfl (by
  rintro i _ rec hi rfl
  left
  refine ⟨((i + 1 : Nat) : Int), ?_, rfl⟩
  unfold BE
  rw [dT om, cT, A6 hi, bS, h _ (List.getElem_mem hi), bS, cF, w64 om om]
  rfl) (by
  rintro _ rec rfl
  refine ⟨_, ?_, rfl⟩
  unfold BE
  rw [dF om, cF]) (n := Ay) (by unfold Ay; omega)
 rw [e]
 rfl
theorem H0 {l : List At} {f : At → Option Bool} (hl : l.length ≤ 1000000) (h : ∀ x ∈ l, f x = some false) : AE l f = some false := by
 unfold AE Bs
 simp only [Ar]
 obtain ⟨o, e, rfl⟩ := CC (b := BF l f) (fun i s => s = (i : Int)) (fun o => o = .inl ()) l.length (x0 := (0 : Int)) rfl (by
  rintro i _ rec hi rfl
  left
  refine ⟨((i + 1 : Nat) : Int), ?_, rfl⟩
  unfold BF
  rw [dT om, cT, A6 hi, bS, h _ (List.getElem_mem hi), bS, cF, w64 om om]
  rfl) (by
  rintro _ rec rfl
  refine ⟨_, ?_, rfl⟩
  unfold BF
  rw [dF om, cF]) (n := Ay) (by unfold Ay; omega)
 rw [e]
 rfl
mutual
def dpN : Ad → Nat → Prop
 | ⟨k, _, _, ks, _⟩, a => (k = 2 → a ≤ 32) ∧ dpL ks (if k = 2 then a + 1 else a)
def dpL : List Ad → Nat → Prop
 | [], _ => True
 | x :: l, a => dpN x a ∧ dpL l a
end
theorem QV (x : Nd) (a : Nat) : dpN x a ↔ (x.Kind = 2 → a ≤ 32) ∧ dpL x.Kids (if x.Kind = 2 then a + 1 else a) := by cases x; exact Iff.rfl
theorem LM : ∀ {l : List Nd} {a : Nat}, dpL l a ↔ ∀ x ∈ l, dpN x a
 | [], a => ⟨fun _ x h => by simp at h, fun _ => trivial⟩
 | y :: l, a => ⟨fun h x hx => by
   rcases List.mem_cons.1 hx with rfl | hx
   ·exact h.1
   ·exact LM.1 h.2 x hx, fun h => ⟨h y List.mem_cons_self, LM.2 fun x hx => h x (List.mem_cons_of_mem _ hx)⟩⟩
theorem Ve : ∀ (n : Nat) (x : Nd) (a : Nat) (K : Nat), szN 0 x ≤ n → n ≤ 1000000 → n ≤ K → dpN x a → a ≤ 40 → iter DM K (x, (a : Int)) = some false
 | 0, x, a, K, h, _, _, _, _ => by have := Fo 0 x; omega
 | n + 1, x, a, K, h, hn, hK, hd, ha => by
  obtain ⟨K, rfl⟩ : ∃ k, K = k + 1 := ⟨K - 1, by omega⟩
  have hx := Fo 0 x
  have hl := Lu 0 x.Kids
  have ih := fun y a hy hd ha => Ve n y a K hy om om hd ha
  obtain ⟨d1, d2⟩ := (QV x a).1 hd
  rw [Co]
  generalize iter DM K = rc at ih ⊢
  have hc : ∀ b : Nat, b ≤ 40 → dpL x.Kids b → An x.Kids (fun z0 => Gb rc z0 (b : Int)) = some false := by
   intro b hb hdl
   refine Ef om fun y hy => ?_
   have h3 := Nn 0 hy
   unfold Gb
   rw [ih y b om (LM.1 hdl y hy) hb]
   rfl
  unfold DM
  simp only [Ar]
  by_cases hk : x.Kind = 2
  ·have h32 := d1 hk
   rw [if_pos hk] at d2
   rw [show (x.Kind == (2 : Int)) = true by simpa using hk, cT, dF om, cF, w64 om om]
   have := hc (a + 1) om d2
   rw [show ((a + 1 : Nat) : Int) = (a : Int) + 1 by omega] at this
   rw [this]; rfl
  ·rw [if_neg hk] at d2
   rw [show (x.Kind == (2 : Int)) = false by simpa using hk, cF, hc a ha d2]; rfl
theorem ZY {d : Nd} (h : szN 0 d ≤ 100000) (hd : dpN d 0) : Iq d (0 : Int) = some false := by
 unfold Iq
 exact Ve (szN 0 d) d 0 Ay (Nat.le_refl _) om (by unfold Ay; omega) hd om
structure NOk (x : Nd) : Prop where
 odd : He x = some false
 great : F1 x = some false
 misnamed : EA x = some false
 spoilt : Fi x = some false
 unordered : Em x = some false
 wrongText : El x = some false
def isE (x : Nd) : Bool := x.Kind == (2 : Int)
theorem Zg {d : Nd} (hk : d.Kind = 1) (hs : szN 0 d ≤ 2001) (hd : dpN d 0) (h : ∀ x ∈ flN d, NOk x) (h1 : d.Kids.countP isE = 1) : F2 d = some 0 := by
 have hl : (flN d).length ≤ 1000000 := by rw [Qp]; omega
 have hlen : ((flN d).length : Int) = (szN 0 d : Int) := by rw [Qp]
 have hpos := Fo 0 d
 have hkl := Lu 0 d.Kids
 unfold F2
 rw [Ya om, bS]
 simp only [Ar]
 rw [show (d.Kind != (1 : Int)) = false by rw [hk]; rfl, cF, Ef hl (fun x hx => (h x hx).odd), bS, cF, ZY om hd, bS, cF, hlen, w64 om om, dF om, cF, Ef hl (fun x hx => (h x hx).great), bS, cF,
  Ef hl (fun x hx => (h x hx).misnamed), bS, cF, Ef hl (fun x hx => (h x hx).spoilt), bS, cF, Ef hl (fun x hx => (h x hx).unordered), bS, cF, Ef hl (fun x hx => (h x hx).wrongText), bS, cF]
 obtain ⟨o, e, ho⟩ := CC (b := Ff d) (fun i s => s = (((d.Kids.take i).countP isE : Int), (i : Int))) (fun o => o = (d.Kids.countP isE : Int)) d.Kids.length (x0 := ((0 : Int), (0 : Int))) rfl (by
  rintro i _ rec hi rfl
  left
  have hc : (d.Kids.take (i + 1)).countP isE = (d.Kids.take i).countP isE + if isE d.Kids[i] = true then 1 else 0 := by
   rw [List.take_succ_eq_append_getElem hi, List.countP_append, List.countP_singleton]
  have hle : (d.Kids.take i).countP isE ≤ d.Kids.length := Nat.le_trans List.countP_le_length (by rw [List.length_take]; omega)
  refine ⟨(((d.Kids.take (i + 1)).countP isE : Int), ((i + 1 : Nat) : Int)), ?_, rfl⟩
  unfold Ff
  simp only [Ar]
  rw [dT om, cT, A6 hi, bS, w64 (x := (i : Int) + 1) om om, hc]
  cases hb : isE d.Kids[i] with
  | true =>
   rw [show (d.Kids[i].Kind == (2 : Int)) = true from hb, cT, w64 om om]
   simp
  | false =>
   rw [show (d.Kids[i].Kind == (2 : Int)) = false from hb, cF]
   simp) (by
  rintro _ rec rfl
  refine ⟨_, ?_, rfl⟩
  unfold Ff
  simp only [Ar]
  rw [dF om, cF, List.take_length]) (n := Ay) (by unfold Ay; omega)
 rw [e, bS, ho, h1]
 rfl
def M2 (p k : Int) : Prop := (p = 1 ∧ (k = 2 ∨ k = 4 ∨ k = 5)) ∨ (p = 2 ∧ (k = 2 ∨ k = 3 ∨ k = 4 ∨ k = 5))
theorem di {p k : Int} (h : M2 p k) : H9 p k = some true := by
 unfold H9
 rcases h with ⟨rfl, rfl | rfl | rfl⟩ | ⟨rfl, rfl | rfl | rfl | rfl⟩ <;> rfl
def Zs (x : Nd) : Prop :=
 (x.Kind = 1 ∧ x.Name = ⟨[], []⟩ ∧ x.Attrs = [] ∧ x.Text = []) ∨ (x.Kind = 2 ∧ x.Text = []) ∨ ((x.Kind = 3 ∨ x.Kind = 4) ∧ x.Name = ⟨[], []⟩ ∧ x.Attrs = [] ∧ x.Kids = []) ∨ (x.Kind = 5 ∧ x.Name.URI = [] ∧ x.Attrs = [] ∧ x.Kids = [])
theorem dO {x : Nd} (h : Zs x) (hl : x.Kids.length ≤ 1000000) (hk : ∀ y ∈ x.Kids, M2 x.Kind y.Kind) : He x = some false := by
 have hc : An x.Kids (fun z0 => GN z0 x) = some false := Ef hl fun y hy => by
  unfold GN
  rw [di (hk y hy)]; rfl
 unfold He
 simp only [Ar, hc]
 rcases h with ⟨k, n, a, t⟩ | ⟨k, t⟩ | ⟨k | k, n, a, _⟩ | ⟨k, n, a, _⟩
 ·rw [k, n, a, t]; rfl
 ·rw [k, t]; rfl
 ·rw [k, n, a]; rfl
 ·rw [k, n, a]; rfl
 ·rw [k, n, a]; rfl
theorem Yk {x : Nd} (ha : x.Attrs.length ≤ 64) (ht : x.Text.length ≤ 8192) (hv : ∀ a ∈ x.Attrs, a.Value.length ≤ 8192) : F1 x = some false := by
 unfold F1
 simp only [Ar]
 rw [dF om, dF om, Bool.or_false, cF, H0 om fun a h => by
  unfold GR; rw [dF (by have := hv a h; omega)]]
 rfl
theorem Tu {p : LB} (h : OkT p) (hl : p.length ≤ 1073741824) : Gi p = some false := by
 unfold Gi
 rcases P5 p hl with ⟨hf, _⟩ | ⟨_, _, _, _, hno, _⟩
 ·rw [hf]; rfl
 ·exact absurd h hno
def Yx (p : LB) : Prop := OkT p ∧ p.length ≤ 1073741824
theorem Wy {x : Nd} (ha : x.Attrs.length ≤ 64) (ht : Yx x.Text) (hv : ∀ a ∈ x.Attrs, Yx a.Value) : Fi x = some false := by
 unfold Fi
 simp only [Ar]
 rw [Tu ht.1 ht.2, bS, cF, H0 om fun a h => by
  unfold Ge; rw [Tu (hv a h).1 (hv a h).2]; rfl]
 rfl
def Ob : LB := [104, 116, 116, 112, 58, 47, 47, 119, 119, 119, 46, 119, 51, 46, 111, 114, 103, 47, 50, 48, 48, 48, 47, 120, 109, 108, 110, 115, 47]
structure Tt (n : Ah) : Prop where
 loc : GZ n.Local = true
 len : n.URI.length ≤ 100
 ok : OkT n.URI
 no : n.URI ≠ Ob
theorem LF {n : Ah} (h : Tt n) : Ek n = some false := by
 unfold Ek
 simp only [Ar]
 rw [Js, h.loc, bS, bT, Bool.false_or, dF (by have := h.len; omega), cF, Tu h.ok (by have := h.len; omega), bS, Bool.false_or]
 have := h.no
 rw [show (n.URI == ([104, 116, 116, 112, 58, 47, 47, 119, 119, 119, 46, 119, 51, 46, 111, 114, 103, 47, 50, 48, 48, 48, 47, 120, 109, 108, 110, 115, 47] : LB)) = false from bn.2 this]
theorem Sh {x : Nd} (ha : x.Attrs.length ≤ 64) (h2 : x.Kind = 2 → Tt x.Name ∧ ∀ a ∈ x.Attrs, Tt a.Name ∧ ¬ (a.Name.URI = [] ∧ a.Name.Local = [120, 109, 108, 110, 115]))
  (h5 : x.Kind = 5 → GZ x.Name.Local = true ∧ AZ x.Name.Local [120, 109, 108] = some false) : EA x = some false := by
 unfold EA
 simp only [Ar]
 by_cases k2 : x.Kind = 2
 ·obtain ⟨g1, g2⟩ := h2 k2
  rw [show (x.Kind == (2 : Int)) = true by simpa using k2, cT, LF g1, bS, cF, H0 om fun a h => by
   obtain ⟨q1, q2⟩ := g2 a h
   unfold Ft
   rw [LF q1, bS, Bool.false_or]
   congr 1
   rw [Bool.and_true, Bool.and_eq_false_iff, bn, bn]
   by_cases hu : a.Name.URI = []
   ·right; exact fun hl => q2 ⟨hu, hl⟩
   ·left; exact hu]
  rfl
 ·rw [show (x.Kind == (2 : Int)) = false by simpa using k2, cF]
  by_cases k5 : x.Kind = 5
  ·obtain ⟨g1, g2⟩ := h5 k5
   rw [show (x.Kind == (5 : Int)) = true by simpa using k5, cT, Js, g1, bS, bT, cF, g2]
   rfl
  ·rw [show (x.Kind == (5 : Int)) = false by simpa using k5, cF]
def YK (l : List At) : Prop := ∀ i (h : i + 1 < l.length), ∃ z : Int, FW (l[i]'om).Name l[i + 1].Name = some z ∧ z < 0
theorem Qu {x : Nd} (ha : x.Attrs.length ≤ 64) (h : YK x.Attrs) : Em x = some false := by
 unfold Em
 simp only [Ar]
 obtain ⟨o, e, rfl⟩ := CC (b := D8 x) (fun i s => s = (i : Int)) (fun o => o = .inl ()) x.Attrs.length (x0 := (0 : Int)) rfl (by
  rintro i _ rec hi rfl
  left
  refine ⟨((i + 1 : Nat) : Int), ?_, rfl⟩
  unfold D8
  simp only [Ar]
  have w1 : IntKind.wrap .i64 ((i : Int) + 1) = ((i + 1 : Nat) : Int) := by rw [w64 om om]; omega
  rw [dT om, cT, w1]
  by_cases h0 : i = 0
  ·subst h0
   rw [dF om, cF, cF]
  ·obtain ⟨j, rfl⟩ : ∃ j, i = j + 1 := ⟨i - 1, by omega⟩
   obtain ⟨z, z1, z2⟩ := h j hi
   have w2 : IntKind.wrap .i64 (((j + 1 : Nat) : Int) - 1) = (j : Int) := by rw [w64 om om]; omega
   rw [dT om, cT, w2, A6 om, bS, A6 hi, bS, z1, bS, dF om, cF]) (by
  rintro _ rec rfl
  refine ⟨_, ?_, rfl⟩
  unfold D8
  simp only [Ar]
  rw [dF om, cF]) (n := Ay) (by unfold Ay; omega)
 rw [e]
 rfl
def PM (l : List Nd) : Prop := ∀ i (h : i + 1 < l.length), ¬ ((l[i]'om).Kind = 3 ∧ l[i + 1].Kind = 3)
structure Ub (x : Nd) : Prop where
 t : x.Kind = 3 → x.Text ≠ []
 c : x.Kind = 4 → Lib.contains x.Text [45, 45] = false ∧ (13 : UInt8) ∉ x.Text ∧ x.Text.getLast? ≠ some 45
 i : x.Kind = 5 → Lib.contains x.Text [63, 62] = false ∧ (13 : UInt8) ∉ x.Text ∧ ∀ c z, x.Text = c :: z → c ≠ 32 ∧ c ≠ 9 ∧ c ≠ 10
 len : x.Text.length ≤ 1000000
theorem L3 {s : LB} {c : UInt8} (h : c ∉ s) : Lib.contains s [c] = false := by
 have key : ∀ s : LB, c ∉ s → Lib.index s [c] < 0 := by
  intro s hs
  apply Classical.byContradiction
  intro hc
  obtain ⟨n, e⟩ : ∃ n : Nat, Lib.index s [c] = (n : Int) := ⟨(Lib.index s [c]).toNat, by omega⟩
  obtain ⟨o1, o2⟩ := HJ e (by simp)
  have hd : s.drop n ≠ [] := by intro h0; rw [h0] at o1; simp at o1
  obtain ⟨x, t, ht⟩ := List.exists_cons_of_ne_nil hd
  rw [ht] at o1
  have hx : x = c := by
   rw [List.isPrefixOf_cons_cons, Bool.and_eq_true, beq_iff_eq] at o1; exact o1.1.symm
  have hm : x ∈ s.drop n := by rw [ht]; exact List.mem_cons_self
  exact hs (hx ▸ List.mem_of_mem_drop hm)
 have := key s h
 unfold Lib.contains
 simp
 omega
theorem Hi {s u : LB} (hl : s.length ≤ 1000000) (h : Lib.contains s u = false) : E3 s u = some false := by
 unfold E3
 rw [if_pos om, h]
theorem TZ {s : LB} {c : UInt8} (hl : s.length ≤ 1000000) (h : s.getLast? ≠ some c) : D6 s [c] = some false := by
 unfold D6 D0
 simp only [Ar]
 by_cases h0 : s = []
 ·subst h0; rfl
 ·have hp : 0 < s.length := List.length_pos_iff.2 h0
  rw [show (([c] : LB).length : Int) = 1 from rfl, dT om, cT, w64 om om,
   show ((s.length : Int) - 1) = ((s.length - 1 : Nat) : Int) by omega]
  have e : slc s ((s.length - 1 : Nat) : Int) (s.length : Int) = some [s.getLast h0] := by
   unfold slc
   rw [if_pos om]
   congr 1
   rw [show (((s.length - 1 : Nat) : Int)).toNat = s.length - 1 by omega, show ((s.length : Int)).toNat = s.length by omega]
   rw [show s.length - (s.length - 1) = 1 by omega, List.drop_eq_getElem_cons om, List.take_succ_cons, List.take_zero, List.getLast_eq_getElem]
  rw [e, bS, bS]
  congr 1
  rw [bn]
  intro hc
  apply h
  rw [List.getLast?_eq_some_getLast h0]
  simpa using hc
theorem RP {s : LB} (h : ∀ c z, s = c :: z → c ≠ 32 ∧ c ≠ 9 ∧ c ≠ 10) : G3 s [32, 9, 10] = some s := by
 unfold G3
 rw [if_pos dc]
 congr 1
 unfold Lib.trimLeftS
 cases s with
 | nil => rfl
 | cons c z =>
  obtain ⟨h1, h2, h3⟩ := h c z rfl
  rw [List.dropWhile_cons_of_neg]
  simp [h1, h2, h3]
theorem Qx {x : Nd} (hl : x.Kids.length ≤ 1000000) (ha : PM x.Kids) (hw : Ub x) : El x = some false := by
 have hlen := hw.len
 unfold El
 simp only [Ar]
 obtain ⟨o, e, rfl⟩ := CC (b := D5 x) (fun i s => s = (i : Int)) (fun o => o = .inl ()) x.Kids.length (x0 := (0 : Int)) rfl (by
  rintro i _ rec hi rfl
  left
  refine ⟨((i + 1 : Nat) : Int), ?_, rfl⟩
  unfold D5
  simp only [Ar]
  have w1 : IntKind.wrap .i64 ((i : Int) + 1) = ((i + 1 : Nat) : Int) := by rw [w64 om om]; omega
  rw [dT om, cT, w1, A6 hi, bS]
  by_cases h0 : i = 0
  ·subst h0
   rw [dF om, Bool.false_and, cF, cF]
  ·obtain ⟨j, rfl⟩ : ∃ j, i = j + 1 := ⟨i - 1, by omega⟩
   have w2 : IntKind.wrap .i64 (((j + 1 : Nat) : Int) - 1) = (j : Int) := by rw [w64 om om]; omega
   rw [dT om, Bool.true_and, w2, A6 om, bS]
   have hz := ha j hi
   by_cases k1 : x.Kids[j + 1].Kind = 3
   ·rw [show (x.Kids[j + 1].Kind == (3 : Int)) = true by simpa using k1, cT]
    rw [show ((x.Kids[j]'om).Kind == (3 : Int)) = false by simpa using fun k0 => hz ⟨k0, k1⟩, cF]
   ·rw [show (x.Kids[j + 1].Kind == (3 : Int)) = false by simpa using k1, cF, cF]) (by
  rintro _ rec rfl
  refine ⟨_, ?_, rfl⟩
  unfold D5
  simp only [Ar]
  rw [dF om, cF]) (n := Ay) (by unfold Ay; omega)
 rw [e, bS]
 simp only
 by_cases k3 : x.Kind = 3
 ·rw [show (x.Kind == (3 : Int)) = true by simpa using k3, cT]
  congr 1
  rw [bn]
  exact hw.t k3
 ·rw [show (x.Kind == (3 : Int)) = false by simpa using k3, cF]
  by_cases k4 : x.Kind = 4
  ·obtain ⟨c1, c2, c3⟩ := hw.c k4
   rw [show (x.Kind == (4 : Int)) = true by simpa using k4, cT, Hi hlen c1, bS, cF, TZ hlen c3, bS, cF, Hi hlen (L3 c2), bS]
  ·rw [show (x.Kind == (4 : Int)) = false by simpa using k4, cF]
   by_cases k5 : x.Kind = 5
   ·obtain ⟨c1, c2, c3⟩ := hw.i k5
    rw [show (x.Kind == (5 : Int)) = true by simpa using k5, cT, Hi hlen c1, bS, cF, Hi hlen (L3 c2), bS, cF, RP c3, bS]
    simp
   ·rw [show (x.Kind == (5 : Int)) = false by simpa using k5, cF]
theorem XM (x y : Ah) : FW x y = some (QC x y) := by
 unfold FW
 rw [Jb, bS, Jb, bS, bK, bS]
 rfl
theorem HN {σ ρ : Type} {b : (σ → Option ρ) → σ → Option ρ} (P : σ → Prop) (Q : ρ → Prop)
  (step : ∀ (s : σ) (rec : σ → Option ρ) (o : ρ), P s → (∀ s' o', P s' → rec s' = some o' → Q o') → b rec s = some o → Q o) : ∀ (n : Nat) (s : σ) (o : ρ), P s → iter b n s = some o → Q o
 | 0, s, o, _, e => by simp [iter] at e
 | n + 1, s, o, hP, e => by
  rw [Co] at e
  exact step s _ o hP (fun s' o' h1 h2 => HN P Q step n s' o' h1 h2) e
theorem bnd {α β : Type} {x : Option α} {f : α → Option β} {y : β} (h : x.bind f = some y) : ∃ a, x = some a ∧ f a = some y := Option.bind_eq_some_iff.1 h
theorem Nx {α : Type} {l : List α} {i : Int} {x : α} (h : idx l i = some x) : x ∈ l := by
 unfold idx at h
 split at h
 ·exact List.mem_of_getElem? h
 ·cases h
theorem TO {h r : List Ai} {f : Ai → Option Bool} (e : AS h f = some r) : ∀ x ∈ r, x ∈ h := by
 unfold AS at e
 obtain ⟨i, _, e⟩ := bnd e
 cases hi : i == (-1 : Int) with
 | true => rw [hi, cT] at e; cases e; exact fun x h => h
 | false =>
  rw [hi, cF] at e
  simp only [Ar] at e
  obtain ⟨⟨a, j⟩, e1, e2⟩ := bnd e
  have hQ := HN (b := AD f) (fun s => ∀ x ∈ s.1, x ∈ h) (fun o => ∀ x ∈ o.1, x ∈ h) (by
   rintro ⟨l, i, j⟩ rec o hP ih e
   unfold AD at e
   simp only [Ar] at e
   cases hc : decide (j < (l.length : Int)) with
   | false => rw [hc, cF] at e; cases e; exact hP
   | true =>
    rw [hc, cT] at e
    obtain ⟨x, x1, e⟩ := bnd e
    obtain ⟨c, _, e⟩ := bnd e
    cases c with
    | true => rw [bT, cF] at e; exact ih (l, i, IntKind.wrap .i64 (j + 1)) _ hP e
    | false =>
     rw [bF, cT] at e
     obtain ⟨y, _, e⟩ := bnd e
     refine ih _ _ (fun z hz => ?_) e
     dsimp only at hz
     rcases List.mem_or_eq_of_mem_set hz with hz | rfl
     ·exact hP z hz
     ·exact hP z (Nx x1)) _ _ _ (fun x h => h) e1
  dsimp only at e2 hQ
  obtain ⟨_, _, e2⟩ := bnd e2
  obtain ⟨_, _, e2⟩ := bnd e2
  cases e2
  exact fun x hx => hQ x (List.mem_of_mem_take hx)
structure IA (b : Ai) : Prop where
 ne : b.uri ≠ []
 len : b.uri.length ≤ 100
 ok : OkT b.uri
 no : b.uri ≠ Ob
theorem UL {p u : LB} (h : EF p u = some 0) : u ≠ Ob ∧ u.length ≤ 100 := by
 unfold EF at h
 simp only [Ar] at h
 cases h1 : p == ([120, 109, 108, 110, 115] : LB) with
 | true => rw [h1, cT, cT] at h; cases h
 | false =>
  rw [h1, cF] at h
  cases h2 : u == ([104, 116, 116, 112, 58, 47, 47, 119, 119, 119, 46, 119, 51, 46, 111, 114, 103, 47, 50, 48, 48, 48, 47, 120, 109, 108, 110, 115, 47] : LB) with
  | true => rw [h2, cT, cT] at h; cases h
  | false =>
   rw [h2, cF] at h
   refine ⟨bn.1 h2, ?_⟩
   cases h3 : decide ((100 : Int) < (u.length : Int)) with
   | true =>
    rw [h3, cT] at h
    exfalso
    revert h
    generalize (!((p == ([120, 109, 108] : LB)) == _)) = b1
    generalize ((!(p == ([] : LB))) && (u == ([] : LB))) = b2
    cases b1 <;> cases b2 <;> exact fun h => by cases h
   | false => have := of_decide_eq_false h3; omega
theorem bB {s s' : List Ai} {ps : List TP} (hs : ∀ b ∈ s, IA b) (hp : ∀ p ∈ ps, OkT p.Value) (e : Cm ⟨s⟩ ps = some (⟨s'⟩, 0)) : ∀ b ∈ s', IA b := by
 unfold Cm at e
 simp only [Ar] at e
 obtain ⟨x3, e3, e5⟩ := bnd e
 clear e
 have e3' : x3 = s := by
  unfold app at e3
  split at e3
  ·cases e3; rfl
  ·cases e3
 rw [e3'] at e5
 clear e3 e3' x3
 obtain ⟨o, e1, e⟩ := bnd e5
 clear e5
 have hQ := HN (b := CH ps) (fun s => ∀ b ∈ s.2.2.1, IA b) (fun o => (∀ z, o = .inl z → ∀ b ∈ z.2, IA b) ∧ ∀ z, o = .inr z → z.2 ≠ 0) (by
  rintro ⟨a, h, bs, i⟩ rec o hP ih e
  dsimp only at hP
  unfold CH at e
  simp only [Ar] at e
  cases hc : decide (i < (ps.length : Int)) with
  | false =>
   rw [hc, cF] at e; cases e
   exact ⟨fun z hz => (by cases hz; exact hP), fun z hz => by cases hz⟩
  | true =>
   rw [hc, cT] at e
   obtain ⟨x, x1, e⟩ := bnd e
   obtain ⟨c, _, e⟩ := bnd e
   cases hd : (!c.2) with
   | true => rw [hd, cT] at e; exact ih _ _ (by exact hP) e
   | false =>
    rw [hd, cF] at e
    obtain ⟨w, w1, e⟩ := bnd e
    cases hw : w != (0 : Int) with
    | true => rw [hw, cT] at e; cases e; exact ⟨fun z hz => (by cases hz), fun z hz => by cases hz; simpa using hw⟩
    | false =>
     rw [hw, cF] at e
     obtain rfl : w = 0 := by simpa using hw
     obtain ⟨w2, w3⟩ := UL w1
     obtain ⟨q, _, e⟩ := bnd e
     cases q with
     | true => rw [cT] at e; cases e; exact ⟨fun z hz => (by cases hz), fun z hz => by cases hz; simp⟩
     | false =>
      rw [cF] at e
      obtain ⟨_, _, e⟩ := bnd e
      obtain ⟨y, y1, e⟩ := bnd e
      have hy := TO y1
      cases hn : (!(c.1 == ([120, 109, 108] : LB))) && (!(x.Value == ([] : LB))) with
      | false => rw [hn, cF] at e; exact ih _ _ (fun b hb => hP b (hy b hb)) e
      | true =>
       rw [hn, cT] at e
       obtain ⟨_, _, e⟩ := bnd e
       obtain ⟨a107, ha, e⟩ := bnd e
       cases ha
       refine ih _ _ (fun b hb => ?_) e
       rcases List.mem_append.1 hb with hb | hb
       ·exact hP b (hy b hb)
       ·rw [List.mem_singleton.1 hb]
        rw [Bool.and_eq_true, Bool.not_eq_true', Bool.not_eq_true'] at hn
        exact ⟨bn.1 hn.2, w3, hp x (Nx x1), w2⟩) _ _ _ hs e1
 cases o with
 | inl z => dsimp only at e; cases e; exact hQ.1 z rfl
 | inr z => dsimp only at e; cases e; exact absurd rfl (hQ.2 _ rfl)
theorem XD {s : List Ai} {p : LB} {u : LB} (hs : ∀ b ∈ s, IA b) (e : CY ⟨s⟩ p = some (u, true)) : u.length ≤ 100 ∧ OkT u ∧ u ≠ Ob ∧ (u = [] → p = []) := by
 unfold CY at e
 simp only [Ar] at e
 cases h1 : p == ([120, 109, 108] : LB) with
 | true =>
  rw [h1, cT] at e
  injection e with e
  injection e with e _
  subst e
  exact ⟨by decide, Vw _ dc, by decide, fun h => by cases h⟩
 | false =>
  rw [h1, cF] at e
  obtain ⟨o, e1, e⟩ := bnd e
  have hQ := HN (b := Cw ⟨s⟩ p) (fun _ => True) (fun o => ∀ z, o = .inr z → ∃ b ∈ s, z.1 = b.uri) (by
   rintro i rec o hP ih e
   unfold Cw at e
   cases hc : decide (i < (s.length : Int)) with
   | false => rw [hc, cF] at e; cases e; exact fun z hz => by cases hz
   | true =>
    rw [hc, cT] at e
    obtain ⟨x, x1, e⟩ := bnd e
    cases hx : x.prefix_ == p with
    | true => rw [hx, cT] at e; cases e; exact fun z hz => by cases hz; exact ⟨x, Nx x1, rfl⟩
    | false => rw [hx, cF] at e; exact ih _ _ trivial e) _ _ _ trivial e1
  cases o with
  | inl z =>
   dsimp only at e
   injection e with e
   injection e with e e'
   subst e
   exact ⟨by decide, .nil, by decide, fun _ => by simpa using e'⟩
  | inr z =>
   dsimp only at e
   cases e
   obtain ⟨b, hb, hz⟩ := hQ _ rfl
   dsimp only at hz
   subst hz
   have := hs b hb
   exact ⟨this.len, this.ok, this.no, fun h => absurd h this.ne⟩
theorem P2 {q a b : LB} (e : CT q = some (a, b, true)) : GZ b = true ∧ (a = [] → b = q) := by
 unfold CT at e
 obtain ⟨c, c1, e⟩ := bnd e
 simp only [Ar, Js, bS] at e
 cases h1 : c.2.2 with
 | false =>
  rw [h1] at e
  simp only [bF, cT, cF] at e
  cases h2 : GZ q with
  | true => rw [h2, cT] at e; cases e; exact ⟨h2, fun _ => rfl⟩
  | false => rw [h2, cF] at e; cases e
 | true =>
  rw [h1] at e
  simp only [bT, cT, cF] at e
  cases h2 : GZ c.1 with
  | false => rw [h2] at e; simp at e
  | true =>
   rw [h2] at e
   simp only [cT] at e
   cases h3 : GZ c.2.1 with
   | false => rw [h3, cF] at e; cases e
   | true =>
    rw [h3, cT] at e
    injection e with e
    injection e with e1 e
    injection e with e2 e3
    subst e1; subst e2
    refine ⟨h3, fun h0 => ?_⟩
    rw [h0] at h2
    exact absurd h2 dc
theorem OE {s : List Ai} {q : LB} {n : Ah} (hs : ∀ b ∈ s, IA b) (e : BY ⟨s⟩ q = some (n, 0)) : Tt n ∧ ∃ p, CT q = some (p, n.Local, true) ∧ (n.URI = [] → p = []) := by
 unfold BY at e
 obtain ⟨⟨a, b, c⟩, c1, e⟩ := bnd e
 dsimp only at e
 cases c with
 | false => cases e
 | true =>
  rw [bT, cF] at e
  cases h1 : a == ([120, 109, 108, 110, 115] : LB) with
  | true => rw [h1, cT] at e; cases e
  | false =>
   rw [h1, cF] at e
   obtain ⟨⟨u, g⟩, u1, e⟩ := bnd e
   dsimp only at e
   cases g with
   | false => cases e
   | true =>
    rw [bT, cF] at e
    cases e
    obtain ⟨u2, u3, u4, u5⟩ := XD hs u1
    exact ⟨⟨(P2 c1).1, u2, u3, u4⟩, a, c1, u5⟩
structure WQ (a : At) : Prop where
 nm : Tt a.Name
 no : ¬ (a.Name.URI = [] ∧ a.Name.Local = [120, 109, 108, 110, 115])
 ok : OkT a.Value
theorem SS {p : TP} {c : LB × Bool} (e : Df p = some c) (h : c.2 = false) : p.Name ≠ [120, 109, 108, 110, 115] := by
 intro hn
 unfold Df at e
 obtain ⟨x, _, e⟩ := bnd e
 cases h1 : (x.2.2 && (x.1 == ([120, 109, 108, 110, 115] : LB))) with
 | true => rw [h1, cT] at e; cases e; cases h
 | false => rw [h1, cF, hn, show (([120, 109, 108, 110, 115] : LB) == [120, 109, 108, 110, 115]) = true from rfl, cT] at e; cases e; cases h
theorem YG {s : List Ai} {ps : List TP} (hs : ∀ b ∈ s, IA b) (hp : ∀ p ∈ ps, OkT p.Value) {n : Nat} {o : (List At) ⊕ (List At × Int)} (e : iter (Cb ⟨s⟩ ps) n (([] : List At), (0 : Int)) = some o) :
  (∀ z, o = .inl z → ∀ a ∈ z, WQ a) ∧ ∀ z, o = .inr z → z.2 ≠ 0 := by
 refine HN (b := Cb ⟨s⟩ ps) (fun s => ∀ a ∈ s.1, WQ a) (fun o => (∀ z, o = .inl z → ∀ a ∈ z, WQ a) ∧ ∀ z, o = .inr z → z.2 ≠ 0) ?_ n _ o (fun a h => by cases h) e
 rintro ⟨A, i⟩ rec o hP ih e
 dsimp only at hP
 unfold Cb at e
 simp only [Ar] at e
 cases hc : decide (i < (ps.length : Int)) with
 | false => rw [hc, cF] at e; cases e; exact ⟨fun z hz => (by cases hz; exact hP), fun z hz => by cases hz⟩
 | true =>
  rw [hc, cT] at e
  obtain ⟨x, x1, e⟩ := bnd e
  obtain ⟨c, c1, e⟩ := bnd e
  cases hd : c.2 with
  | true => rw [hd, cT] at e; exact ih (A, _) _ hP e
  | false =>
   rw [hd, cF] at e
   have hno := SS c1 hd
   obtain ⟨⟨m, w⟩, w1, e⟩ := bnd e
   dsimp only at e
   cases hw : w != (0 : Int) with
   | true => rw [hw, cT] at e; cases e; exact ⟨fun z hz => (by cases hz), fun z hz => by cases hz; simpa using hw⟩
   | false =>
    rw [hw, cF] at e
    obtain rfl : w = 0 := by simpa using hw
    obtain ⟨g1, p, g2, g3⟩ := OE hs w1
    rw [g2, bS] at e
    have hv := hp x (Nx x1)
    cases hq : p == ([] : LB) with
    | true =>
     rw [hq, cT] at e
     obtain rfl : p = [] := by simpa using hq
     obtain ⟨_, _, e⟩ := bnd e
     obtain ⟨y, hy, e⟩ := bnd e
     cases hy
     refine ih _ _ (fun a ha => ?_) e
     rcases List.mem_append.1 ha with ha | ha
     ·exact hP a ha
     ·rw [List.mem_singleton.1 ha]
      exact ⟨⟨g1.loc, Nat.zero_le _, .nil, by show ([] : LB) ≠ Ob; decide⟩, fun h => hno (by rw [← (P2 g2).2 rfl]; exact h.2), hv⟩
    | false =>
     rw [hq, cF] at e
     have hne : p ≠ [] := bn.1 hq
     obtain ⟨_, _, e⟩ := bnd e
     obtain ⟨y, hy, e⟩ := bnd e
     cases hy
     refine ih _ _ (fun a ha => ?_) e
     rcases List.mem_append.1 ha with ha | ha
     ·exact hP a ha
     ·rw [List.mem_singleton.1 ha]
      exact ⟨g1, fun h => hne (g3 h.1), hv⟩
theorem XX {l : List At} (hl : l.length ≤ 1000000) {n : Nat} {o : Unit ⊕ (List At × Int)} (e : iter (BH l) n (0 : Int) = some o) :
  (∀ z, o = .inl z → ∀ k (h : k + 1 < l.length), (l[k]'om).Name ≠ l[k + 1].Name) ∧ ∀ z, o = .inr z → z.2 ≠ 0 := by
 refine HN (b := BH l) (fun i => 0 ≤ i ∧ ∀ k (h : k + 1 < l.length), (k : Int) + 1 < i → (l[k]'om).Name ≠ l[k + 1].Name)
  (fun o => (∀ z, o = .inl z → ∀ k (h : k + 1 < l.length), (l[k]'om).Name ≠ l[k + 1].Name) ∧ ∀ z, o = .inr z → z.2 ≠ 0) ?_ n _ o ⟨Int.le_refl _, fun k h hk => by omega⟩ e
 rintro i rec o ⟨h0, hP⟩ ih e
 unfold BH at e
 simp only [Ar] at e
 cases hc : decide (i < (l.length : Int)) with
 | false =>
  rw [hc, cF] at e; cases e
  have := of_decide_eq_false hc
  exact ⟨fun z hz k h => hP k h om, fun z hz => by cases hz⟩
 | true =>
  have hi := of_decide_eq_true hc
  rw [hc, cT, w64 (x := i + 1) om om] at e
  obtain ⟨j, rfl⟩ : ∃ j : Nat, i = (j : Int) := ⟨i.toNat, by omega⟩
  by_cases hj : j = 0
  ·subst hj
   rw [dF om, cF, cF] at e
   exact ih _ _ ⟨by omega, fun k h hk => by omega⟩ e
  ·obtain ⟨k, rfl⟩ : ∃ k, j = k + 1 := ⟨j - 1, by omega⟩
   have hk : k + 1 < l.length := by omega
   rw [dT om, cT, A6 hk, bS, w64 om om, show ((k + 1 : Nat) : Int) - 1 = (k : Int) by omega, A6 om, bS] at e
   cases hq : ((l[k + 1].Name.URI == (l[k]'om).Name.URI) && ((l[k + 1].Name.Local == (l[k]'om).Name.Local) && true)) with
   | true => rw [hq, cT] at e; cases e; exact ⟨fun z hz => (by cases hz), fun z hz => by cases hz; simp⟩
   | false =>
    rw [hq, cF] at e
    refine ih _ _ ⟨by omega, fun m h hm => ?_⟩ e
    by_cases hmk : m = k
    ·subst hmk
     intro hn
     rw [hn] at hq
     simp at hq
    ·exact hP m h om
theorem YL {s : List Ai} {ps : List TP} {l : List At} (hs : ∀ b ∈ s, IA b) (hp : ∀ p ∈ ps, OkT p.Value) (hl : l.length ≤ 1000000) (e : CD ⟨s⟩ ps = some (l, 0)) : (∀ a ∈ l, WQ a) ∧ YK l := by
 unfold CD at e
 simp only [Ar] at e
 obtain ⟨o, o1, e⟩ := bnd e
 obtain ⟨q1, q2⟩ := YG hs hp o1
 cases o with
 | inr z => dsimp only at e; cases e; exact absurd rfl (q2 _ rfl)
 | inl z =>
  dsimp only at e
  obtain ⟨y, y1, e⟩ := bnd e
  obtain ⟨y', hy, e⟩ := bnd e
  cases hy
  obtain ⟨_, hlen, e⟩ := bnd e
  obtain ⟨o', o2, e⟩ := bnd e
  have hz : z.length = y.length := by
   unfold eqL at hlen
   split at hlen
   ·rename_i h; exact h.symm
   ·cases hlen
  have hyl : ∀ w, o' = .inl w → y = l := by
   rintro w rfl
   dsimp only at e
   injection e with e; injection e
  by_cases hb : y.length ≤ 1000000
  ·obtain ⟨r1, r2⟩ := XX hb o2
   cases o' with
   | inr w => dsimp only at e; cases e; exact absurd rfl (r2 _ rfl)
   | inl w =>
    obtain rfl := hyl w rfl
    obtain ⟨y2, s1, s2, s3⟩ := OJ (xs := z) om
    rw [s1] at y1
    cases y1
    refine ⟨fun a ha => q1 z rfl a (s2.mem_iff.1 ha), fun i h => ⟨_, XM _ _, ?_⟩⟩
    have h1 : QC (y[i]'om).Name y[i + 1].Name ≤ 0 := List.pairwise_iff_getElem.1 s3 i (i + 1) om h om
    have h2 := r1 w rfl i h
    have h3 : QC (y[i]'om).Name y[i + 1].Name ≠ 0 := fun h => h2 (Wj h)
    omega
  ·cases o' with
   | inl w => exact absurd (by rw [hyl w rfl]; exact hl) hb
   | inr w =>
    have r2 := HN (b := BH y) (fun _ => True) (fun o => ∀ z, o = .inr z → z.2 ≠ 0) (by
     rintro i rec o _ ih e
     unfold BH at e
     simp only [Ar] at e
     cases hc : decide (i < (y.length : Int)) with
     | false => rw [hc, cF] at e; cases e; exact fun z hz => by cases hz
     | true =>
      rw [hc, cT] at e
      have fin : ∀ b : Bool, cond b (some (Sum.inr (([] : List At), (27 : Int)))) (rec (IntKind.wrap .i64 (i + (1 : Int)))) = some o → ∀ z, o = .inr z → z.2 ≠ 0 := by
       intro b
       cases b with
       | true => rw [cT]; intro e; cases e; exact fun z hz => by cases hz; simp
       | false => rw [cF]; exact fun e => ih _ _ trivial e
      cases hd : decide ((0 : Int) < i) with
      | false => rw [hd, cF] at e; exact fin _ e
      | true =>
       rw [hd, cT] at e
       obtain ⟨_, _, e⟩ := bnd e
       obtain ⟨_, _, e⟩ := bnd e
       exact fin _ e) _ _ _ trivial o2
    dsimp only at e; cases e; exact absurd rfl (r2 _ rfl)
theorem VN : ∀ {l : List Nd} {z : Nd}, z ∈ flL l ↔ ∃ y ∈ l, z ∈ flN y
 | [], z => ⟨fun h => by simp [flL] at h, fun ⟨y, h, _⟩ => by simp at h⟩
 | x :: l, z => by
  show z ∈ flN x ++ flL l ↔ _
  rw [List.mem_append, VN]
  constructor
  ·rintro (h | ⟨y, h1, h2⟩)
   ·exact ⟨x, List.mem_cons_self, h⟩
   ·exact ⟨y, List.mem_cons_of_mem _ h1, h2⟩
  ·rintro ⟨y, h1, h2⟩
   rcases List.mem_cons.1 h1 with rfl | h1
   ·exact .inl h2
   ·exact .inr ⟨y, h1, h2⟩
def Ly (y : Nd) : Prop := ∀ z ∈ flN y, NOk z
theorem Of {x : Nd} (hk : Zs x) (hl : x.Kids.length ≤ 1000000) (hkid : ∀ y ∈ x.Kids, M2 x.Kind y.Kind) (ha : x.Attrs.length ≤ 64) (ht : OkT x.Text) (hlen : x.Text.length ≤ 8192)
  (hv : ∀ a ∈ x.Attrs, WQ a ∧ a.Value.length ≤ 8192) (hn : x.Kind = 2 → Tt x.Name) (h5 : x.Kind = 5 → GZ x.Name.Local = true ∧ AZ x.Name.Local [120, 109, 108] = some false)
  (hr : YK x.Attrs) (hap : PM x.Kids) (hw : Ub x) : NOk x :=
 ⟨dO hk hl hkid, Yk ha hlen fun a h => (hv a h).2, Sh ha (fun h => ⟨hn h, fun a h => ⟨(hv a h).1.nm, (hv a h).1.no⟩⟩) h5,
  Wy ha ⟨ht, by omega⟩ fun a h => ⟨(hv a h).1.ok, by have := (hv a h).2; omega⟩, Qu ha hr, Qx hl hap hw⟩
theorem LA : YK [] := fun i h => by simp at h
theorem KA : PM [] := fun i h => by simp at h
theorem Mf {ks : List Nd} {x : Nd} : PM (ks ++ [x]) ↔ PM ks ∧ ∀ y, ks.getLast? = some y → ¬ (y.Kind = 3 ∧ x.Kind = 3) := by
 constructor
 ·intro h
  refine ⟨fun i hi => ?_, fun y hy => ?_⟩
  ·have := h i (by rw [lA]; omega)
   rw [List.getElem_append_left om, List.getElem_append_left hi] at this
   exact this
  ·obtain ⟨l, rfl⟩ := List.getLast?_eq_some_iff.1 hy
   have := h l.length (by simp)
   rw [List.getElem_append_left (by simp), List.getElem_append_right (by simp)] at this
   simpa using this
 ·rintro ⟨h1, h2⟩ i hi
  rw [lA, List.length_singleton] at hi
  by_cases hlt : i + 1 < ks.length
  ·rw [List.getElem_append_left om, List.getElem_append_left hlt]
   exact h1 i hlt
  ·have hi' : i + 1 = ks.length := by omega
   rw [List.getElem_append_left om, List.getElem_append_right om]
   simp only [hi', Nat.sub_self, List.getElem_cons_zero]
   refine h2 _ ?_
   rw [List.getLast?_eq_getElem?, List.getElem?_eq_some_iff]
   exact ⟨by omega, by congr 1; omega⟩
def dZ (y : Nd) : Prop := y.Kind = 3 → ∃ w, y = ⟨3, ⟨[], []⟩, [], [], w⟩ ∧ OkT w ∧ w ≠ []
structure KidsOk (k : Int) (ks : List Nd) : Prop where
 may : ∀ y ∈ ks, M2 k y.Kind
 all : ∀ y ∈ ks, Ly y
 apart : PM ks
 txt : ∀ y ∈ ks, dZ y
theorem KidsOk.nil {k : Int} : KidsOk k [] := ⟨fun _ h => by simp at h, fun _ h => by simp at h, KA, fun _ h => by simp at h⟩
theorem KidsOk.app {k : Int} {ks : List Nd} {x : Nd} (h : KidsOk k ks) (h1 : M2 k x.Kind) (h2 : Ly x) (h3 : x.Kind = 3 → ∀ y, ks.getLast? = some y → y.Kind ≠ 3) (h4 : dZ x) : KidsOk k (ks ++ [x]) := by
 have g : ∀ {P : Nd → Prop}, (∀ y ∈ ks, P y) → P x → ∀ y ∈ ks ++ [x], P y := fun a b y hy => by
  rcases List.mem_append.1 hy with hy | hy
  ·exact a y hy
  ·rw [List.mem_singleton.1 hy]; exact b
 exact ⟨g h.may h1, g h.all h2, Mf.2 ⟨h.apart, fun y hy hc => h3 hc.2 y hy hc.1⟩, g h.txt h4⟩
theorem KidsOk.pre {k : Int} {ks : List Nd} {x : Nd} (h : KidsOk k (ks ++ [x])) : KidsOk k ks := by
 have g : ∀ {y}, y ∈ ks → y ∈ ks ++ [x] := fun hy => List.mem_append_left _ hy
 exact ⟨fun y hy => h.may y (g hy), fun y hy => h.all y (g hy), (Mf.1 h.apart).1, fun y hy => h.txt y (g hy)⟩
def Own (x : Nd) : Prop := (x.Kind = 1 ∧ x.Name = ⟨[], []⟩ ∧ x.Attrs = [] ∧ x.Text = []) ∨
 (x.Kind = 2 ∧ x.Text = [] ∧ Tt x.Name ∧ x.Attrs.length ≤ 64 ∧ (∀ a ∈ x.Attrs, WQ a ∧ a.Value.length ≤ 8192) ∧ YK x.Attrs)
theorem Va {x : Nd} (h : x.Kind = 1 ∨ x.Kind = 2) (ht : x.Text = []) : Ub x :=
 ⟨fun h => by omega, fun h => by omega, fun h => by omega, by rw [ht]; simp⟩
theorem Own.nok {x : Nd} (h : Own x) (hk : KidsOk x.Kind x.Kids) (hl : x.Kids.length ≤ 1000000) : NOk x := by
 rcases h with ⟨a, b, c, d⟩ | ⟨a, b, c, d, e, f⟩
 ·exact Of (.inl ⟨a, b, c, d⟩) hl hk.may (by rw [c]; simp) (by rw [d]; exact .nil) (by rw [d]; simp) (by rw [c]; simp) (fun h => by omega) (fun h => by omega) (by rw [c]; exact LA) hk.apart (Va (.inl a) d)
 ·exact Of (.inr (.inl ⟨a, b⟩)) hl hk.may d (by rw [b]; exact .nil) (by rw [b]; simp) e (fun _ => c) (fun h => by omega) f hk.apart (Va (.inr a) b)
theorem Own.all {x : Nd} (h : Own x) (hk : KidsOk x.Kind x.Kids) (hl : x.Kids.length ≤ 1000000) : Ly x := by
 intro z hz
 rw [TD] at hz
 rcases List.mem_cons.1 hz with rfl | hz
 ·exact h.nok hk hl
 ·obtain ⟨y, h1, h2⟩ := VN.1 hz
  exact hk.all y h1 z h2
theorem Qt {x : Nd} (h : NOk x) (hk : x.Kids = []) : Ly x := by
 intro z hz
 rw [TD, hk] at hz
 rcases List.mem_cons.1 hz with rfl | hz
 ·exact h
 ·simp [flL] at hz
theorem XZ {w : LB} (h1 : OkT w) (h2 : w ≠ []) (h3 : w.length ≤ 8192) : Ly ⟨3, ⟨[], []⟩, [], [], w⟩ :=
 Qt (Of (.inr (.inr (.inl ⟨.inl rfl, rfl, rfl, rfl⟩))) (by simp) (by simp) (by simp) h1 h3 (by simp) (fun h => (by cases h)) (fun h => (by cases h)) LA KA ⟨fun _ => h2, fun h => (by cases h), fun h => (by cases h), by dsimp only; omega⟩) rfl
theorem eV {w : LB} (h1 : OkT w) (h3 : w.length ≤ 8192) (h4 : Lib.contains w [45, 45] = false) (h5 : (13 : UInt8) ∉ w) (h6 : w.getLast? ≠ some 45) : Ly ⟨4, ⟨[], []⟩, [], [], w⟩ :=
 Qt (Of (.inr (.inr (.inl ⟨.inr rfl, rfl, rfl, rfl⟩))) (by simp) (by simp) (by simp) h1 h3 (by simp) (fun h => (by cases h)) (fun h => (by cases h)) LA KA ⟨fun h => (by cases h), fun _ => ⟨h4, h5, h6⟩, fun h => (by cases h), by dsimp only; omega⟩) rfl
theorem bO {n w : LB} (hn : GZ n = true) (hx : AZ n [120, 109, 108] = some false) (h1 : OkT w) (h3 : w.length ≤ 8192) (h4 : Lib.contains w [63, 62] = false) (h5 : (13 : UInt8) ∉ w) (h6 : ∀ c z, w = c :: z → c ≠ 32 ∧ c ≠ 9 ∧ c ≠ 10) : Ly ⟨5, ⟨[], n⟩, [], [], w⟩ :=
 Qt (Of (.inr (.inr (.inr ⟨rfl, rfl, rfl, rfl⟩))) (by simp) (by simp) (by simp) h1 h3 (by simp) (fun h => by cases h) (fun _ => ⟨hn, hx⟩) LA KA ⟨fun h => (by cases h), fun h => (by cases h), fun _ => ⟨h4, h5, h6⟩, by dsimp only; omega⟩) rfl
structure OpOk (o : Op) (lev : Nat) : Prop where
 own : Own o.node
 bs : ∀ b ∈ o.in_.binds, IA b
 kids : KidsOk o.node.Kind o.node.Kids
 dp : ∀ y ∈ o.node.Kids, dpN y lev
def Stk : List Op → Prop
 | [] => False
 | [o] => o.node.Kind = 1 ∧ OpOk o 0
 | a :: b :: l => a.node.Kind = 2 ∧ OpOk a (l.length + 1) ∧ Stk (b :: l)
structure GI (r : Rdr) : Prop where
 stk : Stk r.open_
 one : ∀ o, r.open_.getLast? = some o → o.node.Kids.countP isE = if r.done = true then 1 else 0
 fresh : 1 < r.open_.length → r.done = false
theorem OpOk.setK {o : Op} {lev : Nat} (h : OpOk o lev) {ks : List Nd} (h1 : KidsOk o.node.Kind ks) (h2 : ∀ y ∈ ks, dpN y lev) : OpOk (Go.Proofs.YtilhbalhkljanaaGreatDoor.setK o ks) lev := by
 refine ⟨?_, h.bs, h1, h2⟩
 rcases h.own with g | g
 ·exact .inl g
 ·exact .inr g
theorem Stk.top {b : Op} {l : List Op} (h : Stk (b :: l)) : OpOk b l.length ∧ (b.node.Kind = if l = [] then 1 else 2) := by
 cases l with
 | nil => exact ⟨h.2, by simpa using h.1⟩
 | cons c l => exact ⟨h.2.1, by simpa using h.1⟩
theorem Stk.setK {b : Op} {l : List Op} (h : Stk (b :: l)) {ks : List Nd} (h1 : KidsOk b.node.Kind ks) (h2 : ∀ y ∈ ks, dpN y l.length) : Stk (Go.Proofs.YtilhbalhkljanaaGreatDoor.setK b ks :: l) := by
 have h3 := h.top.1.setK h1 h2
 cases l with
 | nil => exact ⟨h.1, h3⟩
 | cons c l => exact ⟨h.1, h3, h.2.2⟩
theorem VH {x : Nd} (h : x.Kind ≠ 2) (hk : x.Kids = []) (a : Nat) : dpN x a := by
 rw [QV]
 exact ⟨fun g => absurd g h, by rw [hk]; trivial⟩
theorem GI.kid {b : Op} {l : List Op} {n m : Int} {d : Bool} {x : Nd} (h : GI ⟨b :: l, n, d⟩) (h1 : M2 b.node.Kind x.Kind) (h2 : Ly x) (h3 : x.Kind = 3 → ∀ y, b.node.Kids.getLast? = some y → y.Kind ≠ 3) (h4 : dZ x) (h5 : x.Kind ≠ 2) (h6 : x.Kids = []) : GI ⟨Go.Proofs.YtilhbalhkljanaaGreatDoor.kid b x :: l, m, d⟩ := by
 obtain ⟨s1, s2, s3⟩ := h
 dsimp only at s1 s2 s3
 have ht := s1.top.1
 refine ⟨s1.setK (ht.kids.app h1 h2 h3 h4) fun y hy => ?_, ?_, by simpa using s3⟩
 ·rcases List.mem_append.1 hy with hy | hy
  ·exact ht.dp y hy
  ·rw [List.mem_singleton.1 hy]; exact VH h5 h6 _
 ·dsimp only
  cases l with
  | nil =>
   intro o ho
   have := s2 b rfl
   rw [List.getLast?_singleton] at ho
   cases ho
   rw [OH, List.countP_append, this, List.countP_singleton, show isE x = false by simpa [isE] using h5]
   simp
  | cons c l => intro o ho; exact s2 o (by simpa using ho)
theorem GI.more {b c : Op} {l : List Op} {n m : Int} {d : Bool} {k : List Nd} {x : Nd} {w : LB} (h : GI ⟨b :: c :: l, n, d⟩) (hK : b.node.Kids = k ++ [x]) (h3 : x.Kind = 3) (hw : OkT w) (hl : (x.Text ++ w).length ≤ 8192) : GI ⟨setK b (k ++ [⟨x.Kind, x.Name, x.Attrs, x.Kids, x.Text ++ w⟩]) :: c :: l, m, d⟩ := by
 obtain ⟨s1, s2, s3⟩ := h
 dsimp only at s1 s2 s3
 have ht := s1.top.1
 have hk := ht.kids
 rw [hK] at hk
 obtain ⟨v, rfl, v1, v2⟩ := hk.txt x (by simp) h3
 have hne : v ++ w ≠ [] := fun e => v2 (List.append_eq_nil_iff.1 e).1
 dsimp only at hl
 refine ⟨s1.setK (hk.pre.app (hk.may ⟨3, ⟨[], []⟩, [], [], v⟩ (by simp)) (XZ (Rg v1 hw) hne hl) (fun _ y hy hc => (Mf.1 hk.apart).2 y hy ⟨hc, h3⟩) fun _ => ⟨_, rfl, Rg v1 hw, hne⟩) fun y hy => ?_, fun o ho => s2 o (by simpa using ho), by simpa using s3⟩
 rcases List.mem_append.1 hy with hy | hy
 ·exact ht.dp y (by rw [hK]; exact List.mem_append_left _ hy)
 ·rw [List.mem_singleton.1 hy]; exact VH (by show (3 : Int) ≠ 2; decide) rfl _
theorem GI.close {a b : Op} {l : List Op} {n m : Int} {d : Bool} (h : GI ⟨a :: b :: l, n, d⟩) (hl : l.length ≤ 32) (hk : a.node.Kids.length ≤ 1000000) : GI ⟨Go.Proofs.YtilhbalhkljanaaGreatDoor.kid b a.node :: l, m, d || decide (l.length = 0)⟩ := by
 obtain ⟨s1, s2, s3⟩ := h
 dsimp only at s1 s2 s3
 obtain ⟨k2, ao, s4⟩ := s1
 obtain ⟨bo, bk⟩ := s4.top
 have hd : d = false := s3 (by simp)
 have hall := ao.own.all ao.kids hk
 have hmay : M2 b.node.Kind a.node.Kind := by
  rw [bk, k2]
  by_cases hln : l = []
  ·rw [if_pos hln]; exact .inl ⟨rfl, .inl rfl⟩
  ·rw [if_neg hln]; exact .inr ⟨rfl, .inl rfl⟩
 refine ⟨s4.setK (bo.kids.app hmay hall (fun h => by omega) fun h => by omega) fun y hy => ?_, ?_, ?_⟩
 ·rcases List.mem_append.1 hy with hy | hy
  ·exact bo.dp y hy
  ·rw [List.mem_singleton.1 hy, QV, if_pos k2, LM]
   exact ⟨fun _ => hl, ao.dp⟩
 ·dsimp only
  cases l with
  | nil =>
   intro o ho
   have := s2 b rfl
   rw [List.getLast?_singleton] at ho
   cases ho
   rw [OH, List.countP_append, this, hd, List.countP_singleton, show isE a.node = true by simpa [isE] using k2]
   simp
  | cons c l =>
   intro o ho
   have := s2 o (by simpa using ho)
   rw [this]; simp
 ·dsimp only
  intro hlen
  rw [hd, dF (by simp at hlen; omega)]; rfl
theorem GI.push {a : Op} {o : List Op} {n m : Int} {d : Bool} (h : GI ⟨o, n, d⟩) (ho : o ≠ []) (hc : ¬ (o.length = 1 ∧ d = true)) (hk : a.node.Kids = []) (h2 : a.node.Kind = 2) (hw : Own a.node) (hb : ∀ b ∈ a.in_.binds, IA b) : GI ⟨a :: o, m, d⟩ := by
 obtain ⟨s1, s2, s3⟩ := h
 dsimp only at s1 s2 s3
 cases o with
 | nil => exact absurd rfl ho
 | cons b l =>
  refine ⟨⟨h2, ⟨hw, hb, by rw [hk]; exact .nil, by rw [hk]; simp⟩, s1⟩, fun o ho => s2 o (by simpa using ho), fun _ => ?_⟩
  by_cases hl : (b :: l).length = 1
  ·cases hd : d with
   | false => rfl
   | true => exact absurd ⟨hl, hd⟩ hc
  ·exact s3 (Nat.lt_of_le_of_ne (by simp) fun h => hl h.symm)
theorem fP : GI r0 := ⟨⟨rfl, ⟨.inl ⟨rfl, rfl, rfl, rfl⟩, fun _ h => (by cases h), .nil, fun _ h => (by cases h)⟩⟩, fun o ho => (by cases ho; rfl), fun h => by simp [r0] at h⟩
theorem RW {s w : LB} : ∀ j, j ≤ s.length → Lib.occAt s w j = true → Lib.index s w ≤ (j : Int) := by
 intro j
 induction j using Nat.strongRecOn with
 | _ j ih =>
  intro hj h
  by_cases hx : ∃ i, i < j ∧ Lib.occAt s w i = true
  ·obtain ⟨i, h1, h2⟩ := hx
   have := ih i h1 om h2
   omega
  ·rw [Lib.index_first hj h fun i hi => by
    cases ho : Lib.occAt s w i with
    | false => rfl
    | true => exact absurd ⟨i, hi, ho⟩ hx]
   exact Int.le_refl _
theorem Vz {s w R : LB} {j : Nat} (h : s.drop j = w ++ R) : Lib.occAt s w j = true := by
 unfold Lib.occAt
 rw [h, List.isPrefixOf_iff_prefix]
 exact List.prefix_append _ _
theorem Kk {x w : LB} (hw : w ≠ []) (h : MW x w) : Lib.contains x w = false := by
 have hp : 0 < w.length := List.length_pos_iff.2 hw
 have key : Lib.index x w < 0 := by
  apply Classical.byContradiction
  intro hc
  obtain ⟨n, e⟩ : ∃ n : Nat, Lib.index x w = (n : Int) := ⟨(Lib.index x w).toNat, by omega⟩
  obtain ⟨o1, o2⟩ := HJ e hw
  rw [List.isPrefixOf_iff_prefix] at o1
  obtain ⟨R, hR⟩ := o1
  have := RW (s := x ++ (w ++ [])) (w := w) n (by rw [lA]; omega) (Vz (R := R ++ (w ++ [])) (by rw [List.drop_append_of_le_length om, ← hR, List.append_assoc]))
  rw [h []] at this
  omega
 unfold Lib.contains
 simp
 omega
theorem Tf {x : LB} (h : MW x [45, 45]) : x.getLast? ≠ some 45 := by
 intro hl
 obtain ⟨y, rfl⟩ := List.getLast?_eq_some_iff.1 hl
 have := RW (s := (y ++ [45]) ++ ([45, 45] ++ [])) (w := [45, 45]) y.length (by simp) (Vz (R := [45]) (by rw [List.append_assoc, List.drop_left]; rfl))
 rw [h []] at this
 simp at this
 omega
theorem H5 {x : Int × Rdr} {r' : Rdr} (h : fin x = (0, r')) : x = (0, r') := by
 unfold fin at h
 split at h
 ·cases h
 ·exact h
theorem U5 {k : Nat} {r r' : Rdr} {t : Tk} (hR : RI k r) (hk : k ≤ 70000) (ft : Fit t) (ho : OkT t.Text) (h : GI r) (e : AQ r t = some (0, r')) : GI r' := by
 obtain ⟨o, n, d⟩ := r
 have hn0 := hR.n0
 have hn1 := hR.n1
 have hlen := hR.len
 have htx := ft.tx
 dsimp only at hn0 hn1 hlen
 match o, hR, h, hlen, e with
 | [], hR, _, _, _ => exact absurd rfl hR.ne
 | [b], _, h, _, e =>
  rw [L6 htx] at e
  injection e with e; injection e with _ e
  subst e; exact h
 | b :: c :: l, hR, h, hlen, e =>
  simp only [lC] at hlen
  obtain ⟨a1, a2, a3⟩ := hR.op b List.mem_cons_self
  have hb2 : b.node.Kind = 2 := h.stk.1
  by_cases ht : t.Text = []
  ·rw [NV om ht] at e
   injection e with e; injection e with _ e
   subst e; exact h
  by_cases hx : ∀ x, b.node.Kids.getLast? = some x → x.Kind ≠ 3
  ·rw [OI om om hn0 om ht hx] at e
   injection e with e
   split at e
   ·cases e
   ·injection e with _ e
    subst e
    exact h.kid (.inr ⟨hb2, .inr (.inl rfl)⟩) (XZ ho ht om) (fun _ => hx) (fun _ => ⟨_, rfl, ho, ht⟩) (by show (3 : Int) ≠ 2; decide) rfl
  ·obtain ⟨x, hx1, hx3⟩ : ∃ x, b.node.Kids.getLast? = some x ∧ x.Kind = 3 := by
    have := Classical.not_forall.1 hx
    obtain ⟨x, hx⟩ := this
    rw [Classical.not_imp] at hx
    exact ⟨x, hx.1, Classical.not_not.1 hx.2⟩
   obtain ⟨ks, hK⟩ := List.getLast?_eq_some_iff.1 hx1
   have hkl : ks.length + 1 ≤ k := by rw [hK] at a1; simpa using a1
   have hxt := a3 x (by rw [hK]; simp)
   rw [MK (k := ks) (x := x) om om ht hK hx3 om] at e
   injection e with e
   injection e with e1 e2
   subst e2
   split at e1
   ·cases e1
   ·exact h.more hK hx3 ho om
theorem Sc {k : Nat} {r r1 : Rdr} {t : Tk} (hR : RI k r) (hk : k ≤ 70000) (ft : Fit t) (h24 : t.Kind = 2 ∨ t.Kind = 4) (hp : Kw t.Pairs) (h : GI r) (e : AH r t = some (0, r1)) :
  ∃ a, r1 = ⟨a :: r.open_, r.nodes + 1, r.done⟩ ∧ a.node.Kids = [] ∧ r.open_.length ≤ 33 ∧ r.open_ ≠ [] ∧ GI r1 := by
 obtain ⟨o, n, d⟩ := r
 cases o with
 | nil => exact absurd rfl hR.ne
 | cons b l =>
  obtain ⟨a1, a2, a3⟩ := hR.op b List.mem_cons_self
  have hlen := hR.len
  have hn0 := hR.n0
  have hn1 := hR.n1
  dsimp only at hlen hn0 hn1
  simp only [lC] at hlen
  obtain ⟨hnm, hpn⟩ := ft.nm h24
  have hps := ft.ps
  have hpv : ∀ p ∈ t.Pairs, OkT p.Value := fun p h => (hp p h).2.1
  by_cases c1 : l.length = 0 ∧ d = true
  ·obtain ⟨c0, rfl⟩ := c1
   unfold AH at e
   simp only [Ar] at e
   rw [show (((b :: l).length : Int) == 1) = true by simp; omega, cT, cT] at e
   cases e
  obtain ⟨s', w, hO, hs'⟩ := RC (s := b.in_.binds) (ps := t.Pairs) om hps (fun p hp => by have := hpn p hp; omega)
  have hO1 : Cm b.in_ t.Pairs = some (⟨s'⟩, w) := hO
  obtain ⟨q, hE⟩ := Kh (s := s') (q := t.Name) om om
  obtain ⟨v, ve, hA, hv⟩ := PQ (s := s') (ps := t.Pairs) om hps (fun p hp => by have := hpn p hp; omega)
  rw [ML t om c1, hO1] at e
  by_cases c2 : 32 < l.length
  ·rw [dT (show (32 : Int) < (l.length : Int) by omega), cT] at e
   cases e
  rw [dF (show ¬ (32 : Int) < (l.length : Int) by omega), cF, bS] at e
  dsimp only at e
  by_cases c3 : w = 0
  case neg =>
   rw [show (w != 0) = true by simpa using c3, cT] at e
   injection e with e; injection e with e _
   exact absurd e c3
  rw [show (w != 0) = false by simpa using c3, cF, hE, bS] at e
  by_cases c4 : q.2 = 0
  case neg =>
   rw [show (q.2 != 0) = true by simpa using c4, cT] at e
   injection e with e; injection e with e _
   exact absurd e c4
  rw [show (q.2 != 0) = false by simpa using c4, cF, hA, bS] at e
  dsimp only at e
  by_cases c5 : ve = 0
  case neg =>
   rw [show (ve != 0) = true by simpa using c5, cT] at e
   injection e with e; injection e with e _
   exact absurd e c5
  rw [show (ve != 0) = false by simpa using c5, cF, RN _ _ (by dsimp only; omega), bS] at e
  subst c3
  subst c5
  have hB := bB h.stk.top.1.bs hpv hO1
  obtain ⟨q1, q2⟩ := q
  dsimp only at c4
  subst c4
  obtain ⟨g1, _⟩ := OE hB hE
  obtain ⟨g2, g3⟩ := YL hB hpv om hA
  cases hbig : Ua v with
  | true => rw [hbig] at e; cases e
  | false =>
   rw [hbig] at e
   dsimp only at e
   simp only [Bool.false_eq_true, if_false] at e
   rw [CU (by simp only [lC, lN]; omega) (by simp only [lC, lN]; omega), bS, w64 om om] at e
   injection e with e; injection e with _ e
   subst e
   have hall : ∀ a ∈ v, v.length ≤ 64 ∧ a.Value.length ≤ 8192 := fun a ha => by
    unfold Ua at hbig
    have := List.any_eq_false.1 hbig a ha
    simp only [Bool.or_eq_true, decide_eq_true_eq, not_or] at this
    omega
   refine ⟨_, rfl, rfl, by simp only [lC]; omega, by simp, ?_⟩
   refine h.push (by simp) (fun hc => c1 ⟨by simpa using hc.1, hc.2⟩) rfl rfl (.inr ⟨rfl, rfl, g1, ?_, fun a ha => ⟨g2 a ha, (hall a ha).2⟩, g3⟩) hB
   dsimp only
   cases v with
   | nil => simp
   | cons x v => exact (hall x List.mem_cons_self).1
theorem bg {k : Nat} {r r' : Rdr} {t : Tk} (hR : RI k r) (hk : k ≤ 70000) (ft : Fit t) (g : Yj t) (h : GI r) (e : Aw r t = some (0, r')) : GI r' := by
 obtain ⟨o, n, d⟩ := r
 have hn0 := hR.n0
 have hn1 := hR.n1
 have hlen := hR.len
 dsimp only at hn0 hn1 hlen
 have put : ∀ {x : Nd}, (∀ b : Op, b ∈ o → KidsOk b.node.Kind b.node.Kids → (b.node.Kind = 1 ∨ b.node.Kind = 2) → M2 b.node.Kind x.Kind) → (x.Text.length ≤ 8192 → Ly x) → x.Kind ≠ 3 → x.Kind ≠ 2 → x.Kids = [] → (Ba ⟨o, n, d⟩ x).bind (fun z => some (fin z)) = some (0, r') → GI r' := by
  intro x x1 x2 x3 x4 x5 e
  match o, hR, h, hlen, x1, e with
  | [], hR, _, _, _, _ => exact absurd rfl hR.ne
  | b :: l, hR, h, hlen, x1, e =>
   simp only [lC] at hlen
   obtain ⟨a1, _, _⟩ := hR.op b List.mem_cons_self
   rw [QD x om om hn0 om, bS] at e
   have e' := H5 (sj e)
   have ht := h.stk.top
   split at e'
   ·cases e'
   ·injection e' with _ e'
    subst e'
    refine h.kid (x1 b List.mem_cons_self ht.1.kids (by rw [ht.2]; split <;> simp)) (x2 om) (fun h => absurd h x3) (fun h => absurd h x3) x4 x5
 rcases g with ⟨k1, _⟩ | ⟨k24, g2, g3, g4, g5⟩ | ⟨k3, g2, _⟩ | ⟨k5, _, _, g2, g3, g4⟩ | ⟨k6, _, _, g2, g3, g4, g5⟩ | ⟨k7, _, _, g2, g3, g4, g5⟩ | ⟨k8, g2, _, g3, g4, g5, g6⟩
 ·rw [Uv k1] at e
  have e' := H5 (sj e)
  injection e' with _ e'
  subst e'; exact h
 ·rcases k24 with k2 | k4
  ·rw [TT k2] at e
   obtain ⟨x, x1, e⟩ := bnd e
   have e' := H5 (sj e)
   subst e'
   obtain ⟨_, _, _, _, _, g⟩ := Sc hR hk ft (.inl k2) g3 h x1
   exact g
  ·rw [Ty k4] at e
   obtain ⟨⟨w, x⟩, x1, e⟩ := bnd e
   dsimp only at e
   split at e
   case isFalse hw => injection e with e; injection e with e _; exact absurd e hw
   rename_i hw
   subst hw
   obtain ⟨a, rfl, hak, hol, hne, g⟩ := Sc hR hk ft (.inr k4) g3 h x1
   dsimp only at hol hne g e
   match o, hR, hol, hne, g, e with
   | [], _, _, hne, _, _ => exact absurd rfl hne
   | b :: l, hR, hol, _, g, e =>
    simp only [lC] at hol
    rw [IS om (by have := (hR.op b (by simp)).1; omega), bS] at e
    have e' := H5 (sj e)
    injection e' with _ e'
    subst e'
    exact g.close om (by rw [hak]; simp)
 ·rw [S9 k3] at e
  match o, hR, h, hlen, e with
  | [], hR, _, _, _ => exact absurd rfl hR.ne
  | [b], _, _, _, e => cases e
  | a :: b :: l, hR, h, hlen, e =>
   simp only [lC] at hlen
   rw [if_neg (by simp)] at e
   dsimp only at e
   rw [GJ (by simp only [lC]; omega), bS] at e
   split at e
   ·rw [IS om (by have := (hR.op b (by simp)).1; omega), bS] at e
    have e' := H5 (sj e)
    injection e' with _ e'
    subst e'
    exact h.close om (by have := (hR.op a (by simp)).1; omega)
   ·cases e
 ·rw [Kx (.inl k5)] at e
  obtain ⟨x, x1, e⟩ := bnd e
  have e' := H5 (sj e)
  subst e'
  exact U5 hR hk ft g2 h x1
 ·rw [Kx (.inr k6)] at e
  obtain ⟨x, x1, e⟩ := bnd e
  have e' := H5 (sj e)
  subst e'
  exact U5 hR hk ft g3 h x1
 ·rw [To k7] at e
  refine put (fun b _ _ hb => ?_) (fun hl => eV g3 hl (Kk (by simp) g2) g4 (Tf g2)) (by show (4 : Int) ≠ 3; decide) (by show (4 : Int) ≠ 2; decide) rfl e
  rcases hb with hb | hb
  ·exact .inl ⟨hb, .inr (.inl rfl)⟩
  ·exact .inr ⟨hb, .inr (.inr (.inl rfl))⟩
 ·rw [Ts k8] at e
  refine put (fun b _ _ hb => ?_) (fun hl => ?_) (by show (5 : Int) ≠ 3; decide) (by show (5 : Int) ≠ 2; decide) rfl e
  ·rcases hb with hb | hb
   ·exact .inl ⟨hb, .inr (.inr rfl)⟩
   ·exact .inr ⟨hb, .inr (.inr (.inr rfl))⟩
  ·rcases g6 with g6 | ⟨g6, g7, g8, g9⟩
   ·dsimp only at hl
    rw [g6]
    exact bO g3 g4 .nil (by simp) dc (by simp) (fun c z h => by cases h)
   ·refine bO g3 g4 g7 hl (Kk (by simp) g6) g8 fun c z h => ?_
    have := g9 c z h
    exact ⟨fun h => (by subst h; exact absurd this dc), fun h => (by subst h; exact absurd this dc), fun h => (by subst h; exact absurd this dc)⟩
theorem Yz : ∀ (L : List Tk) (k : Nat) (r r' : Rdr), RI k r → (∀ t ∈ L, Fit t) → (∀ t ∈ L, Yj t) → k + L.length ≤ 70000 → GI r → Id L r = some (.inl r') → GI r'
 | [], k, r, r', _, _, _, _, h, e => by
  injection e with e; injection e with e; subst e; exact h
 | t :: L, k, r, r', hR, ft, g, hl, h, e => by
  rw [lC] at hl
  obtain ⟨w, r1, h1, h2, _⟩ := PL (pre := []) (m := 0) om om (by simp) om hR (ft t List.mem_cons_self)
  rw [PU, h1, bS] at e
  dsimp only at e
  by_cases hw : w = 0
  ·subst hw
   rw [if_neg (by simp)] at e
   exact Yz L (k + 1) r1 r' (h2 rfl).1 (fun t ht => ft t (List.mem_cons_of_mem _ ht)) (fun t ht => g t (List.mem_cons_of_mem _ ht)) om
    (bg hR om (ft t List.mem_cons_self) (g t List.mem_cons_self) h h1) e
  ·rw [if_pos hw] at e; cases e
theorem XC {p : LB} {d : Nd} {a e : Int} (hp : p.length ≤ 1073741824) (h : Ci p = some (d, a, e)) (he : e ≠ 0) : d = nd0 := by
 obtain ⟨L, x, e0, hA, _⟩ := Th p hp
 by_cases h0 : e0 = 0
 case neg =>
  unfold Ci at h
  rw [hA, bS] at h
  dsimp only at h
  rw [show (e0 != 0) = true by simpa using h0, cT] at h
  injection h with h; injection h with h _
  exact h.symm
 subst h0
 have hl : p.length ≤ 65536 := by
  apply Classical.byContradiction
  intro hc
  unfold DH at hA
  rw [dT om, cT] at hA
  have := sj hA
  injection this with _ this
  injection this with _ this
  cases this
 obtain ⟨h1, h2, _, _, h3⟩ := Oe hl hA
 rw [h3] at h
 obtain ⟨o, _, h⟩ := bnd h
 cases o with
 | inr z => obtain ⟨z1, z2⟩ := z; dsimp only at h; injection h with h; injection h with h _; exact h.symm
 | inl r =>
  dsimp only at h
  unfold Xs at h
  cases c1 : decide ((1 : Int) < (r.open_.length : Int)) with
  | true =>
   rw [c1, cT] at h
   obtain ⟨_, _, h⟩ := bnd h
   injection h with h; injection h with h _; exact h.symm
  | false =>
   rw [c1, cF] at h
   cases c2 : (!r.done) with
   | true =>
    rw [c2, cT] at h
    obtain ⟨_, _, h⟩ := bnd h
    injection h with h; injection h with h _; exact h.symm
   | false =>
    rw [c2, cF] at h
    obtain ⟨_, _, h⟩ := bnd h
    injection h with h; injection h with _ h; injection h with _ h
    exact absurd h.symm he
theorem RQ {p : LB} {d : Nd} {a : Int} (hp : p.length ≤ 1073741824) (h : Ci p = some (d, a, 0)) : F2 d = some 0 := by
 obtain ⟨L, r, o, hl, ft, hL, hok, tr, hr, ho, hd, hn⟩ := W7 hp h
 have g := Yz L 0 r0 r U8 ft (fun t ht => (ak (by have := Qo p; omega) hok (Vl p) tr t ht).1) om fP hr
 obtain ⟨o', e1, e2, _⟩ := L7 (pre := []) (m := 0) om om (by simp) L 0 r0 U8 ft om
 rw [hr] at e1
 obtain ⟨g1, g2, _, g4⟩ := e2 r (sj e1).symm
 have hnodes : r.nodes ≤ 2000 := by
  apply Classical.byContradiction
  intro hc
  obtain ⟨y, hy⟩ := g4 om (by show (0 : Int) + 0 ≤ 2000; omega)
  have : Gy [] 0 r0 = r0 := rfl
  rw [this, hr] at hy
  cases sj hy
 have w0 := g2.w0
 rw [ho] at w0
 have a0 : szS 0 [o] = szN 0 d := by show szN 0 o.node + 0 = _; rw [hn]; omega
 have b0 : szS 0 r0.open_ = 1 := rfl
 have b2 : r0.nodes = 0 := rfl
 rw [a0, b0, b2] at w0
 have hk := (g1.op o (by rw [ho]; simp)).1
 obtain ⟨s1, s2, s3⟩ := g
 rw [ho] at s1 s2
 obtain ⟨k1, oo⟩ := s1
 have hone := s2 o rfl
 rw [hd, if_pos rfl, hn] at hone
 rw [hn] at hk k1
 have hall := oo.own.all oo.kids (by rw [hn]; omega)
 have hdp := oo.dp
 rw [hn] at hall hdp
 refine Zg k1 om ?_ hall hone
 rw [QV, if_neg om, LM]
 exact ⟨fun h => by omega, hdp⟩
theorem parseRight (p : LB) (hp : p.length ≤ 1073741824) : DC p = some true := by
 unfold DC
 rw [Z9, bS, bT, cF]
 obtain ⟨⟨d, a, e⟩, hP⟩ := W6 p hp
 rw [hP, bS]
 dsimp only
 simp only [Ar]
 by_cases he : e = 0
 ·subst he
  rw [show ((0 : Int) != 0) = false from rfl, cF, cF, show ((0 : Int) == 0) = true from rfl, cT, RQ hp hP, bS]
  rfl
 ·obtain rfl := XC hp hP he
  rw [show (e != 0) = true by simpa using he, cT, show C0 nd0 ⟨0, ⟨[], []⟩, [], [], []⟩ = some true from YP dc, bS, cT]
end Go.Proofs.YtilhbalhkljanaaGreatDoor
