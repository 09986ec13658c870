/- Plain loops, plain numbers. No condition. -/
import Derived.Test.YtjofelloaofooaaGreatDoorEng19
set_option linter.unusedSimpArgs false
set_option linter.unusedVariables false
namespace Go.Proofs.YtjofelloaofooaaGreatDoor
theorem Ax {σ ρ : Type} {b : (σ -> Option ρ) -> σ -> Option ρ} (I : Nat -> σ -> Prop) (R : ρ -> Prop) (N : Nat) {x0 : σ} (h0 : I 0 x0)
  (step : ∀ (i : Nat) (x : σ) (rec : σ -> Option ρ), i < N -> I i x -> (∃ y, b rec x = rec y /\ I (i + 1) y) \/ (∃ o, b rec x = some o /\ R o))
  (last : ∀ (x : σ) (rec : σ -> Option ρ), I N x -> ∃ o, b rec x = some o /\ R o) {n : Nat} (hn : N < n) : ∃ o, iter b n x0 = some o /\ R o := by
 have key : ∀ (j i : Nat) (x : σ) (n : Nat), i + j = N -> I i x -> j < n -> ∃ o, iter b n x = some o /\ R o := by
  intro j
  induction j with
  | zero =>
   intro i x n hi hI hn
   cases n with
   | zero => omega
   | succ n =>
    have e : i = N := by omega
    subst e;obtain ⟨o, h1, h2⟩ := last x (iter b n) hI;exact ⟨o, h1, h2⟩
  | succ j ih =>
   intro i x n hi hI hn
   cases n with
   | zero => omega
   | succ n =>
    rcases step i x (iter b n) (by omega) hI with ⟨y, h1, h2⟩ | ⟨o, h1, h2⟩
    ·obtain ⟨o, h3, h4⟩ := ih (i + 1) y n (by omega) h2 (by omega);exact ⟨o, by show b (iter b n) x = _; rw [h1, h3], h4⟩
    ·exact ⟨o, h1, h2⟩
 exact key N 0 x0 n (by omega) h0 hn
theorem w64 {x : Int} (h1 : -9223372036854775808 <= x) (h2 : x <= 9223372036854775807) : IntKind.wrap .i64 x = x := Xc h1 h2
theorem Ao {α : Type} {l : List α} {i : Nat} (h : i < l.length) : idx l (i : Int) = some l[i] := by
 unfold idx; rw [if_pos (by omega), Int.toNat_natCast, List.getElem?_eq_getElem h]
theorem EE {α : Type} {B : Nat} {l m : List α} (h : (l.length + m.length) * B <= 140737488355328) (h2 : l.length + m.length <= 140737488355328) : app B l m = some (l ++ m) := by
 unfold app; rw [if_pos ⟨h, h2⟩]
theorem M4 {α : Type} {l : List α} (h : 0 < l.length) : slc l (1 : Int) (l.length : Int) = some l.tail := by
 unfold slc; rw [if_pos (by omega)];congr 1;have : (l.length : Int).toNat - (1 : Int).toNat = l.length - 1 := by simp
 rw [this]
 cases l with
 | nil => simp at h
 | cons a l => simp
end Go.Proofs.YtjofelloaofooaaGreatDoor
