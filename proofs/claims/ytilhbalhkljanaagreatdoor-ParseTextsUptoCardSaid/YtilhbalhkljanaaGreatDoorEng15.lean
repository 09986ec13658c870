/- Lists built by appending. No condition. -/
import Derived.Test.YtilhbalhkljanaaGreatDoorEng14
set_option linter.unusedSimpArgs false
set_option linter.unusedVariables false
namespace Go.Proofs.YtilhbalhkljanaaGreatDoor
def Acc {α : Type} (k : Nat) (f : α → List D) (l : List α) (h0 : Heap) (d : D) (h : Heap) : Prop :=
 (l = [] ∧ d = .snil ∧ h = h0) ∨ ∃ r, r ≠ 0 ∧ h0 r = none ∧ d = .sl k (l.map f) r ∧ h = h0.upd r (some .room)
end Go.Proofs.YtilhbalhkljanaaGreatDoor
