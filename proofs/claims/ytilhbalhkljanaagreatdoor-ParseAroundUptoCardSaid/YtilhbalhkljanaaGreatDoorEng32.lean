/- Slices whose spare room is known: out of a slice, cut, their room measured. No condition. -/
import Derived.Test.YtilhbalhkljanaaGreatDoorEng31
set_option linter.unusedSimpArgs false
set_option linter.unusedVariables false
namespace Go.Proofs.YtilhbalhkljanaaGreatDoor
section
variable {P : Program} {md : Nat → Nat} {w : Bool} {ops : Array Oper} {os : List Oper} {k : St → Prop} {n : Nat} {l : List (Nat × D)} {h : Heap} {d : Nat} {t ty : TypeId} {pos : String} {af : Array Edge} {x y z : Operand}
variable {β : Type} {G : β → Prop}
theorem bB {q : Nat} {es sp : List (List D)} (d : Nat) (hv : EI l d = .slx q es sp) (hk : Aw P md true ops os ⟨Ak n ((d, .sl q es 0) :: l), h⟩ k) : Aw P md true ops os ⟨Ak n l, h⟩ k :=
 Ed d (v := .sl q es 0) (by rw [hv]; exact .slx _ _ _) hk
end
end Go.Proofs.YtilhbalhkljanaaGreatDoor
