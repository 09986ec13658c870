/- Slices whose spare room is known: out of a slice, cut, their room measured. No condition. -/
import Derived.Test.YtilhbalhkljanaaGreatDoorEng31
set_option linter.unusedSimpArgs false
set_option linter.unusedVariables false
namespace Go.Proofs.YtilhbalhkljanaaGreatDoor
section
variable {P : Program} {md : Nat → Nat} {w : Bool} {ops : Array Oper} {os : List Oper} {k : St → Prop} {n : Nat} {l : List (Nat × D)} {h : Heap} {d : Nat} {t ty : TypeId} {pos : String} {af : Array Edge} {x y z : Operand}
variable {β : Type} {G : β → Prop}
theorem d5 {q : Nat} {es sp : List (List D)} (d : Nat) (hv : EL l d = .slx q es sp) (hk : Av P md true ops os ⟨Al n ((d, .sl q es 0) :: l), h⟩ k) : Av P md true ops os ⟨Al n l, h⟩ k :=
 Eg d (v := .sl q es 0) (by rw [hv]; exact .slx _ _ _) hk
end
end Go.Proofs.YtilhbalhkljanaaGreatDoor
