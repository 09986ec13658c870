/- Arrays as values: built, and indexed by a variable. No condition. -/
import Derived.Test.YtilhbalhkljanaaGreatDoorEng30
set_option linter.unusedSimpArgs false
set_option linter.unusedVariables false
namespace Go.Proofs.YtilhbalhkljanaaGreatDoor
def iN {α : Type} (m : Nat) (l : List α) (i : Int) : Option α := if i < (m : Int) then idx l i else none
section
variable {P : Program} {md : Nat → Nat} {w : Bool} {ops : Array Oper} {os : List Oper} {k : St → Prop} {n : Nat} {l : List (Nat × D)} {h : Heap} {d : Nat} {t ty : TypeId} {pos : String} {af : Array Edge} {x y z : Operand}
variable {β : Type} {G : β → Prop}
end
end Go.Proofs.YtilhbalhkljanaaGreatDoor
