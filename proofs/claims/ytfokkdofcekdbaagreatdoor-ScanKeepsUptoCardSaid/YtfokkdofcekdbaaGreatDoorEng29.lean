/- Own rows whose last element holds a right to append. No condition. -/
import Derived.Test.YtfokkdofcekdbaaGreatDoorEng28
set_option linter.unusedSimpArgs false
set_option linter.unusedVariables false
namespace Go.Proofs.YtfokkdofcekdbaaGreatDoor
def tagR {α : Type} (o : Option Nat) : List α → List (α × Option Nat)
 | [] => []
 | [x] => [(x, o)]
 | x :: y :: l => (x, some 0) :: tagR o (y :: l)
def lst {α : Type} (e : List α) (i : Int) : Option α := if i + 1 = (e.length : Int) then idx e i else none
section
variable {α : Type}
end
section
variable {P : Program} {md : Nat → Nat} {w : Bool} {ops : Array Oper} {os : List Oper} {k : St → Prop} {n : Nat} {l : List (Nat × D)} {h : Heap} {d : Nat} {t ty : TypeId} {pos : String} {af : Array Edge} {x y z : Operand}
variable {β : Type} {G : β → Prop} {O : List (Nat × AObj)} {α : Type} {c : α × Option Nat → List D} {e : List α} {q id r : Nat}
end
end Go.Proofs.YtfokkdofcekdbaaGreatDoor
