/- The bytes of a text as an own row. No condition. -/
import Derived.Test.YtilhbalhkljanaaGreatDoorEng32
set_option linter.unusedSimpArgs false
set_option linter.unusedVariables false
namespace Go.Proofs.YtilhbalhkljanaaGreatDoor
def moY {α : Type} (id : Nat) (c : α → List D) (e : List α) : Nat × AObj := match id with
 | 0 => (0, .room)
 | i + 1 => (i + 1, .bytes (fl c e))
section
variable {P : Program} {md : Nat → Nat} {w : Bool} {ops : Array Oper} {os : List Oper} {k : St → Prop} {n : Nat} {l : List (Nat × D)} {h : Heap} {d : Nat} {t ty : TypeId} {pos : String} {af : Array Edge} {x y z : Operand}
variable {β : Type} {G : β → Prop} {O : List (Nat × AObj)}
end
section
variable {P : Program} {md : Nat → Nat} {w : Bool} {ops : Array Oper} {os : List Oper} {k : St → Prop} {n : Nat} {l : List (Nat × D)} {h : Heap} {d : Nat} {t ty : TypeId} {pos : String} {af : Array Edge} {x y z : Operand}
variable {β : Type} {G : β → Prop} {O : List (Nat × AObj)} {α : Type} {c : α → List D} {e : List α} {q id : Nat}
end
end Go.Proofs.YtilhbalhkljanaaGreatDoor
