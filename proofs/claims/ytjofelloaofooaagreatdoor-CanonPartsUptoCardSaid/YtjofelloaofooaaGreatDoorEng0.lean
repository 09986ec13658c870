/- What is asked of memory at the begin. No condition. -/
import Derived.Orders
import Derived.Test.YtjofelloaofooaaGreatDoorProg
import Derived.ShapedOpen
import Derived.Lib.LaidTab
import Derived.Lib.ItoaNum
import Derived.Shelf.Unicode.DecodeSlow
namespace Go.Proofs.YtjofelloaofooaaGreatDoor
open Go.Proofs.Tryz
abbrev By8 := UInt8
theorem ba {α β : Type _} (a : α) (f : α -> Option β) : (some a).bind f = f a := rfl
theorem bb {α : Sort _} {a b : α} : cond true a b = a := rfl
theorem bc {α : Sort _} {a b : α} : cond false a b = b := rfl
theorem bf {p : Prop} [i : Decidable p] (h : p) : decide p = true := _root_.decide_eq_true h
theorem bg {p : Prop} [i : Decidable p] (h : ¬p) : decide p = false := _root_.decide_eq_false h
theorem bi {α : Type _} {a : α} {l : List α} : (a :: l).length = l.length + 1 := rfl
theorem bj {α : Type _} : ([] : List α).length = 0 := rfl
theorem bm {α : Type _} {l m : List α} : (l ++ m).length = l.length + m.length := List.length_append
theorem bn {α : Type _} {l : List α} {n : Nat} (h : n < l.length) : l[n]'h ∈ l := List.getElem_mem h
noncomputable def Pi (i : Nat) : String := ((prog.globals[i]?).map (·.name)).getD ""
def Aan (v : Value) : Prop := v = .nilIface \/ ∃ te pe, v = .iface te pe
def Tabs (w : World) : Prop := w.ShapedOpen prog /\ Lib.Utf8Tabs 0 1 w /\ (∀ c : Nat, c < 128 -> ∃ v, w.cell? ⟨2, c, none⟩ = some v /\ (c = 120 -> v = .int .u16 88) /\ (c = 88 -> v = .int .u16 120) /\ (c = 109 -> v = .int .u16 77) /\ (c = 77 -> v = .int .u16 109) /\ (c = 108 -> v = .int .u16 76) /\ (c = 76 -> v = .int .u16 108)) /\ Lib.TabIs prog w (Pi 6) .u64 Lib.pow10Tab
end Go.Proofs.YtjofelloaofooaaGreatDoor
