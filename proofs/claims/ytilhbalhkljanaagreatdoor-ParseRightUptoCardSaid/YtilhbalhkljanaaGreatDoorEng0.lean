/- What is asked of memory at the begin. No condition. -/
import Derived.Orders
import Derived.Test.YtilhbalhkljanaaGreatDoorProg
import Derived.ShapedOpen
import Derived.Lib.LaidTab
import Derived.Shelf.Unicode.DecodeSlow
namespace Go.Proofs.YtilhbalhkljanaaGreatDoor
noncomputable def bV (i : Nat) : String := ((Tryz.prog.globals[i]?).map (·.name)).getD ""
def Zy (w : World) : Prop := w.ShapedOpen Tryz.prog ∧ Lib.Utf8Tabs 0 1 w ∧ ∀ c : Nat, c < 128 → ∃ v, w.cell? ⟨2, c, none⟩ = some v ∧ (c = 120 → v = .int .u16 88) ∧ (c = 88 → v = .int .u16 120) ∧ (c = 109 → v = .int .u16 77) ∧ (c = 77 → v = .int .u16 109) ∧ (c = 108 → v = .int .u16 76) ∧ (c = 76 → v = .int .u16 108)
theorem om {p : Prop} (h : p := by omega) : p := h
end Go.Proofs.YtilhbalhkljanaaGreatDoor
