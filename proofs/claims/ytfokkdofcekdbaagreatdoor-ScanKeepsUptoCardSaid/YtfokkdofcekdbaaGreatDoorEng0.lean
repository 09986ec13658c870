/- What is asked of memory at the begin. No condition. -/
import Derived.Orders
import Derived.Test.YtfokkdofcekdbaaGreatDoorProg
import Derived.ShapedOpen
import Derived.Lib.LaidTab
import Derived.Shelf.Unicode.DecodeSlow
namespace Go.Proofs.YtfokkdofcekdbaaGreatDoor
noncomputable def gName (i : Nat) : String := ((Tryz.prog.globals[i]?).map (·.name)).getD ""
def Tabs (w : World) : Prop := w.ShapedOpen Tryz.prog ∧ Lib.Utf8Tabs 1 2 w ∧ ∀ c : Nat, c < 128 → ∃ v, w.cell? ⟨3, c, none⟩ = some v ∧ (c = 120 → v = .int .u16 88) ∧ (c = 88 → v = .int .u16 120) ∧ (c = 109 → v = .int .u16 77) ∧ (c = 77 → v = .int .u16 109) ∧ (c = 108 → v = .int .u16 76) ∧ (c = 76 → v = .int .u16 108)
end Go.Proofs.YtfokkdofcekdbaaGreatDoor
