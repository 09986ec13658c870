/- What is asked of memory at the begin. No condition. -/
import Derived.Orders
import Derived.Test.YtmnbjcpikllknaaGreatDoorProg
import Derived.ShapedOpen
import Derived.Lib.LaidTab
import Derived.Lib.ItoaNum
import Derived.Shelf.Unicode.DecodeSlow
namespace Go.Proofs.YtmnbjcpikllknaaGreatDoor
noncomputable def R8 (i : Nat) : String := ((Tryz.prog.globals[i]?).map (·.name)).getD ""
def XP (v : Value) : Prop := v = .nilIface \/ ∃ te pe, v = .iface te pe
def Tabs (w : World) : Prop := w.ShapedOpen Tryz.prog /\ Lib.Utf8Tabs 0 1 w /\ (∀ c : Nat, c < 128 -> ∃ v, w.cell? ⟨2, c, none⟩ = some v /\ (c = 120 -> v = .int .u16 88) /\ (c = 88 -> v = .int .u16 120) /\ (c = 109 -> v = .int .u16 77) /\ (c = 77 -> v = .int .u16 109) /\ (c = 108 -> v = .int .u16 76) /\ (c = 76 -> v = .int .u16 108)) /\ Lib.TabIs Tryz.prog w (R8 9) .u64 Lib.pow10Tab /\ (∃ v, w.cell? ⟨7, 0, none⟩ = some v /\ XP v) /\ (∃ v, w.cell? ⟨8, 0, none⟩ = some v /\ XP v)
end Go.Proofs.YtmnbjcpikllknaaGreatDoor
