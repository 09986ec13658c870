/- What is asked of memory at the begin. No condition. -/
import Derived.Orders
import Derived.Test.YtggnjahdjmncaaaDoorProg
import Derived.ShapedOpen
import Derived.Lib.LaidTab
import Derived.Shelf.Strconv.Itoa3
import Derived.Shelf.Unicode.DecodeSlow
namespace Go.Proofs.YtggnjahdjmncaaaDoor

/-- A table's name. -/
noncomputable def gName (i : Nat) : String := ((Tryd.prog.globals[i]?).map (·.name)).getD ""
def isIf (v : Value) : Prop := v = .nilIface ∨ ∃ te pe, v = .iface te pe
def Tabs (w : World) : Prop := w.ShapedOpen Tryd.prog ∧ Lib.TabIs Tryd.prog w (gName 5) .u64 Lib.pow10Tab ∧ Lib.Utf8Tabs 0 1 w ∧ (∃ v, w.cell? ⟨3, 0, none⟩ = some v ∧ isIf v) ∧ (∃ v, w.cell? ⟨4, 0, none⟩ = some v ∧ isIf v)
end Go.Proofs.YtggnjahdjmncaaaDoor
