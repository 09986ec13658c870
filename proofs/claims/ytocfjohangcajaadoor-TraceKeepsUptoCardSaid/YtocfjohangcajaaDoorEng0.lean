/- What is asked of memory at the begin. No condition. -/
import Derived.Orders
import Derived.Test.YtocfjohangcajaaDoorProg
import Derived.ShapedOpen
import Derived.Lib.LaidTab
import Derived.Shelf.Strconv.Itoa3
namespace Go.Proofs.YtocfjohangcajaaDoor

/-- A table's name. -/
noncomputable def gName (i : Nat) : String := ((Tryd.prog.globals[i]?).map (·.name)).getD ""
def isIf (v : Value) : Prop := v = .nilIface ∨ ∃ te pe, v = .iface te pe
def Tabs (w : World) : Prop := w.ShapedOpen Tryd.prog ∧ Lib.TabIs Tryd.prog w (gName 2) .u64 Lib.pow10Tab ∧ (∃ v, w.cell? ⟨3, 0, none⟩ = some v ∧ isIf v) ∧ (∃ v, w.cell? ⟨4, 0, none⟩ = some v ∧ isIf v)
end Go.Proofs.YtocfjohangcajaaDoor
