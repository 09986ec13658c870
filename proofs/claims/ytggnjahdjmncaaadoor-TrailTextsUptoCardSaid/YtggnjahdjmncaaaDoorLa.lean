/- The law's own start: it is awake. No condition. -/
import Derived.Test.YtggnjahdjmncaaaDoorPf
import Derived.Test.YtggnjahdjmncaaaDoorPl1
import Derived.KernelRfl
set_option maxRecDepth 20000
namespace Go.Proofs.YtggnjahdjmncaaaDoor
theorem awake_t : F_lecternlaw08_awake = some true := by kernel_rfl
end Go.Proofs.YtggnjahdjmncaaaDoor
