/- The law's own start: it is awake. No condition. -/
import Derived.Test.YtocfjohangcajaaDoorPf
set_option linter.unusedSimpArgs false
set_option linter.unusedVariables false
namespace Go.Proofs.YtocfjohangcajaaDoor
theorem awake_t : F_lecternlaw10_awake = some true := by kernel_rfl
end Go.Proofs.YtocfjohangcajaaDoor
