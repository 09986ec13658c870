/- The law's own start: it is awake. No condition. -/
import Derived.Test.YtfokkdofcekdbaaDoorPf
import Derived.KernelRfl
set_option linter.unusedSimpArgs false
set_option linter.unusedVariables false
namespace Go.Proofs.YtfokkdofcekdbaaDoor
theorem awake_t : F_lecternlaw03_awake = some true := by kernel_rfl
end Go.Proofs.YtfokkdofcekdbaaDoor
