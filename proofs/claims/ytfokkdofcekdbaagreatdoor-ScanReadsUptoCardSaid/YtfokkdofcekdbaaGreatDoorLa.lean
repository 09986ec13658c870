/- The law's own start: it is awake. No condition. -/
import Derived.Test.YtfokkdofcekdbaaGreatDoorWs
import Derived.KernelRfl
set_option linter.unusedSimpArgs false
set_option linter.unusedVariables false
namespace Go.Proofs.YtfokkdofcekdbaaGreatDoor
theorem awake_t : Fl_awake = some true := by kernel_rfl
end Go.Proofs.YtfokkdofcekdbaaGreatDoor
