/- Facts on the types and functions of the program, each by one look of the kernel. No condition. -/
import Derived.Test.YtagdcieobfcpmaaEng19
import Derived.Test.YtagdcieobfcpmaaProg
import Derived.Test.YtagdcieobfcpmaaTy
set_option linter.unusedVariables false
namespace Go.Proofs.Ytagdcieobfcpmaa
theorem en_3 : entD Try.prog 3 = true := by kernel_rfl
theorem ty_ki_24 : kiD Try.prog 24 = some .u64 := by kernel_rfl
theorem ty_un_24 : (Try.prog.underlying 24).isSome = true := by kernel_rfl
theorem ty_un_3 : (Try.prog.underlying 3).isSome = true := by kernel_rfl
end Go.Proofs.Ytagdcieobfcpmaa
