/- Facts on the types and functions of the program, each by one look of the kernel. No condition. -/
import Derived.Test.YtcjndiagbdkikaaEng19
import Derived.Test.YtcjndiagbdkikaaProg
import Derived.Test.YtcjndiagbdkikaaTy
set_option linter.unusedVariables false
namespace Go.Proofs.Ytcjndiagbdkikaa
theorem en_4 : entD Try.prog 4 = true := by kernel_rfl
theorem ty_ag_38 : agD Try.prog 38 = some true := by kernel_rfl
theorem ty_fd_38_0 : fdD Try.prog 38 0 = some (0, 3) := by kernel_rfl
theorem ty_fd_38_1 : fdD Try.prog 38 1 = some (1, 3) := by kernel_rfl
theorem ty_fd_38_2 : fdD Try.prog 38 2 = some (2, 3) := by kernel_rfl
theorem ty_fd_38_3 : fdD Try.prog 38 3 = some (3, 4) := by kernel_rfl
theorem ty_ki_24 : kiD Try.prog 24 = some .u64 := by kernel_rfl
theorem ty_ma_36 : maD Try.prog 36 = some (3, 3) := by kernel_rfl
theorem ty_ma_41 : maD Try.prog 41 = some (3, 4) := by kernel_rfl
theorem ty_sl_35 : slD Try.prog 35 = some 38 := by kernel_rfl
theorem ty_sz_38 : szD Try.prog 38 = some 4 := by kernel_rfl
theorem ty_un_24 : (Try.prog.underlying 24).isSome = true := by kernel_rfl
theorem ty_un_3 : (Try.prog.underlying 3).isSome = true := by kernel_rfl
theorem ty_zc_38 : zcD Try.prog 38 = some [.int .i64 0, .int .i64 0, .int .i64 0, .bool false] := by kernel_rfl
theorem ty_zr_3 : zrD Try.prog 3 = some (.int .i64 0) := by kernel_rfl
theorem ty_zr_4 : zrD Try.prog 4 = some (.bool false) := by kernel_rfl
end Go.Proofs.Ytcjndiagbdkikaa
