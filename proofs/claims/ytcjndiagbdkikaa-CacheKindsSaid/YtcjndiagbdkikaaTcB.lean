/- Facts on the types and functions of the program, each by one look of the kernel. No condition. -/
import Derived.Test.YtcjndiagbdkikaaEng19
import Derived.Test.YtcjndiagbdkikaaProg
import Derived.Test.YtcjndiagbdkikaaTy
set_option linter.unusedVariables false
namespace Go.Proofs.Ytcjndiagbdkikaa
theorem en_6 : entD Try.prog 6 = true := by kernel_rfl
theorem ty_ag_38 : agD Try.prog 38 = some true := by kernel_rfl
theorem ty_ar_52 : arD Try.prog 52 = some (2, 4) := by kernel_rfl
theorem ty_bo_4 : boD Try.prog 4 = true := by kernel_rfl
theorem ty_fd_38_0 : fdD Try.prog 38 0 = some (0, 3) := by kernel_rfl
theorem ty_fd_38_1 : fdD Try.prog 38 1 = some (1, 3) := by kernel_rfl
theorem ty_fd_38_2 : fdD Try.prog 38 2 = some (2, 3) := by kernel_rfl
theorem ty_fd_38_3 : fdD Try.prog 38 3 = some (3, 4) := by kernel_rfl
theorem ty_ki_24 : kiD Try.prog 24 = some .u64 := by kernel_rfl
theorem ty_pl_52 : plD Try.prog 52 = none := by kernel_rfl
theorem ty_sl_35 : slD Try.prog 35 = some 38 := by kernel_rfl
theorem ty_sl_57 : slD Try.prog 57 = some 52 := by kernel_rfl
theorem ty_sz_38 : szD Try.prog 38 = some 4 := by kernel_rfl
theorem ty_un_24 : (Try.prog.underlying 24).isSome = true := by kernel_rfl
theorem ty_un_3 : (Try.prog.underlying 3).isSome = true := by kernel_rfl
theorem ty_zc_38 : zcD Try.prog 38 = some [.int .i64 0, .int .i64 0, .int .i64 0, .bool false] := by kernel_rfl
theorem ty_zc_52 : zcD Try.prog 52 = some [.bool false, .bool false] := by kernel_rfl
end Go.Proofs.Ytcjndiagbdkikaa
