/- Facts on the types and functions of the program, each by one look of the kernel. No condition. -/
import Derived.Test.YtcjndiagbdkikaaEng19
import Derived.Test.YtcjndiagbdkikaaProg
import Derived.Test.YtcjndiagbdkikaaTy
set_option linter.unusedVariables false
namespace Go.Proofs.Ytcjndiagbdkikaa
theorem en_19 : entD Try.prog 19 = true := by kernel_rfl
theorem en_20 : entD Try.prog 20 = true := by kernel_rfl
theorem en_40 : entD Try.prog 40 = true := by kernel_rfl
theorem en_41 : entD Try.prog 41 = true := by kernel_rfl
theorem en_42 : entD Try.prog 42 = true := by kernel_rfl
theorem en_43 : entD Try.prog 43 = true := by kernel_rfl
theorem en_44 : entD Try.prog 44 = true := by kernel_rfl
theorem en_5 : entD Try.prog 5 = true := by kernel_rfl
theorem en_54 : entD Try.prog 54 = true := by kernel_rfl
theorem en_55 : entD Try.prog 55 = true := by kernel_rfl
theorem en_56 : entD Try.prog 56 = true := by kernel_rfl
theorem ty_ag_38 : agD Try.prog 38 = some true := by kernel_rfl
theorem ty_ag_44 : agD Try.prog 44 = some false := by kernel_rfl
theorem ty_ag_76 : agD Try.prog 76 = some true := by kernel_rfl
theorem ty_bo_4 : boD Try.prog 4 = true := by kernel_rfl
theorem ty_el_44 : elD Try.prog 44 = some (4, 32, [.int .i64 0, .int .i64 0, .bool false, .int .i64 0]) := by kernel_rfl
theorem ty_fd_38_0 : fdD Try.prog 38 0 = some (0, 3) := by kernel_rfl
theorem ty_fd_38_1 : fdD Try.prog 38 1 = some (1, 3) := by kernel_rfl
theorem ty_fd_38_2 : fdD Try.prog 38 2 = some (2, 3) := by kernel_rfl
theorem ty_fd_38_3 : fdD Try.prog 38 3 = some (3, 4) := by kernel_rfl
theorem ty_fd_46_0 : fdD Try.prog 46 0 = some (0, 3) := by kernel_rfl
theorem ty_fd_46_1 : fdD Try.prog 46 1 = some (1, 44) := by kernel_rfl
theorem ty_fd_76_0 : fdD Try.prog 76 0 = some (0, 3) := by kernel_rfl
theorem ty_fd_76_1 : fdD Try.prog 76 1 = some (1, 3) := by kernel_rfl
theorem ty_fd_76_2 : fdD Try.prog 76 2 = some (2, 4) := by kernel_rfl
theorem ty_fd_76_3 : fdD Try.prog 76 3 = some (3, 3) := by kernel_rfl
theorem ty_ni_44 : notIntD Try.prog 44 = true := by kernel_rfl
theorem ty_pl_46 : plD Try.prog 46 = some [(0, 1), (1, 1)] := by kernel_rfl
theorem ty_pl_76 : plD Try.prog 76 = some [(0, 1), (1, 1), (2, 1), (3, 1)] := by kernel_rfl
theorem ty_sl_35 : slD Try.prog 35 = some 38 := by kernel_rfl
theorem ty_sl_44 : slD Try.prog 44 = some 76 := by kernel_rfl
theorem ty_sz_38 : szD Try.prog 38 = some 4 := by kernel_rfl
theorem ty_sz_44 : szD Try.prog 44 = some 1 := by kernel_rfl
theorem ty_sz_76 : szD Try.prog 76 = some 4 := by kernel_rfl
theorem ty_zc_38 : zcD Try.prog 38 = some [.int .i64 0, .int .i64 0, .int .i64 0, .bool false] := by kernel_rfl
theorem ty_zc_46 : zcD Try.prog 46 = some [.int .i64 0, .snil] := by kernel_rfl
theorem ty_zc_76 : zcD Try.prog 76 = some [.int .i64 0, .int .i64 0, .bool false, .int .i64 0] := by kernel_rfl
end Go.Proofs.Ytcjndiagbdkikaa
