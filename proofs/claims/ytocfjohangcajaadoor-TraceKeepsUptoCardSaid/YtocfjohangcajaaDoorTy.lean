/- Facts on the types and functions of the program, each by one look of the kernel. No condition. -/
import Derived.Test.YtocfjohangcajaaDoorEng19
import Derived.Test.YtocfjohangcajaaDoorProg
set_option linter.unusedVariables false
namespace Go.Proofs.YtocfjohangcajaaDoor
theorem en_11 : entD Tryd.prog 11 = true := by kernel_rfl
theorem en_12 : entD Tryd.prog 12 = true := by kernel_rfl
theorem en_14 : entD Tryd.prog 14 = true := by kernel_rfl
theorem en_15 : entD Tryd.prog 15 = true := by kernel_rfl
theorem en_16 : entD Tryd.prog 16 = true := by kernel_rfl
theorem en_18 : entD Tryd.prog 18 = true := by kernel_rfl
theorem en_19 : entD Tryd.prog 19 = true := by kernel_rfl
theorem en_20 : entD Tryd.prog 20 = true := by kernel_rfl
theorem en_24 : entD Tryd.prog 24 = true := by kernel_rfl
theorem en_25 : entD Tryd.prog 25 = true := by kernel_rfl
theorem en_26 : entD Tryd.prog 26 = true := by kernel_rfl
theorem en_29 : entD Tryd.prog 29 = true := by kernel_rfl
theorem en_30 : entD Tryd.prog 30 = true := by kernel_rfl
theorem en_33 : entD Tryd.prog 33 = true := by kernel_rfl
theorem en_34 : entD Tryd.prog 34 = true := by kernel_rfl
theorem en_38 : entD Tryd.prog 38 = true := by kernel_rfl
theorem en_39 : entD Tryd.prog 39 = true := by kernel_rfl
theorem en_43 : entD Tryd.prog 43 = true := by kernel_rfl
theorem en_44 : entD Tryd.prog 44 = true := by kernel_rfl
theorem en_45 : entD Tryd.prog 45 = true := by kernel_rfl
theorem en_50 : entD Tryd.prog 50 = true := by kernel_rfl
theorem en_52 : entD Tryd.prog 52 = true := by kernel_rfl
theorem en_53 : entD Tryd.prog 53 = true := by kernel_rfl
theorem en_57 : entD Tryd.prog 57 = true := by kernel_rfl
theorem en_58 : entD Tryd.prog 58 = true := by kernel_rfl
theorem ty_ag_23 : agD Tryd.prog 23 = some false := by kernel_rfl
theorem ty_ag_3 : agD Tryd.prog 3 = some false := by kernel_rfl
theorem ty_ag_4 : agD Tryd.prog 4 = some false := by kernel_rfl
theorem ty_ag_45 : agD Tryd.prog 45 = some false := by kernel_rfl
theorem ty_ag_52 : agD Tryd.prog 52 = some true := by kernel_rfl
theorem ty_ag_54 : agD Tryd.prog 54 = some false := by kernel_rfl
theorem ty_ag_56 : agD Tryd.prog 56 = some true := by kernel_rfl
theorem ty_ag_78 : agD Tryd.prog 78 = some false := by kernel_rfl
theorem ty_ag_80 : agD Tryd.prog 80 = some true := by kernel_rfl
theorem ty_ag_82 : agD Tryd.prog 82 = some false := by kernel_rfl
theorem ty_ag_84 : agD Tryd.prog 84 = some true := by kernel_rfl
theorem ty_ag_9 : agD Tryd.prog 9 = some false := by kernel_rfl
theorem ty_bo_4 : boD Tryd.prog 4 = true := by kernel_rfl
theorem ty_el_23 : elD Tryd.prog 23 = some (2, 32, [.snil, .bool false]) := by kernel_rfl
theorem ty_el_27 : elD Tryd.prog 27 = some (2, 32, [.snil, .bool false]) := by kernel_rfl
theorem ty_el_54 : elD Tryd.prog 54 = some (1, 16, [.cplx .f64 0 0]) := by kernel_rfl
theorem ty_el_78 : elD Tryd.prog 78 = some (2, 16, [.int .i64 0, .int .i64 0]) := by kernel_rfl
theorem ty_el_87 : elD Tryd.prog 87 = some (1, 16, [.str []]) := by kernel_rfl
theorem ty_fa_40 : faD Tryd.prog 40 = some .f64 := by kernel_rfl
theorem ty_fd_52_0 : fdD Tryd.prog 52 0 = some (0, 3) := by kernel_rfl
theorem ty_fd_52_1 : fdD Tryd.prog 52 1 = some (1, 3) := by kernel_rfl
theorem ty_fd_56_0 : fdD Tryd.prog 56 0 = some (0, 54) := by kernel_rfl
theorem ty_fd_56_1 : fdD Tryd.prog 56 1 = some (1, 4) := by kernel_rfl
theorem ty_fd_70_0 : fdD Tryd.prog 70 0 = some (0, 9) := by kernel_rfl
theorem ty_fd_70_1 : fdD Tryd.prog 70 1 = some (1, 3) := by kernel_rfl
theorem ty_fd_70_2 : fdD Tryd.prog 70 2 = some (2, 23) := by kernel_rfl
theorem ty_fd_70_3 : fdD Tryd.prog 70 3 = some (3, 45) := by kernel_rfl
theorem ty_fd_70_4 : fdD Tryd.prog 70 4 = some (4, 3) := by kernel_rfl
theorem ty_fd_70_5 : fdD Tryd.prog 70 5 = some (5, 4) := by kernel_rfl
theorem ty_fd_80_0 : fdD Tryd.prog 80 0 = some (0, 78) := by kernel_rfl
theorem ty_fd_80_1 : fdD Tryd.prog 80 1 = some (1, 4) := by kernel_rfl
theorem ty_fd_84_0 : fdD Tryd.prog 84 0 = some (0, 82) := by kernel_rfl
theorem ty_fd_84_1 : fdD Tryd.prog 84 1 = some (1, 4) := by kernel_rfl
theorem ty_ki_3 : kiD Tryd.prog 3 = some .i64 := by kernel_rfl
theorem ty_ki_40 : kiD Tryd.prog 40 = none := by kernel_rfl
theorem ty_ni_23 : notIntD Tryd.prog 23 = true := by kernel_rfl
theorem ty_ni_27 : notIntD Tryd.prog 27 = true := by kernel_rfl
theorem ty_ni_54 : notIntD Tryd.prog 54 = true := by kernel_rfl
theorem ty_ni_78 : notIntD Tryd.prog 78 = true := by kernel_rfl
theorem ty_ni_87 : notIntD Tryd.prog 87 = true := by kernel_rfl
theorem ty_pl_52 : plD Tryd.prog 52 = some [(0, 1), (1, 1)] := by kernel_rfl
theorem ty_pl_56 : plD Tryd.prog 56 = some [(0, 1), (1, 1)] := by kernel_rfl
theorem ty_pl_70 : plD Tryd.prog 70 = some [(0, 1), (1, 1), (2, 1), (3, 1), (4, 1), (5, 1)] := by kernel_rfl
theorem ty_pl_80 : plD Tryd.prog 80 = some [(0, 1), (1, 1)] := by kernel_rfl
theorem ty_qg_52 : Tryd.prog.eqGuardType Tryd.prog.depth 52 = false := by kernel_rfl
theorem ty_sf_52 : sfD Tryd.prog 52 = some [(0, 3), (1, 3)] := by kernel_rfl
theorem ty_sl_23 : slD Tryd.prog 23 = some 56 := by kernel_rfl
theorem ty_sl_27 : slD Tryd.prog 27 = some 80 := by kernel_rfl
theorem ty_sl_32 : slD Tryd.prog 32 = some 84 := by kernel_rfl
theorem ty_sl_54 : slD Tryd.prog 54 = some 45 := by kernel_rfl
theorem ty_sl_78 : slD Tryd.prog 78 = some 52 := by kernel_rfl
theorem ty_sl_82 : slD Tryd.prog 82 = some 3 := by kernel_rfl
theorem ty_sl_87 : slD Tryd.prog 87 = some 9 := by kernel_rfl
theorem ty_st_9 : stD Tryd.prog 9 = true := by kernel_rfl
theorem ty_sz_23 : szD Tryd.prog 23 = some 1 := by kernel_rfl
theorem ty_sz_3 : szD Tryd.prog 3 = some 1 := by kernel_rfl
theorem ty_sz_4 : szD Tryd.prog 4 = some 1 := by kernel_rfl
theorem ty_sz_45 : szD Tryd.prog 45 = some 1 := by kernel_rfl
theorem ty_sz_52 : szD Tryd.prog 52 = some 2 := by kernel_rfl
theorem ty_sz_54 : szD Tryd.prog 54 = some 1 := by kernel_rfl
theorem ty_sz_56 : szD Tryd.prog 56 = some 2 := by kernel_rfl
theorem ty_sz_78 : szD Tryd.prog 78 = some 1 := by kernel_rfl
theorem ty_sz_80 : szD Tryd.prog 80 = some 2 := by kernel_rfl
theorem ty_sz_82 : szD Tryd.prog 82 = some 1 := by kernel_rfl
theorem ty_sz_84 : szD Tryd.prog 84 = some 2 := by kernel_rfl
theorem ty_sz_9 : szD Tryd.prog 9 = some 1 := by kernel_rfl
theorem ty_un_3 : (Tryd.prog.underlying 3).isSome = true := by kernel_rfl
theorem ty_un_40 : (Tryd.prog.underlying 40).isSome = true := by kernel_rfl
theorem ty_zc_52 : zcD Tryd.prog 52 = some [.int .i64 0, .int .i64 0] := by kernel_rfl
theorem ty_zc_56 : zcD Tryd.prog 56 = some [.snil, .bool false] := by kernel_rfl
theorem ty_zc_70 : zcD Tryd.prog 70 = some [.str [], .int .i64 0, .snil, .cplx .f64 0 0, .int .i64 0, .bool false] := by kernel_rfl
theorem ty_zc_80 : zcD Tryd.prog 80 = some [.snil, .bool false] := by kernel_rfl
theorem ty_zc_84 : zcD Tryd.prog 84 = some [.snil, .bool false] := by kernel_rfl
end Go.Proofs.YtocfjohangcajaaDoor
