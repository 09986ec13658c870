/- Facts on the types and functions of the program, each by one look of the kernel. No condition. -/
import Derived.Test.YtggnjahdjmncaaaDoorEng19
import Derived.Test.YtggnjahdjmncaaaDoorProg
set_option linter.unusedVariables false
namespace Go.Proofs.YtggnjahdjmncaaaDoor
theorem en_10 : entD Tryd.prog 10 = true := by kernel_rfl
theorem en_11 : entD Tryd.prog 11 = true := by kernel_rfl
theorem en_12 : entD Tryd.prog 12 = true := by kernel_rfl
theorem en_13 : entD Tryd.prog 13 = true := by kernel_rfl
theorem en_14 : entD Tryd.prog 14 = true := by kernel_rfl
theorem en_15 : entD Tryd.prog 15 = true := by kernel_rfl
theorem en_16 : entD Tryd.prog 16 = true := by kernel_rfl
theorem en_17 : entD Tryd.prog 17 = true := by kernel_rfl
theorem en_18 : entD Tryd.prog 18 = true := by kernel_rfl
theorem en_19 : entD Tryd.prog 19 = true := by kernel_rfl
theorem en_20 : entD Tryd.prog 20 = true := by kernel_rfl
theorem en_21 : entD Tryd.prog 21 = true := by kernel_rfl
theorem en_22 : entD Tryd.prog 22 = true := by kernel_rfl
theorem en_23 : entD Tryd.prog 23 = true := by kernel_rfl
theorem en_25 : entD Tryd.prog 25 = true := by kernel_rfl
theorem en_28 : entD Tryd.prog 28 = true := by kernel_rfl
theorem en_3 : entD Tryd.prog 3 = true := by kernel_rfl
theorem en_31 : entD Tryd.prog 31 = true := by kernel_rfl
theorem en_32 : entD Tryd.prog 32 = true := by kernel_rfl
theorem en_33 : entD Tryd.prog 33 = true := by kernel_rfl
theorem en_34 : entD Tryd.prog 34 = true := by kernel_rfl
theorem en_35 : entD Tryd.prog 35 = true := by kernel_rfl
theorem en_36 : entD Tryd.prog 36 = true := by kernel_rfl
theorem en_37 : entD Tryd.prog 37 = true := by kernel_rfl
theorem en_38 : entD Tryd.prog 38 = true := by kernel_rfl
theorem en_39 : entD Tryd.prog 39 = true := by kernel_rfl
theorem en_4 : entD Tryd.prog 4 = true := by kernel_rfl
theorem en_40 : entD Tryd.prog 40 = true := by kernel_rfl
theorem en_42 : entD Tryd.prog 42 = true := by kernel_rfl
theorem en_43 : entD Tryd.prog 43 = true := by kernel_rfl
theorem en_44 : entD Tryd.prog 44 = true := by kernel_rfl
theorem en_45 : entD Tryd.prog 45 = true := by kernel_rfl
theorem en_49 : entD Tryd.prog 49 = true := by kernel_rfl
theorem en_5 : entD Tryd.prog 5 = true := by kernel_rfl
theorem en_53 : entD Tryd.prog 53 = true := by kernel_rfl
theorem en_54 : entD Tryd.prog 54 = true := by kernel_rfl
theorem en_55 : entD Tryd.prog 55 = true := by kernel_rfl
theorem en_56 : entD Tryd.prog 56 = true := by kernel_rfl
theorem en_57 : entD Tryd.prog 57 = true := by kernel_rfl
theorem en_58 : entD Tryd.prog 58 = true := by kernel_rfl
theorem en_59 : entD Tryd.prog 59 = true := by kernel_rfl
theorem en_6 : entD Tryd.prog 6 = true := by kernel_rfl
theorem en_60 : entD Tryd.prog 60 = true := by kernel_rfl
theorem en_61 : entD Tryd.prog 61 = true := by kernel_rfl
theorem en_62 : entD Tryd.prog 62 = true := by kernel_rfl
theorem en_64 : entD Tryd.prog 64 = true := by kernel_rfl
theorem en_65 : entD Tryd.prog 65 = true := by kernel_rfl
theorem en_7 : entD Tryd.prog 7 = true := by kernel_rfl
theorem en_77 : entD Tryd.prog 77 = true := by kernel_rfl
theorem en_79 : entD Tryd.prog 79 = true := by kernel_rfl
theorem en_8 : entD Tryd.prog 8 = true := by kernel_rfl
theorem en_81 : entD Tryd.prog 81 = true := by kernel_rfl
theorem en_9 : entD Tryd.prog 9 = true := by kernel_rfl
theorem ty_ag_116 : agD Tryd.prog 116 = some true := by kernel_rfl
theorem ty_ag_21 : agD Tryd.prog 21 = some false := by kernel_rfl
theorem ty_ag_22 : agD Tryd.prog 22 = some false := by kernel_rfl
theorem ty_ag_24 : agD Tryd.prog 24 = some true := by kernel_rfl
theorem ty_ag_26 : agD Tryd.prog 26 = some true := by kernel_rfl
theorem ty_ag_3 : agD Tryd.prog 3 = some false := by kernel_rfl
theorem ty_ag_34 : agD Tryd.prog 34 = some true := by kernel_rfl
theorem ty_ag_4 : agD Tryd.prog 4 = some false := by kernel_rfl
theorem ty_ag_42 : agD Tryd.prog 42 = some false := by kernel_rfl
theorem ty_ag_43 : agD Tryd.prog 43 = some false := by kernel_rfl
theorem ty_ag_45 : agD Tryd.prog 45 = some true := by kernel_rfl
theorem ty_ag_5 : agD Tryd.prog 5 = some false := by kernel_rfl
theorem ty_ag_80 : agD Tryd.prog 80 = some true := by kernel_rfl
theorem ty_ag_9 : agD Tryd.prog 9 = some false := by kernel_rfl
theorem ty_bo_4 : boD Tryd.prog 4 = true := by kernel_rfl
theorem ty_el_117 : elD Tryd.prog 117 = some (2, 8, [.int .i32 0, .int .i32 0]) := by kernel_rfl
theorem ty_el_22 : elD Tryd.prog 22 = some (1, 8, [.int .i64 0]) := by kernel_rfl
theorem ty_el_42 : elD Tryd.prog 42 = some (3, 48, [.str [], .str [], .str []]) := by kernel_rfl
theorem ty_el_43 : elD Tryd.prog 43 = some (6, 104, [.int .i64 0, .str [], .str [], .snil, .snil, .str []]) := by kernel_rfl
theorem ty_el_64 : elD Tryd.prog 64 = some (1, 16, [.str []]) := by kernel_rfl
theorem ty_el_72 : elD Tryd.prog 72 = some (1, 1, [.int .u8 0]) := by kernel_rfl
theorem ty_fd_116_0 : fdD Tryd.prog 116 0 = some (0, 21) := by kernel_rfl
theorem ty_fd_116_1 : fdD Tryd.prog 116 1 = some (1, 21) := by kernel_rfl
theorem ty_fd_24_0 : fdD Tryd.prog 24 0 = some (0, 9) := by kernel_rfl
theorem ty_fd_24_1 : fdD Tryd.prog 24 1 = some (1, 9) := by kernel_rfl
theorem ty_fd_26_0 : fdD Tryd.prog 26 0 = some (0, 22) := by kernel_rfl
theorem ty_fd_26_1 : fdD Tryd.prog 26 1 = some (1, 4) := by kernel_rfl
theorem ty_fd_26_2 : fdD Tryd.prog 26 2 = some (2, 24) := by kernel_rfl
theorem ty_fd_34_0 : fdD Tryd.prog 34 0 = some (0, 22) := by kernel_rfl
theorem ty_fd_34_1 : fdD Tryd.prog 34 1 = some (1, 4) := by kernel_rfl
theorem ty_fd_34_2 : fdD Tryd.prog 34 2 = some (2, 24) := by kernel_rfl
theorem ty_fd_45_0 : fdD Tryd.prog 45 0 = some (0, 3) := by kernel_rfl
theorem ty_fd_45_2 : fdD Tryd.prog 45 2 = some (3, 42) := by kernel_rfl
theorem ty_fd_45_3 : fdD Tryd.prog 45 3 = some (4, 43) := by kernel_rfl
theorem ty_fd_45_4 : fdD Tryd.prog 45 4 = some (5, 9) := by kernel_rfl
theorem ty_fd_80_0 : fdD Tryd.prog 80 0 = some (0, 24) := by kernel_rfl
theorem ty_fd_80_1 : fdD Tryd.prog 80 1 = some (2, 9) := by kernel_rfl
theorem ty_if_67 : ifT Tryd.prog 67 = true := by kernel_rfl
theorem ty_ki_3 : kiD Tryd.prog 3 = some .i64 := by kernel_rfl
theorem ty_ki_5 : kiD Tryd.prog 5 = some .u8 := by kernel_rfl
theorem ty_ni_22 : notIntD Tryd.prog 22 = true := by kernel_rfl
theorem ty_ni_42 : notIntD Tryd.prog 42 = true := by kernel_rfl
theorem ty_ni_43 : notIntD Tryd.prog 43 = true := by kernel_rfl
theorem ty_pl_116 : plD Tryd.prog 116 = some [(0, 1), (1, 1)] := by kernel_rfl
theorem ty_pl_24 : plD Tryd.prog 24 = some [(0, 1), (1, 1)] := by kernel_rfl
theorem ty_pl_26 : plD Tryd.prog 26 = some [(0, 1), (1, 1), (2, 2)] := by kernel_rfl
theorem ty_pl_34 : plD Tryd.prog 34 = some [(0, 1), (1, 1), (2, 2)] := by kernel_rfl
theorem ty_pl_45 : plD Tryd.prog 45 = some [(0, 1), (1, 2), (3, 1), (4, 1), (5, 1)] := by kernel_rfl
theorem ty_qg_24 : Tryd.prog.eqGuardType Tryd.prog.depth 24 = false := by kernel_rfl
theorem ty_sf_24 : sfD Tryd.prog 24 = some [(0, 9), (1, 9)] := by kernel_rfl
theorem ty_sl_117 : slD Tryd.prog 117 = some 116 := by kernel_rfl
theorem ty_sl_22 : slD Tryd.prog 22 = some 3 := by kernel_rfl
theorem ty_sl_42 : slD Tryd.prog 42 = some 80 := by kernel_rfl
theorem ty_sl_43 : slD Tryd.prog 43 = some 45 := by kernel_rfl
theorem ty_sl_64 : slD Tryd.prog 64 = some 9 := by kernel_rfl
theorem ty_sl_72 : slD Tryd.prog 72 = some 5 := by kernel_rfl
theorem ty_st_9 : stD Tryd.prog 9 = true := by kernel_rfl
theorem ty_sz_116 : szD Tryd.prog 116 = some 2 := by kernel_rfl
theorem ty_sz_21 : szD Tryd.prog 21 = some 1 := by kernel_rfl
theorem ty_sz_22 : szD Tryd.prog 22 = some 1 := by kernel_rfl
theorem ty_sz_24 : szD Tryd.prog 24 = some 2 := by kernel_rfl
theorem ty_sz_26 : szD Tryd.prog 26 = some 4 := by kernel_rfl
theorem ty_sz_3 : szD Tryd.prog 3 = some 1 := by kernel_rfl
theorem ty_sz_34 : szD Tryd.prog 34 = some 4 := by kernel_rfl
theorem ty_sz_4 : szD Tryd.prog 4 = some 1 := by kernel_rfl
theorem ty_sz_42 : szD Tryd.prog 42 = some 1 := by kernel_rfl
theorem ty_sz_43 : szD Tryd.prog 43 = some 1 := by kernel_rfl
theorem ty_sz_45 : szD Tryd.prog 45 = some 6 := by kernel_rfl
theorem ty_sz_5 : szD Tryd.prog 5 = some 1 := by kernel_rfl
theorem ty_sz_80 : szD Tryd.prog 80 = some 3 := by kernel_rfl
theorem ty_sz_9 : szD Tryd.prog 9 = some 1 := by kernel_rfl
theorem ty_un_3 : (Tryd.prog.underlying 3).isSome = true := by kernel_rfl
theorem ty_un_5 : (Tryd.prog.underlying 5).isSome = true := by kernel_rfl
theorem ty_zc_116 : zcD Tryd.prog 116 = some [.int .i32 0, .int .i32 0] := by kernel_rfl
theorem ty_zc_24 : zcD Tryd.prog 24 = some [.str [], .str []] := by kernel_rfl
theorem ty_zc_26 : zcD Tryd.prog 26 = some [.snil, .bool false, .str [], .str []] := by kernel_rfl
theorem ty_zc_34 : zcD Tryd.prog 34 = some [.snil, .bool false, .str [], .str []] := by kernel_rfl
theorem ty_zc_45 : zcD Tryd.prog 45 = some [.int .i64 0, .str [], .str [], .snil, .snil, .str []] := by kernel_rfl
theorem ty_zc_80 : zcD Tryd.prog 80 = some [.str [], .str [], .str []] := by kernel_rfl
end Go.Proofs.YtggnjahdjmncaaaDoor
