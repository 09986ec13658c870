/- Facts on the types and functions of the program, each by one look of the kernel. No condition. -/
import Derived.Test.YtfokkdofcekdbaaGreatDoorEng19
import Derived.Test.YtfokkdofcekdbaaGreatDoorProg
set_option linter.unusedVariables false
namespace Go.Proofs.YtfokkdofcekdbaaGreatDoor
theorem en_10 : entD Tryz.prog 10 = true := by kernel_rfl
theorem en_103 : entD Tryz.prog 103 = true := by kernel_rfl
theorem en_105 : entD Tryz.prog 105 = true := by kernel_rfl
theorem en_11 : entD Tryz.prog 11 = true := by kernel_rfl
theorem en_110 : entD Tryz.prog 110 = true := by kernel_rfl
theorem en_114 : entD Tryz.prog 114 = true := by kernel_rfl
theorem en_12 : entD Tryz.prog 12 = true := by kernel_rfl
theorem en_13 : entD Tryz.prog 13 = true := by kernel_rfl
theorem en_14 : entD Tryz.prog 14 = true := by kernel_rfl
theorem en_15 : entD Tryz.prog 15 = true := by kernel_rfl
theorem en_16 : entD Tryz.prog 16 = true := by kernel_rfl
theorem en_17 : entD Tryz.prog 17 = true := by kernel_rfl
theorem en_18 : entD Tryz.prog 18 = true := by kernel_rfl
theorem en_19 : entD Tryz.prog 19 = true := by kernel_rfl
theorem en_20 : entD Tryz.prog 20 = true := by kernel_rfl
theorem en_21 : entD Tryz.prog 21 = true := by kernel_rfl
theorem en_22 : entD Tryz.prog 22 = true := by kernel_rfl
theorem en_23 : entD Tryz.prog 23 = true := by kernel_rfl
theorem en_24 : entD Tryz.prog 24 = true := by kernel_rfl
theorem en_25 : entD Tryz.prog 25 = true := by kernel_rfl
theorem en_26 : entD Tryz.prog 26 = true := by kernel_rfl
theorem en_27 : entD Tryz.prog 27 = true := by kernel_rfl
theorem en_28 : entD Tryz.prog 28 = true := by kernel_rfl
theorem en_29 : entD Tryz.prog 29 = true := by kernel_rfl
theorem en_30 : entD Tryz.prog 30 = true := by kernel_rfl
theorem en_31 : entD Tryz.prog 31 = true := by kernel_rfl
theorem en_32 : entD Tryz.prog 32 = true := by kernel_rfl
theorem en_33 : entD Tryz.prog 33 = true := by kernel_rfl
theorem en_34 : entD Tryz.prog 34 = true := by kernel_rfl
theorem en_35 : entD Tryz.prog 35 = true := by kernel_rfl
theorem en_36 : entD Tryz.prog 36 = true := by kernel_rfl
theorem en_37 : entD Tryz.prog 37 = true := by kernel_rfl
theorem en_38 : entD Tryz.prog 38 = true := by kernel_rfl
theorem en_39 : entD Tryz.prog 39 = true := by kernel_rfl
theorem en_40 : entD Tryz.prog 40 = true := by kernel_rfl
theorem en_41 : entD Tryz.prog 41 = true := by kernel_rfl
theorem en_42 : entD Tryz.prog 42 = true := by kernel_rfl
theorem en_44 : entD Tryz.prog 44 = true := by kernel_rfl
theorem en_46 : entD Tryz.prog 46 = true := by kernel_rfl
theorem en_47 : entD Tryz.prog 47 = true := by kernel_rfl
theorem en_48 : entD Tryz.prog 48 = true := by kernel_rfl
theorem en_49 : entD Tryz.prog 49 = true := by kernel_rfl
theorem en_5 : entD Tryz.prog 5 = true := by kernel_rfl
theorem en_51 : entD Tryz.prog 51 = true := by kernel_rfl
theorem en_52 : entD Tryz.prog 52 = true := by kernel_rfl
theorem en_53 : entD Tryz.prog 53 = true := by kernel_rfl
theorem en_55 : entD Tryz.prog 55 = true := by kernel_rfl
theorem en_57 : entD Tryz.prog 57 = true := by kernel_rfl
theorem en_58 : entD Tryz.prog 58 = true := by kernel_rfl
theorem en_59 : entD Tryz.prog 59 = true := by kernel_rfl
theorem en_6 : entD Tryz.prog 6 = true := by kernel_rfl
theorem en_60 : entD Tryz.prog 60 = true := by kernel_rfl
theorem en_61 : entD Tryz.prog 61 = true := by kernel_rfl
theorem en_62 : entD Tryz.prog 62 = true := by kernel_rfl
theorem en_63 : entD Tryz.prog 63 = true := by kernel_rfl
theorem en_64 : entD Tryz.prog 64 = true := by kernel_rfl
theorem en_65 : entD Tryz.prog 65 = true := by kernel_rfl
theorem en_67 : entD Tryz.prog 67 = true := by kernel_rfl
theorem en_69 : entD Tryz.prog 69 = true := by kernel_rfl
theorem en_7 : entD Tryz.prog 7 = true := by kernel_rfl
theorem en_76 : entD Tryz.prog 76 = true := by kernel_rfl
theorem en_77 : entD Tryz.prog 77 = true := by kernel_rfl
theorem en_78 : entD Tryz.prog 78 = true := by kernel_rfl
theorem en_8 : entD Tryz.prog 8 = true := by kernel_rfl
theorem en_80 : entD Tryz.prog 80 = true := by kernel_rfl
theorem en_84 : entD Tryz.prog 84 = true := by kernel_rfl
theorem en_85 : entD Tryz.prog 85 = true := by kernel_rfl
theorem en_86 : entD Tryz.prog 86 = true := by kernel_rfl
theorem en_87 : entD Tryz.prog 87 = true := by kernel_rfl
theorem en_89 : entD Tryz.prog 89 = true := by kernel_rfl
theorem en_9 : entD Tryz.prog 9 = true := by kernel_rfl
theorem ty_ag_21 : agD Tryz.prog 21 = some false := by kernel_rfl
theorem ty_ag_22 : agD Tryz.prog 22 = some false := by kernel_rfl
theorem ty_ag_3 : agD Tryz.prog 3 = some false := by kernel_rfl
theorem ty_ag_35 : agD Tryz.prog 35 = some false := by kernel_rfl
theorem ty_ag_37 : agD Tryz.prog 37 = some true := by kernel_rfl
theorem ty_ag_39 : agD Tryz.prog 39 = some false := by kernel_rfl
theorem ty_ag_41 : agD Tryz.prog 41 = some true := by kernel_rfl
theorem ty_ag_44 : agD Tryz.prog 44 = some true := by kernel_rfl
theorem ty_ag_5 : agD Tryz.prog 5 = some false := by kernel_rfl
theorem ty_ag_57 : agD Tryz.prog 57 = some true := by kernel_rfl
theorem ty_ag_9 : agD Tryz.prog 9 = some false := by kernel_rfl
theorem ty_ag_99 : agD Tryz.prog 99 = some true := by kernel_rfl
theorem ty_ar_137 : arD Tryz.prog 137 = some (5, 9) := by kernel_rfl
theorem ty_ar_138 : arD Tryz.prog 138 = some (5, 3) := by kernel_rfl
theorem ty_ar_88 : arD Tryz.prog 88 = some (3, 9) := by kernel_rfl
theorem ty_el_100 : elD Tryz.prog 100 = some (2, 8, [.int .i32 0, .int .i32 0]) := by kernel_rfl
theorem ty_el_22 : elD Tryz.prog 22 = some (1, 1, [.int .u8 0]) := by kernel_rfl
theorem ty_el_25 : elD Tryz.prog 25 = some (6, 80, [.int .i64 0, .int .i64 0, .str [], .snil, .str [], .int .i64 0]) := by kernel_rfl
theorem ty_el_29 : elD Tryz.prog 29 = some (6, 80, [.int .i64 0, .int .i64 0, .str [], .snil, .str [], .int .i64 0]) := by kernel_rfl
theorem ty_el_35 : elD Tryz.prog 35 = some (2, 32, [.str [], .str []]) := by kernel_rfl
theorem ty_el_39 : elD Tryz.prog 39 = some (2, 32, [.str [], .str []]) := by kernel_rfl
theorem ty_el_77 : elD Tryz.prog 77 = some (1, 16, [.str []]) := by kernel_rfl
theorem ty_fa_9 : faD Tryz.prog 9 = none := by kernel_rfl
theorem ty_fd_37_0 : fdD Tryz.prog 37 0 = some (0, 3) := by kernel_rfl
theorem ty_fd_37_1 : fdD Tryz.prog 37 1 = some (1, 3) := by kernel_rfl
theorem ty_fd_37_2 : fdD Tryz.prog 37 2 = some (2, 9) := by kernel_rfl
theorem ty_fd_37_3 : fdD Tryz.prog 37 3 = some (3, 35) := by kernel_rfl
theorem ty_fd_37_4 : fdD Tryz.prog 37 4 = some (4, 9) := by kernel_rfl
theorem ty_fd_37_5 : fdD Tryz.prog 37 5 = some (5, 3) := by kernel_rfl
theorem ty_fd_41_0 : fdD Tryz.prog 41 0 = some (0, 3) := by kernel_rfl
theorem ty_fd_41_1 : fdD Tryz.prog 41 1 = some (1, 3) := by kernel_rfl
theorem ty_fd_41_2 : fdD Tryz.prog 41 2 = some (2, 9) := by kernel_rfl
theorem ty_fd_41_3 : fdD Tryz.prog 41 3 = some (3, 39) := by kernel_rfl
theorem ty_fd_41_4 : fdD Tryz.prog 41 4 = some (4, 9) := by kernel_rfl
theorem ty_fd_41_5 : fdD Tryz.prog 41 5 = some (5, 3) := by kernel_rfl
theorem ty_fd_44_0 : fdD Tryz.prog 44 0 = some (0, 9) := by kernel_rfl
theorem ty_fd_44_1 : fdD Tryz.prog 44 1 = some (1, 9) := by kernel_rfl
theorem ty_fd_47_0 : fdD Tryz.prog 47 0 = some (0, 22) := by kernel_rfl
theorem ty_fd_47_1 : fdD Tryz.prog 47 1 = some (1, 3) := by kernel_rfl
theorem ty_fd_57_0 : fdD Tryz.prog 57 0 = some (0, 9) := by kernel_rfl
theorem ty_fd_99_0 : fdD Tryz.prog 99 0 = some (0, 21) := by kernel_rfl
theorem ty_fd_99_1 : fdD Tryz.prog 99 1 = some (1, 21) := by kernel_rfl
theorem ty_ki_21 : kiD Tryz.prog 21 = some .i32 := by kernel_rfl
theorem ty_ki_3 : kiD Tryz.prog 3 = some .i64 := by kernel_rfl
theorem ty_ki_5 : kiD Tryz.prog 5 = some .u8 := by kernel_rfl
theorem ty_ki_9 : kiD Tryz.prog 9 = none := by kernel_rfl
theorem ty_ni_22 : notIntD Tryz.prog 22 = true := by kernel_rfl
theorem ty_ni_25 : notIntD Tryz.prog 25 = true := by kernel_rfl
theorem ty_ni_29 : notIntD Tryz.prog 29 = true := by kernel_rfl
theorem ty_ni_35 : notIntD Tryz.prog 35 = true := by kernel_rfl
theorem ty_ni_39 : notIntD Tryz.prog 39 = true := by kernel_rfl
theorem ty_ni_9 : notIntD Tryz.prog 9 = true := by kernel_rfl
theorem ty_pl_137 : plD Tryz.prog 137 = none := by kernel_rfl
theorem ty_pl_138 : plD Tryz.prog 138 = none := by kernel_rfl
theorem ty_pl_37 : plD Tryz.prog 37 = some [(0, 1), (1, 1), (2, 1), (3, 1), (4, 1), (5, 1)] := by kernel_rfl
theorem ty_pl_41 : plD Tryz.prog 41 = some [(0, 1), (1, 1), (2, 1), (3, 1), (4, 1), (5, 1)] := by kernel_rfl
theorem ty_pl_44 : plD Tryz.prog 44 = some [(0, 1), (1, 1)] := by kernel_rfl
theorem ty_pl_47 : plD Tryz.prog 47 = some [(0, 1), (1, 1)] := by kernel_rfl
theorem ty_pl_57 : plD Tryz.prog 57 = some [(0, 1), (1, 1)] := by kernel_rfl
theorem ty_pl_88 : plD Tryz.prog 88 = none := by kernel_rfl
theorem ty_pl_99 : plD Tryz.prog 99 = some [(0, 1), (1, 1)] := by kernel_rfl
theorem ty_qg_57 : Tryz.prog.eqGuardType Tryz.prog.depth 57 = false := by kernel_rfl
theorem ty_sf_57 : sfD Tryz.prog 57 = some [(0, 9), (1, 9)] := by kernel_rfl
theorem ty_sl_100 : slD Tryz.prog 100 = some 99 := by kernel_rfl
theorem ty_sl_22 : slD Tryz.prog 22 = some 5 := by kernel_rfl
theorem ty_sl_25 : slD Tryz.prog 25 = some 41 := by kernel_rfl
theorem ty_sl_35 : slD Tryz.prog 35 = some 57 := by kernel_rfl
theorem ty_sl_39 : slD Tryz.prog 39 = some 44 := by kernel_rfl
theorem ty_sl_77 : slD Tryz.prog 77 = some 9 := by kernel_rfl
theorem ty_st_9 : stD Tryz.prog 9 = true := by kernel_rfl
theorem ty_sz_21 : szD Tryz.prog 21 = some 1 := by kernel_rfl
theorem ty_sz_22 : szD Tryz.prog 22 = some 1 := by kernel_rfl
theorem ty_sz_3 : szD Tryz.prog 3 = some 1 := by kernel_rfl
theorem ty_sz_35 : szD Tryz.prog 35 = some 1 := by kernel_rfl
theorem ty_sz_37 : szD Tryz.prog 37 = some 6 := by kernel_rfl
theorem ty_sz_39 : szD Tryz.prog 39 = some 1 := by kernel_rfl
theorem ty_sz_41 : szD Tryz.prog 41 = some 6 := by kernel_rfl
theorem ty_sz_44 : szD Tryz.prog 44 = some 2 := by kernel_rfl
theorem ty_sz_5 : szD Tryz.prog 5 = some 1 := by kernel_rfl
theorem ty_sz_57 : szD Tryz.prog 57 = some 2 := by kernel_rfl
theorem ty_sz_9 : szD Tryz.prog 9 = some 1 := by kernel_rfl
theorem ty_sz_99 : szD Tryz.prog 99 = some 2 := by kernel_rfl
theorem ty_un_21 : (Tryz.prog.underlying 21).isSome = true := by kernel_rfl
theorem ty_un_3 : (Tryz.prog.underlying 3).isSome = true := by kernel_rfl
theorem ty_un_5 : (Tryz.prog.underlying 5).isSome = true := by kernel_rfl
theorem ty_zc_137 : zcD Tryz.prog 137 = some [.str [], .str [], .str [], .str [], .str []] := by kernel_rfl
theorem ty_zc_138 : zcD Tryz.prog 138 = some [.int .i64 0, .int .i64 0, .int .i64 0, .int .i64 0, .int .i64 0] := by kernel_rfl
theorem ty_zc_37 : zcD Tryz.prog 37 = some [.int .i64 0, .int .i64 0, .str [], .snil, .str [], .int .i64 0] := by kernel_rfl
theorem ty_zc_41 : zcD Tryz.prog 41 = some [.int .i64 0, .int .i64 0, .str [], .snil, .str [], .int .i64 0] := by kernel_rfl
theorem ty_zc_44 : zcD Tryz.prog 44 = some [.str [], .str []] := by kernel_rfl
theorem ty_zc_47 : zcD Tryz.prog 47 = some [.snil, .int .i64 0] := by kernel_rfl
theorem ty_zc_57 : zcD Tryz.prog 57 = some [.str [], .str []] := by kernel_rfl
theorem ty_zc_88 : zcD Tryz.prog 88 = some [.str [], .str [], .str []] := by kernel_rfl
theorem ty_zc_99 : zcD Tryz.prog 99 = some [.int .i32 0, .int .i32 0] := by kernel_rfl
end Go.Proofs.YtfokkdofcekdbaaGreatDoor
