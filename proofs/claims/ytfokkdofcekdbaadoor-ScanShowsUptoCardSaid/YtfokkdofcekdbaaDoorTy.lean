/- Facts on the types and functions of the program, each by one look of the kernel. No condition. -/
import Derived.Test.YtfokkdofcekdbaaDoorEng19
import Derived.Test.YtfokkdofcekdbaaDoorProg
set_option linter.unusedVariables false
namespace Go.Proofs.YtfokkdofcekdbaaDoor
theorem en_11 : entD Tryd.prog 11 = true := by kernel_rfl
theorem en_12 : entD Tryd.prog 12 = true := by kernel_rfl
theorem en_13 : entD Tryd.prog 13 = true := by kernel_rfl
theorem en_14 : entD Tryd.prog 14 = true := by kernel_rfl
theorem en_16 : entD Tryd.prog 16 = true := by kernel_rfl
theorem en_17 : entD Tryd.prog 17 = true := by kernel_rfl
theorem en_18 : entD Tryd.prog 18 = true := by kernel_rfl
theorem en_20 : entD Tryd.prog 20 = true := by kernel_rfl
theorem en_21 : entD Tryd.prog 21 = true := by kernel_rfl
theorem en_22 : entD Tryd.prog 22 = true := by kernel_rfl
theorem en_25 : entD Tryd.prog 25 = true := by kernel_rfl
theorem en_26 : entD Tryd.prog 26 = true := by kernel_rfl
theorem en_27 : entD Tryd.prog 27 = true := by kernel_rfl
theorem en_28 : entD Tryd.prog 28 = true := by kernel_rfl
theorem en_29 : entD Tryd.prog 29 = true := by kernel_rfl
theorem en_30 : entD Tryd.prog 30 = true := by kernel_rfl
theorem en_31 : entD Tryd.prog 31 = true := by kernel_rfl
theorem en_32 : entD Tryd.prog 32 = true := by kernel_rfl
theorem en_33 : entD Tryd.prog 33 = true := by kernel_rfl
theorem en_34 : entD Tryd.prog 34 = true := by kernel_rfl
theorem en_35 : entD Tryd.prog 35 = true := by kernel_rfl
theorem en_36 : entD Tryd.prog 36 = true := by kernel_rfl
theorem en_37 : entD Tryd.prog 37 = true := by kernel_rfl
theorem en_38 : entD Tryd.prog 38 = true := by kernel_rfl
theorem en_4 : entD Tryd.prog 4 = true := by kernel_rfl
theorem en_40 : entD Tryd.prog 40 = true := by kernel_rfl
theorem en_42 : entD Tryd.prog 42 = true := by kernel_rfl
theorem en_43 : entD Tryd.prog 43 = true := by kernel_rfl
theorem en_44 : entD Tryd.prog 44 = true := by kernel_rfl
theorem en_45 : entD Tryd.prog 45 = true := by kernel_rfl
theorem en_47 : entD Tryd.prog 47 = true := by kernel_rfl
theorem en_48 : entD Tryd.prog 48 = true := by kernel_rfl
theorem en_49 : entD Tryd.prog 49 = true := by kernel_rfl
theorem en_51 : entD Tryd.prog 51 = true := by kernel_rfl
theorem en_53 : entD Tryd.prog 53 = true := by kernel_rfl
theorem en_55 : entD Tryd.prog 55 = true := by kernel_rfl
theorem en_57 : entD Tryd.prog 57 = true := by kernel_rfl
theorem en_64 : entD Tryd.prog 64 = true := by kernel_rfl
theorem en_65 : entD Tryd.prog 65 = true := by kernel_rfl
theorem en_66 : entD Tryd.prog 66 = true := by kernel_rfl
theorem en_68 : entD Tryd.prog 68 = true := by kernel_rfl
theorem en_73 : entD Tryd.prog 73 = true := by kernel_rfl
theorem en_8 : entD Tryd.prog 8 = true := by kernel_rfl
theorem en_87 : entD Tryd.prog 87 = true := by kernel_rfl
theorem en_89 : entD Tryd.prog 89 = true := by kernel_rfl
theorem en_9 : entD Tryd.prog 9 = true := by kernel_rfl
theorem en_94 : entD Tryd.prog 94 = true := by kernel_rfl
theorem en_98 : entD Tryd.prog 98 = true := by kernel_rfl
theorem ty_ag_21 : agD Tryd.prog 21 = some false := by kernel_rfl
theorem ty_ag_22 : agD Tryd.prog 22 = some false := by kernel_rfl
theorem ty_ag_28 : agD Tryd.prog 28 = some false := by kernel_rfl
theorem ty_ag_3 : agD Tryd.prog 3 = some false := by kernel_rfl
theorem ty_ag_30 : agD Tryd.prog 30 = some true := by kernel_rfl
theorem ty_ag_32 : agD Tryd.prog 32 = some true := by kernel_rfl
theorem ty_ag_38 : agD Tryd.prog 38 = some false := by kernel_rfl
theorem ty_ag_40 : agD Tryd.prog 40 = some true := by kernel_rfl
theorem ty_ag_5 : agD Tryd.prog 5 = some false := by kernel_rfl
theorem ty_ag_60 : agD Tryd.prog 60 = some true := by kernel_rfl
theorem ty_ag_9 : agD Tryd.prog 9 = some false := by kernel_rfl
theorem ty_ag_90 : agD Tryd.prog 90 = some true := by kernel_rfl
theorem ty_ar_71 : arD Tryd.prog 71 = some (6, 9) := by kernel_rfl
theorem ty_el_22 : elD Tryd.prog 22 = some (1, 1, [.int .u8 0]) := by kernel_rfl
theorem ty_el_24 : elD Tryd.prog 24 = some (6, 80, [.int .i64 0, .int .i64 0, .str [], .snil, .str [], .int .i64 0]) := by kernel_rfl
theorem ty_el_28 : elD Tryd.prog 28 = some (2, 32, [.str [], .str []]) := by kernel_rfl
theorem ty_el_35 : elD Tryd.prog 35 = some (1, 8, [.int .i64 0]) := by kernel_rfl
theorem ty_el_38 : elD Tryd.prog 38 = some (2, 32, [.str [], .str []]) := by kernel_rfl
theorem ty_el_77 : elD Tryd.prog 77 = some (1, 16, [.str []]) := by kernel_rfl
theorem ty_el_91 : elD Tryd.prog 91 = some (2, 8, [.int .i32 0, .int .i32 0]) := by kernel_rfl
theorem ty_fa_9 : faD Tryd.prog 9 = none := by kernel_rfl
theorem ty_fd_30_0 : fdD Tryd.prog 30 0 = some (0, 3) := by kernel_rfl
theorem ty_fd_30_1 : fdD Tryd.prog 30 1 = some (1, 3) := by kernel_rfl
theorem ty_fd_30_2 : fdD Tryd.prog 30 2 = some (2, 9) := by kernel_rfl
theorem ty_fd_30_3 : fdD Tryd.prog 30 3 = some (3, 28) := by kernel_rfl
theorem ty_fd_30_4 : fdD Tryd.prog 30 4 = some (4, 9) := by kernel_rfl
theorem ty_fd_30_5 : fdD Tryd.prog 30 5 = some (5, 3) := by kernel_rfl
theorem ty_fd_32_0 : fdD Tryd.prog 32 0 = some (0, 9) := by kernel_rfl
theorem ty_fd_32_1 : fdD Tryd.prog 32 1 = some (1, 9) := by kernel_rfl
theorem ty_fd_40_0 : fdD Tryd.prog 40 0 = some (0, 3) := by kernel_rfl
theorem ty_fd_40_2 : fdD Tryd.prog 40 2 = some (2, 9) := by kernel_rfl
theorem ty_fd_40_3 : fdD Tryd.prog 40 3 = some (3, 38) := by kernel_rfl
theorem ty_fd_40_4 : fdD Tryd.prog 40 4 = some (4, 9) := by kernel_rfl
theorem ty_fd_40_5 : fdD Tryd.prog 40 5 = some (5, 3) := by kernel_rfl
theorem ty_fd_54_0 : fdD Tryd.prog 54 0 = some (0, 22) := by kernel_rfl
theorem ty_fd_54_1 : fdD Tryd.prog 54 1 = some (1, 3) := by kernel_rfl
theorem ty_fd_90_0 : fdD Tryd.prog 90 0 = some (0, 21) := by kernel_rfl
theorem ty_fd_90_1 : fdD Tryd.prog 90 1 = some (1, 21) := by kernel_rfl
theorem ty_ki_21 : kiD Tryd.prog 21 = some .i32 := by kernel_rfl
theorem ty_ki_3 : kiD Tryd.prog 3 = some .i64 := by kernel_rfl
theorem ty_ki_5 : kiD Tryd.prog 5 = some .u8 := by kernel_rfl
theorem ty_ki_9 : kiD Tryd.prog 9 = none := by kernel_rfl
theorem ty_ni_22 : notIntD Tryd.prog 22 = true := by kernel_rfl
theorem ty_ni_24 : notIntD Tryd.prog 24 = true := by kernel_rfl
theorem ty_ni_28 : notIntD Tryd.prog 28 = true := by kernel_rfl
theorem ty_ni_35 : notIntD Tryd.prog 35 = true := by kernel_rfl
theorem ty_ni_38 : notIntD Tryd.prog 38 = true := by kernel_rfl
theorem ty_ni_9 : notIntD Tryd.prog 9 = true := by kernel_rfl
theorem ty_pl_30 : plD Tryd.prog 30 = some [(0, 1), (1, 1), (2, 1), (3, 1), (4, 1), (5, 1)] := by kernel_rfl
theorem ty_pl_32 : plD Tryd.prog 32 = some [(0, 1), (1, 1)] := by kernel_rfl
theorem ty_pl_40 : plD Tryd.prog 40 = some [(0, 1), (1, 1), (2, 1), (3, 1), (4, 1), (5, 1)] := by kernel_rfl
theorem ty_pl_54 : plD Tryd.prog 54 = some [(0, 1), (1, 1)] := by kernel_rfl
theorem ty_pl_60 : plD Tryd.prog 60 = some [(0, 1), (1, 1)] := by kernel_rfl
theorem ty_pl_71 : plD Tryd.prog 71 = none := by kernel_rfl
theorem ty_pl_90 : plD Tryd.prog 90 = some [(0, 1), (1, 1)] := by kernel_rfl
theorem ty_qg_60 : Tryd.prog.eqGuardType Tryd.prog.depth 60 = false := by kernel_rfl
theorem ty_sf_60 : sfD Tryd.prog 60 = some [(0, 9), (1, 9)] := by kernel_rfl
theorem ty_sl_22 : slD Tryd.prog 22 = some 5 := by kernel_rfl
theorem ty_sl_24 : slD Tryd.prog 24 = some 30 := by kernel_rfl
theorem ty_sl_28 : slD Tryd.prog 28 = some 32 := by kernel_rfl
theorem ty_sl_35 : slD Tryd.prog 35 = some 3 := by kernel_rfl
theorem ty_sl_38 : slD Tryd.prog 38 = some 60 := by kernel_rfl
theorem ty_sl_77 : slD Tryd.prog 77 = some 9 := by kernel_rfl
theorem ty_sl_91 : slD Tryd.prog 91 = some 90 := by kernel_rfl
theorem ty_st_9 : stD Tryd.prog 9 = true := by kernel_rfl
theorem ty_sz_21 : szD Tryd.prog 21 = some 1 := by kernel_rfl
theorem ty_sz_22 : szD Tryd.prog 22 = some 1 := by kernel_rfl
theorem ty_sz_28 : szD Tryd.prog 28 = some 1 := by kernel_rfl
theorem ty_sz_3 : szD Tryd.prog 3 = some 1 := by kernel_rfl
theorem ty_sz_30 : szD Tryd.prog 30 = some 6 := by kernel_rfl
theorem ty_sz_32 : szD Tryd.prog 32 = some 2 := by kernel_rfl
theorem ty_sz_38 : szD Tryd.prog 38 = some 1 := by kernel_rfl
theorem ty_sz_40 : szD Tryd.prog 40 = some 6 := by kernel_rfl
theorem ty_sz_5 : szD Tryd.prog 5 = some 1 := by kernel_rfl
theorem ty_sz_60 : szD Tryd.prog 60 = some 2 := by kernel_rfl
theorem ty_sz_9 : szD Tryd.prog 9 = some 1 := by kernel_rfl
theorem ty_sz_90 : szD Tryd.prog 90 = some 2 := by kernel_rfl
theorem ty_un_21 : (Tryd.prog.underlying 21).isSome = true := by kernel_rfl
theorem ty_un_3 : (Tryd.prog.underlying 3).isSome = true := by kernel_rfl
theorem ty_un_5 : (Tryd.prog.underlying 5).isSome = true := by kernel_rfl
theorem ty_zc_30 : zcD Tryd.prog 30 = some [.int .i64 0, .int .i64 0, .str [], .snil, .str [], .int .i64 0] := by kernel_rfl
theorem ty_zc_32 : zcD Tryd.prog 32 = some [.str [], .str []] := by kernel_rfl
theorem ty_zc_40 : zcD Tryd.prog 40 = some [.int .i64 0, .int .i64 0, .str [], .snil, .str [], .int .i64 0] := by kernel_rfl
theorem ty_zc_54 : zcD Tryd.prog 54 = some [.snil, .int .i64 0] := by kernel_rfl
theorem ty_zc_60 : zcD Tryd.prog 60 = some [.str [], .str []] := by kernel_rfl
theorem ty_zc_71 : zcD Tryd.prog 71 = some [.str [], .str [], .str [], .str [], .str [], .str []] := by kernel_rfl
theorem ty_zc_90 : zcD Tryd.prog 90 = some [.int .i32 0, .int .i32 0] := by kernel_rfl
end Go.Proofs.YtfokkdofcekdbaaDoor
