/- Facts on the types and functions of the program, each by one look of the kernel. No condition. -/
import Derived.Test.YtilhbalhkljanaaGreatDoorEng19
import Derived.Test.YtilhbalhkljanaaGreatDoorProg
set_option linter.unusedVariables false
namespace Go.Proofs.YtilhbalhkljanaaGreatDoor
theorem en_103 : entD Tryz.prog 103 = true := by kernel_rfl
theorem en_104 : entD Tryz.prog 104 = true := by kernel_rfl
theorem en_107 : entD Tryz.prog 107 = true := by kernel_rfl
theorem en_108 : entD Tryz.prog 108 = true := by kernel_rfl
theorem en_11 : entD Tryz.prog 11 = true := by kernel_rfl
theorem en_116 : entD Tryz.prog 116 = true := by kernel_rfl
theorem en_118 : entD Tryz.prog 118 = true := by kernel_rfl
theorem en_119 : entD Tryz.prog 119 = true := by kernel_rfl
theorem en_122 : entD Tryz.prog 122 = true := by kernel_rfl
theorem en_123 : entD Tryz.prog 123 = true := by kernel_rfl
theorem en_125 : entD Tryz.prog 125 = true := by kernel_rfl
theorem en_13 : entD Tryz.prog 13 = true := by kernel_rfl
theorem en_130 : entD Tryz.prog 130 = true := by kernel_rfl
theorem en_131 : entD Tryz.prog 131 = true := by kernel_rfl
theorem en_132 : entD Tryz.prog 132 = true := by kernel_rfl
theorem en_133 : entD Tryz.prog 133 = true := by kernel_rfl
theorem en_134 : entD Tryz.prog 134 = true := by kernel_rfl
theorem en_135 : entD Tryz.prog 135 = true := by kernel_rfl
theorem en_136 : entD Tryz.prog 136 = true := by kernel_rfl
theorem en_137 : entD Tryz.prog 137 = true := by kernel_rfl
theorem en_138 : entD Tryz.prog 138 = true := by kernel_rfl
theorem en_139 : entD Tryz.prog 139 = true := by kernel_rfl
theorem en_140 : entD Tryz.prog 140 = true := by kernel_rfl
theorem en_150 : entD Tryz.prog 150 = true := by kernel_rfl
theorem en_154 : entD Tryz.prog 154 = true := by kernel_rfl
theorem en_160 : entD Tryz.prog 160 = true := by kernel_rfl
theorem en_164 : entD Tryz.prog 164 = true := by kernel_rfl
theorem en_169 : entD Tryz.prog 169 = true := by kernel_rfl
theorem en_17 : entD Tryz.prog 17 = true := by kernel_rfl
theorem en_170 : entD Tryz.prog 170 = true := by kernel_rfl
theorem en_172 : entD Tryz.prog 172 = true := by kernel_rfl
theorem en_18 : entD Tryz.prog 18 = true := by kernel_rfl
theorem en_181 : entD Tryz.prog 181 = true := by kernel_rfl
theorem en_183 : entD Tryz.prog 183 = true := by kernel_rfl
theorem en_187 : entD Tryz.prog 187 = true := by kernel_rfl
theorem en_191 : entD Tryz.prog 191 = true := by kernel_rfl
theorem en_192 : entD Tryz.prog 192 = true := by kernel_rfl
theorem en_194 : entD Tryz.prog 194 = true := by kernel_rfl
theorem en_22 : entD Tryz.prog 22 = true := by kernel_rfl
theorem en_23 : entD Tryz.prog 23 = true := by kernel_rfl
theorem en_24 : entD Tryz.prog 24 = true := by kernel_rfl
theorem en_25 : entD Tryz.prog 25 = true := by kernel_rfl
theorem en_31 : entD Tryz.prog 31 = true := by kernel_rfl
theorem en_33 : entD Tryz.prog 33 = true := by kernel_rfl
theorem en_35 : entD Tryz.prog 35 = true := by kernel_rfl
theorem en_36 : entD Tryz.prog 36 = true := by kernel_rfl
theorem en_37 : entD Tryz.prog 37 = true := by kernel_rfl
theorem en_47 : entD Tryz.prog 47 = true := by kernel_rfl
theorem en_48 : entD Tryz.prog 48 = true := by kernel_rfl
theorem en_49 : entD Tryz.prog 49 = true := by kernel_rfl
theorem en_5 : entD Tryz.prog 5 = true := by kernel_rfl
theorem en_50 : entD Tryz.prog 50 = true := by kernel_rfl
theorem en_51 : entD Tryz.prog 51 = true := by kernel_rfl
theorem en_52 : entD Tryz.prog 52 = true := by kernel_rfl
theorem en_53 : entD Tryz.prog 53 = true := by kernel_rfl
theorem en_54 : entD Tryz.prog 54 = true := by kernel_rfl
theorem en_55 : entD Tryz.prog 55 = true := by kernel_rfl
theorem en_68 : entD Tryz.prog 68 = true := by kernel_rfl
theorem en_76 : entD Tryz.prog 76 = true := by kernel_rfl
theorem en_77 : entD Tryz.prog 77 = true := by kernel_rfl
theorem en_78 : entD Tryz.prog 78 = true := by kernel_rfl
theorem en_80 : entD Tryz.prog 80 = true := by kernel_rfl
theorem en_81 : entD Tryz.prog 81 = true := by kernel_rfl
theorem en_83 : entD Tryz.prog 83 = true := by kernel_rfl
theorem en_84 : entD Tryz.prog 84 = true := by kernel_rfl
theorem en_85 : entD Tryz.prog 85 = true := by kernel_rfl
theorem en_87 : entD Tryz.prog 87 = true := by kernel_rfl
theorem en_88 : entD Tryz.prog 88 = true := by kernel_rfl
theorem en_89 : entD Tryz.prog 89 = true := by kernel_rfl
theorem en_9 : entD Tryz.prog 9 = true := by kernel_rfl
theorem en_90 : entD Tryz.prog 90 = true := by kernel_rfl
theorem ty_ag_110 : agD Tryz.prog 110 = some true := by kernel_rfl
theorem ty_ag_161 : agD Tryz.prog 161 = some true := by kernel_rfl
theorem ty_ag_170 : agD Tryz.prog 170 = some true := by kernel_rfl
theorem ty_ag_199 : agD Tryz.prog 199 = some true := by kernel_rfl
theorem ty_ag_21 : agD Tryz.prog 21 = some false := by kernel_rfl
theorem ty_ag_22 : agD Tryz.prog 22 = some false := by kernel_rfl
theorem ty_ag_26 : agD Tryz.prog 26 = some true := by kernel_rfl
theorem ty_ag_27 : agD Tryz.prog 27 = some false := by kernel_rfl
theorem ty_ag_28 : agD Tryz.prog 28 = some false := by kernel_rfl
theorem ty_ag_3 : agD Tryz.prog 3 = some false := by kernel_rfl
theorem ty_ag_30 : agD Tryz.prog 30 = some true := by kernel_rfl
theorem ty_ag_4 : agD Tryz.prog 4 = some false := by kernel_rfl
theorem ty_ag_5 : agD Tryz.prog 5 = some false := by kernel_rfl
theorem ty_ag_55 : agD Tryz.prog 55 = some false := by kernel_rfl
theorem ty_ag_57 : agD Tryz.prog 57 = some true := by kernel_rfl
theorem ty_ag_61 : agD Tryz.prog 61 = some false := by kernel_rfl
theorem ty_ag_64 : agD Tryz.prog 64 = some false := by kernel_rfl
theorem ty_ag_66 : agD Tryz.prog 66 = some true := by kernel_rfl
theorem ty_ag_9 : agD Tryz.prog 9 = some false := by kernel_rfl
theorem ty_ar_88 : arD Tryz.prog 88 = some (6, 9) := by kernel_rfl
theorem ty_bo_4 : boD Tryz.prog 4 = true := by kernel_rfl
theorem ty_el_200 : elD Tryz.prog 200 = some (2, 8, [.int .i32 0, .int .i32 0]) := by kernel_rfl
theorem ty_el_210 : elD Tryz.prog 210 = some (1, 8, [.int .i64 0]) := by kernel_rfl
theorem ty_el_22 : elD Tryz.prog 22 = some (1, 1, [.int .u8 0]) := by kernel_rfl
theorem ty_el_27 : elD Tryz.prog 27 = some (3, 48, [.str [], .str [], .str []]) := by kernel_rfl
theorem ty_el_28 : elD Tryz.prog 28 = some (6, 104, [.int .i64 0, .str [], .str [], .snil, .snil, .str []]) := by kernel_rfl
theorem ty_el_42 : elD Tryz.prog 42 = some (1, 16, [.str []]) := by kernel_rfl
theorem ty_el_51 : elD Tryz.prog 51 = some (6, 80, [.int .i64 0, .int .i64 0, .str [], .snil, .str [], .int .i64 0]) := by kernel_rfl
theorem ty_el_55 : elD Tryz.prog 55 = some (2, 32, [.str [], .str []]) := by kernel_rfl
theorem ty_el_61 : elD Tryz.prog 61 = some (8, 144, [.int .i64 0, .str [], .str [], .snil, .snil, .str [], .str [], .snil]) := by kernel_rfl
theorem ty_el_64 : elD Tryz.prog 64 = some (2, 32, [.str [], .str []]) := by kernel_rfl
theorem ty_fa_9 : faD Tryz.prog 9 = none := by kernel_rfl
theorem ty_fd_110_0 : fdD Tryz.prog 110 0 = some (0, 26) := by kernel_rfl
theorem ty_fd_110_1 : fdD Tryz.prog 110 1 = some (2, 9) := by kernel_rfl
theorem ty_fd_161_0 : fdD Tryz.prog 161 0 = some (0, 9) := by kernel_rfl
theorem ty_fd_161_1 : fdD Tryz.prog 161 1 = some (1, 9) := by kernel_rfl
theorem ty_fd_170_0 : fdD Tryz.prog 170 0 = some (0, 9) := by kernel_rfl
theorem ty_fd_170_1 : fdD Tryz.prog 170 1 = some (1, 9) := by kernel_rfl
theorem ty_fd_199_0 : fdD Tryz.prog 199 0 = some (0, 21) := by kernel_rfl
theorem ty_fd_199_1 : fdD Tryz.prog 199 1 = some (1, 21) := by kernel_rfl
theorem ty_fd_26_0 : fdD Tryz.prog 26 0 = some (0, 9) := by kernel_rfl
theorem ty_fd_26_1 : fdD Tryz.prog 26 1 = some (1, 9) := by kernel_rfl
theorem ty_fd_30_0 : fdD Tryz.prog 30 0 = some (0, 3) := by kernel_rfl
theorem ty_fd_30_1 : fdD Tryz.prog 30 1 = some (1, 26) := by kernel_rfl
theorem ty_fd_30_2 : fdD Tryz.prog 30 2 = some (3, 27) := by kernel_rfl
theorem ty_fd_30_3 : fdD Tryz.prog 30 3 = some (4, 28) := by kernel_rfl
theorem ty_fd_30_4 : fdD Tryz.prog 30 4 = some (5, 9) := by kernel_rfl
theorem ty_fd_57_0 : fdD Tryz.prog 57 0 = some (0, 55) := by kernel_rfl
theorem ty_fd_60_0 : fdD Tryz.prog 60 0 = some (0, 30) := by kernel_rfl
theorem ty_fd_60_1 : fdD Tryz.prog 60 1 = some (6, 9) := by kernel_rfl
theorem ty_fd_60_2 : fdD Tryz.prog 60 2 = some (7, 57) := by kernel_rfl
theorem ty_fd_63_0 : fdD Tryz.prog 63 0 = some (0, 61) := by kernel_rfl
theorem ty_fd_63_1 : fdD Tryz.prog 63 1 = some (1, 3) := by kernel_rfl
theorem ty_fd_63_2 : fdD Tryz.prog 63 2 = some (2, 4) := by kernel_rfl
theorem ty_fd_66_0 : fdD Tryz.prog 66 0 = some (0, 3) := by kernel_rfl
theorem ty_fd_66_1 : fdD Tryz.prog 66 1 = some (1, 3) := by kernel_rfl
theorem ty_fd_66_2 : fdD Tryz.prog 66 2 = some (2, 9) := by kernel_rfl
theorem ty_fd_66_3 : fdD Tryz.prog 66 3 = some (3, 64) := by kernel_rfl
theorem ty_fd_66_4 : fdD Tryz.prog 66 4 = some (4, 9) := by kernel_rfl
theorem ty_fd_66_5 : fdD Tryz.prog 66 5 = some (5, 3) := by kernel_rfl
theorem ty_fd_95_0 : fdD Tryz.prog 95 0 = some (0, 22) := by kernel_rfl
theorem ty_fd_95_1 : fdD Tryz.prog 95 1 = some (1, 3) := by kernel_rfl
theorem ty_ki_21 : kiD Tryz.prog 21 = some .i32 := by kernel_rfl
theorem ty_ki_3 : kiD Tryz.prog 3 = some .i64 := by kernel_rfl
theorem ty_ki_5 : kiD Tryz.prog 5 = some .u8 := by kernel_rfl
theorem ty_ki_9 : kiD Tryz.prog 9 = none := by kernel_rfl
theorem ty_ni_22 : notIntD Tryz.prog 22 = true := by kernel_rfl
theorem ty_ni_27 : notIntD Tryz.prog 27 = true := by kernel_rfl
theorem ty_ni_28 : notIntD Tryz.prog 28 = true := by kernel_rfl
theorem ty_ni_42 : notIntD Tryz.prog 42 = true := by kernel_rfl
theorem ty_ni_51 : notIntD Tryz.prog 51 = true := by kernel_rfl
theorem ty_ni_55 : notIntD Tryz.prog 55 = true := by kernel_rfl
theorem ty_ni_61 : notIntD Tryz.prog 61 = true := by kernel_rfl
theorem ty_ni_64 : notIntD Tryz.prog 64 = true := by kernel_rfl
theorem ty_ni_9 : notIntD Tryz.prog 9 = true := by kernel_rfl
theorem ty_pl_110 : plD Tryz.prog 110 = some [(0, 2), (2, 1)] := by kernel_rfl
theorem ty_pl_170 : plD Tryz.prog 170 = some [(0, 1), (1, 1)] := by kernel_rfl
theorem ty_pl_199 : plD Tryz.prog 199 = some [(0, 1), (1, 1)] := by kernel_rfl
theorem ty_pl_26 : plD Tryz.prog 26 = some [(0, 1), (1, 1)] := by kernel_rfl
theorem ty_pl_30 : plD Tryz.prog 30 = some [(0, 1), (1, 2), (3, 1), (4, 1), (5, 1)] := by kernel_rfl
theorem ty_pl_57 : plD Tryz.prog 57 = some [(0, 1)] := by kernel_rfl
theorem ty_pl_60 : plD Tryz.prog 60 = some [(0, 6), (6, 1), (7, 1)] := by kernel_rfl
theorem ty_pl_63 : plD Tryz.prog 63 = some [(0, 1), (1, 1), (2, 1)] := by kernel_rfl
theorem ty_pl_66 : plD Tryz.prog 66 = some [(0, 1), (1, 1), (2, 1), (3, 1), (4, 1), (5, 1)] := by kernel_rfl
theorem ty_pl_88 : plD Tryz.prog 88 = none := by kernel_rfl
theorem ty_pl_95 : plD Tryz.prog 95 = some [(0, 1), (1, 1)] := by kernel_rfl
theorem ty_qg_110 : Tryz.prog.eqGuardType Tryz.prog.depth 110 = false := by kernel_rfl
theorem ty_qg_26 : Tryz.prog.eqGuardType Tryz.prog.depth 26 = false := by kernel_rfl
theorem ty_sf_110 : sfD Tryz.prog 110 = some [(0, 26), (2, 9)] := by kernel_rfl
theorem ty_sf_26 : sfD Tryz.prog 26 = some [(0, 9), (1, 9)] := by kernel_rfl
theorem ty_sl_200 : slD Tryz.prog 200 = some 199 := by kernel_rfl
theorem ty_sl_210 : slD Tryz.prog 210 = some 3 := by kernel_rfl
theorem ty_sl_22 : slD Tryz.prog 22 = some 5 := by kernel_rfl
theorem ty_sl_27 : slD Tryz.prog 27 = some 110 := by kernel_rfl
theorem ty_sl_28 : slD Tryz.prog 28 = some 30 := by kernel_rfl
theorem ty_sl_42 : slD Tryz.prog 42 = some 9 := by kernel_rfl
theorem ty_sl_51 : slD Tryz.prog 51 = some 66 := by kernel_rfl
theorem ty_sl_55 : slD Tryz.prog 55 = some 170 := by kernel_rfl
theorem ty_sl_61 : slD Tryz.prog 61 = some 60 := by kernel_rfl
theorem ty_sl_64 : slD Tryz.prog 64 = some 161 := by kernel_rfl
theorem ty_st_9 : stD Tryz.prog 9 = true := by kernel_rfl
theorem ty_sz_110 : szD Tryz.prog 110 = some 3 := by kernel_rfl
theorem ty_sz_161 : szD Tryz.prog 161 = some 2 := by kernel_rfl
theorem ty_sz_170 : szD Tryz.prog 170 = some 2 := by kernel_rfl
theorem ty_sz_199 : szD Tryz.prog 199 = some 2 := by kernel_rfl
theorem ty_sz_21 : szD Tryz.prog 21 = some 1 := by kernel_rfl
theorem ty_sz_22 : szD Tryz.prog 22 = some 1 := by kernel_rfl
theorem ty_sz_26 : szD Tryz.prog 26 = some 2 := by kernel_rfl
theorem ty_sz_27 : szD Tryz.prog 27 = some 1 := by kernel_rfl
theorem ty_sz_28 : szD Tryz.prog 28 = some 1 := by kernel_rfl
theorem ty_sz_3 : szD Tryz.prog 3 = some 1 := by kernel_rfl
theorem ty_sz_30 : szD Tryz.prog 30 = some 6 := by kernel_rfl
theorem ty_sz_4 : szD Tryz.prog 4 = some 1 := by kernel_rfl
theorem ty_sz_5 : szD Tryz.prog 5 = some 1 := by kernel_rfl
theorem ty_sz_55 : szD Tryz.prog 55 = some 1 := by kernel_rfl
theorem ty_sz_57 : szD Tryz.prog 57 = some 1 := by kernel_rfl
theorem ty_sz_60 : szD Tryz.prog 60 = some 8 := by kernel_rfl
theorem ty_sz_61 : szD Tryz.prog 61 = some 1 := by kernel_rfl
theorem ty_sz_64 : szD Tryz.prog 64 = some 1 := by kernel_rfl
theorem ty_sz_66 : szD Tryz.prog 66 = some 6 := by kernel_rfl
theorem ty_sz_9 : szD Tryz.prog 9 = some 1 := by kernel_rfl
theorem ty_un_21 : (Tryz.prog.underlying 21).isSome = true := by kernel_rfl
theorem ty_un_3 : (Tryz.prog.underlying 3).isSome = true := by kernel_rfl
theorem ty_un_5 : (Tryz.prog.underlying 5).isSome = true := by kernel_rfl
theorem ty_zc_110 : zcD Tryz.prog 110 = some [.str [], .str [], .str []] := by kernel_rfl
theorem ty_zc_161 : zcD Tryz.prog 161 = some [.str [], .str []] := by kernel_rfl
theorem ty_zc_170 : zcD Tryz.prog 170 = some [.str [], .str []] := by kernel_rfl
theorem ty_zc_199 : zcD Tryz.prog 199 = some [.int .i32 0, .int .i32 0] := by kernel_rfl
theorem ty_zc_26 : zcD Tryz.prog 26 = some [.str [], .str []] := by kernel_rfl
theorem ty_zc_30 : zcD Tryz.prog 30 = some [.int .i64 0, .str [], .str [], .snil, .snil, .str []] := by kernel_rfl
theorem ty_zc_57 : zcD Tryz.prog 57 = some [.snil] := by kernel_rfl
theorem ty_zc_60 : zcD Tryz.prog 60 = some [.int .i64 0, .str [], .str [], .snil, .snil, .str [], .str [], .snil] := by kernel_rfl
theorem ty_zc_63 : zcD Tryz.prog 63 = some [.snil, .int .i64 0, .bool false] := by kernel_rfl
theorem ty_zc_66 : zcD Tryz.prog 66 = some [.int .i64 0, .int .i64 0, .str [], .snil, .str [], .int .i64 0] := by kernel_rfl
theorem ty_zc_88 : zcD Tryz.prog 88 = some [.str [], .str [], .str [], .str [], .str [], .str []] := by kernel_rfl
theorem ty_zc_9 : zcD Tryz.prog 9 = some [.str []] := by kernel_rfl
theorem ty_zc_95 : zcD Tryz.prog 95 = some [.snil, .int .i64 0] := by kernel_rfl
end Go.Proofs.YtilhbalhkljanaaGreatDoor
