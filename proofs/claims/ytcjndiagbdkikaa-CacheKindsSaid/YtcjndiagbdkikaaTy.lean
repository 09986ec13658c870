/- Facts on the types and functions of the program, each by one look of the kernel. No condition. -/
import Derived.Test.YtcjndiagbdkikaaEng14
import Derived.Test.YtcjndiagbdkikaaProg
set_option linter.unusedVariables false
namespace Go.Proofs.Ytcjndiagbdkikaa
theorem en_10 : entD Try.prog 10 = true := by kernel_rfl
theorem en_11 : entD Try.prog 11 = true := by kernel_rfl
theorem en_12 : entD Try.prog 12 = true := by kernel_rfl
theorem en_13 : entD Try.prog 13 = true := by kernel_rfl
theorem en_14 : entD Try.prog 14 = true := by kernel_rfl
theorem en_15 : entD Try.prog 15 = true := by kernel_rfl
theorem en_16 : entD Try.prog 16 = true := by kernel_rfl
theorem en_17 : entD Try.prog 17 = true := by kernel_rfl
theorem en_18 : entD Try.prog 18 = true := by kernel_rfl
theorem en_21 : entD Try.prog 21 = true := by kernel_rfl
theorem en_22 : entD Try.prog 22 = true := by kernel_rfl
theorem en_23 : entD Try.prog 23 = true := by kernel_rfl
theorem en_24 : entD Try.prog 24 = true := by kernel_rfl
theorem en_25 : entD Try.prog 25 = true := by kernel_rfl
theorem en_26 : entD Try.prog 26 = true := by kernel_rfl
theorem en_27 : entD Try.prog 27 = true := by kernel_rfl
theorem en_28 : entD Try.prog 28 = true := by kernel_rfl
theorem en_29 : entD Try.prog 29 = true := by kernel_rfl
theorem en_30 : entD Try.prog 30 = true := by kernel_rfl
theorem en_31 : entD Try.prog 31 = true := by kernel_rfl
theorem en_32 : entD Try.prog 32 = true := by kernel_rfl
theorem en_33 : entD Try.prog 33 = true := by kernel_rfl
theorem en_34 : entD Try.prog 34 = true := by kernel_rfl
theorem en_35 : entD Try.prog 35 = true := by kernel_rfl
theorem en_36 : entD Try.prog 36 = true := by kernel_rfl
theorem en_37 : entD Try.prog 37 = true := by kernel_rfl
theorem en_38 : entD Try.prog 38 = true := by kernel_rfl
theorem en_39 : entD Try.prog 39 = true := by kernel_rfl
theorem en_45 : entD Try.prog 45 = true := by kernel_rfl
theorem en_46 : entD Try.prog 46 = true := by kernel_rfl
theorem en_47 : entD Try.prog 47 = true := by kernel_rfl
theorem en_48 : entD Try.prog 48 = true := by kernel_rfl
theorem en_49 : entD Try.prog 49 = true := by kernel_rfl
theorem en_50 : entD Try.prog 50 = true := by kernel_rfl
theorem en_51 : entD Try.prog 51 = true := by kernel_rfl
theorem en_52 : entD Try.prog 52 = true := by kernel_rfl
theorem en_53 : entD Try.prog 53 = true := by kernel_rfl
theorem en_57 : entD Try.prog 57 = true := by kernel_rfl
theorem en_58 : entD Try.prog 58 = true := by kernel_rfl
theorem en_7 : entD Try.prog 7 = true := by kernel_rfl
theorem en_8 : entD Try.prog 8 = true := by kernel_rfl
theorem en_9 : entD Try.prog 9 = true := by kernel_rfl
theorem ty_ag_22 : agD Try.prog 22 = some false := by kernel_rfl
theorem ty_ag_3 : agD Try.prog 3 = some false := by kernel_rfl
theorem ty_ag_4 : agD Try.prog 4 = some false := by kernel_rfl
theorem ty_ag_52 : agD Try.prog 52 = some true := by kernel_rfl
theorem ty_ag_65 : agD Try.prog 65 = some false := by kernel_rfl
theorem ty_ag_66 : agD Try.prog 66 = some false := by kernel_rfl
theorem ty_ag_77 : agD Try.prog 77 = some false := by kernel_rfl
theorem ty_ag_78 : agD Try.prog 78 = some false := by kernel_rfl
theorem ty_ag_86 : agD Try.prog 86 = some false := by kernel_rfl
theorem ty_ag_87 : agD Try.prog 87 = some false := by kernel_rfl
theorem ty_ag_9 : agD Try.prog 9 = some false := by kernel_rfl
theorem ty_ar_68 : arD Try.prog 68 = none := by kernel_rfl
theorem ty_ar_70 : arD Try.prog 70 = none := by kernel_rfl
theorem ty_ar_80 : arD Try.prog 80 = none := by kernel_rfl
theorem ty_ar_82 : arD Try.prog 82 = none := by kernel_rfl
theorem ty_ar_89 : arD Try.prog 89 = none := by kernel_rfl
theorem ty_ar_91 : arD Try.prog 91 = none := by kernel_rfl
theorem ty_el_22 : elD Try.prog 22 = some (1, 8, [.int .i64 0]) := by kernel_rfl
theorem ty_el_57 : elD Try.prog 57 = some (2, 2, [.bool false, .bool false]) := by kernel_rfl
theorem ty_fd_68_0 : fdD Try.prog 68 0 = some (0, 3) := by kernel_rfl
theorem ty_fd_68_1 : fdD Try.prog 68 1 = some (1, 3) := by kernel_rfl
theorem ty_fd_68_2 : fdD Try.prog 68 2 = some (2, 4) := by kernel_rfl
theorem ty_fd_68_3 : fdD Try.prog 68 3 = some (3, 3) := by kernel_rfl
theorem ty_fd_68_4 : fdD Try.prog 68 4 = some (4, 66) := by kernel_rfl
theorem ty_fd_68_5 : fdD Try.prog 68 5 = some (5, 66) := by kernel_rfl
theorem ty_fd_70_0 : fdD Try.prog 70 0 = some (0, 3) := by kernel_rfl
theorem ty_fd_70_1 : fdD Try.prog 70 1 = some (1, 65) := by kernel_rfl
theorem ty_fd_70_2 : fdD Try.prog 70 2 = some (2, 66) := by kernel_rfl
theorem ty_fd_80_0 : fdD Try.prog 80 0 = some (0, 52) := by kernel_rfl
theorem ty_fd_80_1 : fdD Try.prog 80 1 = some (2, 22) := by kernel_rfl
theorem ty_fd_80_2 : fdD Try.prog 80 2 = some (3, 4) := by kernel_rfl
theorem ty_fd_80_3 : fdD Try.prog 80 3 = some (4, 3) := by kernel_rfl
theorem ty_fd_80_4 : fdD Try.prog 80 4 = some (5, 78) := by kernel_rfl
theorem ty_fd_80_5 : fdD Try.prog 80 5 = some (6, 78) := by kernel_rfl
theorem ty_fd_82_0 : fdD Try.prog 82 0 = some (0, 3) := by kernel_rfl
theorem ty_fd_82_1 : fdD Try.prog 82 1 = some (1, 77) := by kernel_rfl
theorem ty_fd_82_2 : fdD Try.prog 82 2 = some (2, 78) := by kernel_rfl
theorem ty_fd_89_0 : fdD Try.prog 89 0 = some (0, 9) := by kernel_rfl
theorem ty_fd_89_1 : fdD Try.prog 89 1 = some (1, 3) := by kernel_rfl
theorem ty_fd_89_2 : fdD Try.prog 89 2 = some (2, 4) := by kernel_rfl
theorem ty_fd_89_3 : fdD Try.prog 89 3 = some (3, 3) := by kernel_rfl
theorem ty_fd_89_4 : fdD Try.prog 89 4 = some (4, 87) := by kernel_rfl
theorem ty_fd_89_5 : fdD Try.prog 89 5 = some (5, 87) := by kernel_rfl
theorem ty_fd_91_0 : fdD Try.prog 91 0 = some (0, 3) := by kernel_rfl
theorem ty_fd_91_1 : fdD Try.prog 91 1 = some (1, 86) := by kernel_rfl
theorem ty_fd_91_2 : fdD Try.prog 91 2 = some (2, 87) := by kernel_rfl
theorem ty_fl_52 : flags2 Try.prog 52 = true := by kernel_rfl
theorem ty_ki_26 : kiD Try.prog 26 = some .i64 := by kernel_rfl
theorem ty_ki_3 : kiD Try.prog 3 = some .i64 := by kernel_rfl
theorem ty_ma_65 : maD Try.prog 65 = some (3, 66) := by kernel_rfl
theorem ty_ma_77 : maD Try.prog 77 = some (52, 78) := by kernel_rfl
theorem ty_ma_86 : maD Try.prog 86 = some (9, 87) := by kernel_rfl
theorem ty_mu_65 : Try.prog.underlying 65 = some (.map 3 66) := by kernel_rfl
theorem ty_mu_77 : Try.prog.underlying 77 = some (.map 52 78) := by kernel_rfl
theorem ty_mu_86 : Try.prog.underlying 86 = some (.map 9 87) := by kernel_rfl
theorem ty_ni_22 : notIntD Try.prog 22 = true := by kernel_rfl
theorem ty_ni_57 : notIntD Try.prog 57 = true := by kernel_rfl
theorem ty_pl_68 : plD Try.prog 68 = some [(0, 1), (1, 1), (2, 1), (3, 1), (4, 1), (5, 1)] := by kernel_rfl
theorem ty_pl_70 : plD Try.prog 70 = some [(0, 1), (1, 1), (2, 1)] := by kernel_rfl
theorem ty_pl_80 : plD Try.prog 80 = some [(0, 2), (2, 1), (3, 1), (4, 1), (5, 1), (6, 1)] := by kernel_rfl
theorem ty_pl_82 : plD Try.prog 82 = some [(0, 1), (1, 1), (2, 1)] := by kernel_rfl
theorem ty_pl_89 : plD Try.prog 89 = some [(0, 1), (1, 1), (2, 1), (3, 1), (4, 1), (5, 1)] := by kernel_rfl
theorem ty_pl_91 : plD Try.prog 91 = some [(0, 1), (1, 1), (2, 1)] := by kernel_rfl
theorem ty_pt_25 : ptD Try.prog 25 = some 70 := by kernel_rfl
theorem ty_pt_49 : ptD Try.prog 49 = some 82 := by kernel_rfl
theorem ty_pt_60 : ptD Try.prog 60 = some 91 := by kernel_rfl
theorem ty_pt_66 : ptD Try.prog 66 = some 68 := by kernel_rfl
theorem ty_pt_78 : ptD Try.prog 78 = some 80 := by kernel_rfl
theorem ty_pt_87 : ptD Try.prog 87 = some 89 := by kernel_rfl
theorem ty_sl_22 : slD Try.prog 22 = some 3 := by kernel_rfl
theorem ty_sl_65 : slD Try.prog 65 = none := by kernel_rfl
theorem ty_sl_77 : slD Try.prog 77 = none := by kernel_rfl
theorem ty_sl_86 : slD Try.prog 86 = none := by kernel_rfl
theorem ty_st_65 : stD Try.prog 65 = false := by kernel_rfl
theorem ty_st_77 : stD Try.prog 77 = false := by kernel_rfl
theorem ty_st_86 : stD Try.prog 86 = false := by kernel_rfl
theorem ty_st_9 : stD Try.prog 9 = true := by kernel_rfl
theorem ty_sz_22 : szD Try.prog 22 = some 1 := by kernel_rfl
theorem ty_sz_3 : szD Try.prog 3 = some 1 := by kernel_rfl
theorem ty_sz_4 : szD Try.prog 4 = some 1 := by kernel_rfl
theorem ty_sz_52 : szD Try.prog 52 = some 2 := by kernel_rfl
theorem ty_sz_65 : szD Try.prog 65 = some 1 := by kernel_rfl
theorem ty_sz_66 : szD Try.prog 66 = some 1 := by kernel_rfl
theorem ty_sz_68 : szD Try.prog 68 = some 6 := by kernel_rfl
theorem ty_sz_70 : szD Try.prog 70 = some 3 := by kernel_rfl
theorem ty_sz_77 : szD Try.prog 77 = some 1 := by kernel_rfl
theorem ty_sz_78 : szD Try.prog 78 = some 1 := by kernel_rfl
theorem ty_sz_80 : szD Try.prog 80 = some 7 := by kernel_rfl
theorem ty_sz_82 : szD Try.prog 82 = some 3 := by kernel_rfl
theorem ty_sz_86 : szD Try.prog 86 = some 1 := by kernel_rfl
theorem ty_sz_87 : szD Try.prog 87 = some 1 := by kernel_rfl
theorem ty_sz_89 : szD Try.prog 89 = some 6 := by kernel_rfl
theorem ty_sz_9 : szD Try.prog 9 = some 1 := by kernel_rfl
theorem ty_sz_91 : szD Try.prog 91 = some 3 := by kernel_rfl
theorem ty_zc_68 : zcD Try.prog 68 = some [.int .i64 0, .int .i64 0, .bool false, .int .i64 0, .nilp, .nilp] := by kernel_rfl
theorem ty_zc_70 : zcD Try.prog 70 = some [.int .i64 0, .mnil, .nilp] := by kernel_rfl
theorem ty_zc_80 : zcD Try.prog 80 = some [.bool false, .bool false, .snil, .bool false, .int .i64 0, .nilp, .nilp] := by kernel_rfl
theorem ty_zc_82 : zcD Try.prog 82 = some [.int .i64 0, .mnil, .nilp] := by kernel_rfl
theorem ty_zc_89 : zcD Try.prog 89 = some [.str [], .int .i64 0, .bool false, .int .i64 0, .nilp, .nilp] := by kernel_rfl
theorem ty_zc_91 : zcD Try.prog 91 = some [.int .i64 0, .mnil, .nilp] := by kernel_rfl
theorem ty_zr_66 : zrD Try.prog 66 = some (.nilp) := by kernel_rfl
theorem ty_zr_78 : zrD Try.prog 78 = some (.nilp) := by kernel_rfl
theorem ty_zr_87 : zrD Try.prog 87 = some (.nilp) := by kernel_rfl
end Go.Proofs.Ytcjndiagbdkikaa
