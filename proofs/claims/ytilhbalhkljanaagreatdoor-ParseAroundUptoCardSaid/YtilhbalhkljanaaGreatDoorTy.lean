/- Facts on the types and functions of the program, each by one EI of the kernel. No condition. -/
import Derived.Test.YtilhbalhkljanaaGreatDoorEng19
import Derived.Test.YtilhbalhkljanaaGreatDoorProg
set_option linter.unusedVariables false
namespace Go.Proofs.YtilhbalhkljanaaGreatDoor
theorem bR : Cj Tryz.prog 103 = true := by kernel_rfl
theorem ZX : Cj Tryz.prog 104 = true := by kernel_rfl
theorem ao : Cj Tryz.prog 107 = true := by kernel_rfl
theorem az : Cj Tryz.prog 108 = true := by kernel_rfl
theorem cn : Cj Tryz.prog 11 = true := by kernel_rfl
theorem ZZ : Cj Tryz.prog 116 = true := by kernel_rfl
theorem bf : Cj Tryz.prog 118 = true := by kernel_rfl
theorem bH : Cj Tryz.prog 119 = true := by kernel_rfl
theorem bW : Cj Tryz.prog 120 = true := by kernel_rfl
theorem aP : Cj Tryz.prog 122 = true := by kernel_rfl
theorem bQ : Cj Tryz.prog 123 = true := by kernel_rfl
theorem ZY : Cj Tryz.prog 125 = true := by kernel_rfl
theorem dw : Cj Tryz.prog 13 = true := by kernel_rfl
theorem Z1 : Cj Tryz.prog 130 = true := by kernel_rfl
theorem ZU : Cj Tryz.prog 131 = true := by kernel_rfl
theorem aQ : Cj Tryz.prog 132 = true := by kernel_rfl
theorem bJ : Cj Tryz.prog 133 = true := by kernel_rfl
theorem ag : Cj Tryz.prog 134 = true := by kernel_rfl
theorem ak : Cj Tryz.prog 135 = true := by kernel_rfl
theorem bj : Cj Tryz.prog 136 = true := by kernel_rfl
theorem aK : Cj Tryz.prog 137 = true := by kernel_rfl
theorem bp : Cj Tryz.prog 138 = true := by kernel_rfl
theorem aW : Cj Tryz.prog 139 = true := by kernel_rfl
theorem aD : Cj Tryz.prog 140 = true := by kernel_rfl
theorem aB : Cj Tryz.prog 150 = true := by kernel_rfl
theorem bd : Cj Tryz.prog 154 = true := by kernel_rfl
theorem Z2 : Cj Tryz.prog 160 = true := by kernel_rfl
theorem bw : Cj Tryz.prog 164 = true := by kernel_rfl
theorem aH : Cj Tryz.prog 169 = true := by kernel_rfl
theorem bZ : Cj Tryz.prog 170 = true := by kernel_rfl
theorem ar : Cj Tryz.prog 172 = true := by kernel_rfl
theorem bv : Cj Tryz.prog 181 = true := by kernel_rfl
theorem bE : Cj Tryz.prog 183 = true := by kernel_rfl
theorem bg : Cj Tryz.prog 187 = true := by kernel_rfl
theorem aJ : Cj Tryz.prog 188 = true := by kernel_rfl
theorem cE : Cj Tryz.prog 19 = true := by kernel_rfl
theorem bX : Cj Tryz.prog 191 = true := by kernel_rfl
theorem aV : Cj Tryz.prog 192 = true := by kernel_rfl
theorem aR : Cj Tryz.prog 193 = true := by kernel_rfl
theorem Z3 : Cj Tryz.prog 194 = true := by kernel_rfl
theorem bN : Cj Tryz.prog 195 = true := by kernel_rfl
theorem db : Cj Tryz.prog 22 = true := by kernel_rfl
theorem cM : Cj Tryz.prog 23 = true := by kernel_rfl
theorem dD : Cj Tryz.prog 24 = true := by kernel_rfl
theorem cp : Cj Tryz.prog 25 = true := by kernel_rfl
theorem c9 : Cj Tryz.prog 31 = true := by kernel_rfl
theorem c8 : Cj Tryz.prog 47 = true := by kernel_rfl
theorem dR : Cj Tryz.prog 48 = true := by kernel_rfl
theorem cQ : Cj Tryz.prog 49 = true := by kernel_rfl
theorem dt : Cj Tryz.prog 50 = true := by kernel_rfl
theorem dA : Cj Tryz.prog 51 = true := by kernel_rfl
theorem cU : Cj Tryz.prog 52 = true := by kernel_rfl
theorem dL : Cj Tryz.prog 53 = true := by kernel_rfl
theorem dv : Cj Tryz.prog 54 = true := by kernel_rfl
theorem cx : Cj Tryz.prog 55 = true := by kernel_rfl
theorem d8 : Cj Tryz.prog 6 = true := by kernel_rfl
theorem cy : Cj Tryz.prog 68 = true := by kernel_rfl
theorem cN : Cj Tryz.prog 69 = true := by kernel_rfl
theorem cg : Cj Tryz.prog 76 = true := by kernel_rfl
theorem cb : Cj Tryz.prog 77 = true := by kernel_rfl
theorem di : Cj Tryz.prog 78 = true := by kernel_rfl
theorem cV : Cj Tryz.prog 79 = true := by kernel_rfl
theorem cD : Cj Tryz.prog 80 = true := by kernel_rfl
theorem da : Cj Tryz.prog 81 = true := by kernel_rfl
theorem cO : Cj Tryz.prog 82 = true := by kernel_rfl
theorem dW : Cj Tryz.prog 83 = true := by kernel_rfl
theorem dJ : Cj Tryz.prog 84 = true := by kernel_rfl
theorem dm : Cj Tryz.prog 85 = true := by kernel_rfl
theorem dz : Cj Tryz.prog 87 = true := by kernel_rfl
theorem de : Cj Tryz.prog 88 = true := by kernel_rfl
theorem dE : Cj Tryz.prog 89 = true := by kernel_rfl
theorem eC : Cj Tryz.prog 9 = true := by kernel_rfl
theorem cZ : Cj Tryz.prog 90 = true := by kernel_rfl
theorem CG : agD Tryz.prog 110 = some true := by kernel_rfl
theorem GX : agD Tryz.prog 161 = some true := by kernel_rfl
theorem Id : agD Tryz.prog 170 = some true := by kernel_rfl
theorem UY : agD Tryz.prog 199 = some true := by kernel_rfl
theorem RG : agD Tryz.prog 21 = some false := by kernel_rfl
theorem QY : agD Tryz.prog 22 = some false := by kernel_rfl
theorem EK : agD Tryz.prog 26 = some true := by kernel_rfl
theorem QT : agD Tryz.prog 27 = some false := by kernel_rfl
theorem Dq : agD Tryz.prog 28 = some false := by kernel_rfl
theorem HC : agD Tryz.prog 3 = some false := by kernel_rfl
theorem DE : agD Tryz.prog 30 = some true := by kernel_rfl
theorem TE : agD Tryz.prog 4 = some false := by kernel_rfl
theorem Zt : agD Tryz.prog 5 = some false := by kernel_rfl
theorem Rs : agD Tryz.prog 55 = some false := by kernel_rfl
theorem EM : agD Tryz.prog 57 = some true := by kernel_rfl
theorem Lj : agD Tryz.prog 61 = some false := by kernel_rfl
theorem KY : agD Tryz.prog 64 = some false := by kernel_rfl
theorem Hb : agD Tryz.prog 66 = some true := by kernel_rfl
theorem Dg : agD Tryz.prog 9 = some false := by kernel_rfl
theorem Y7 : boD Tryz.prog 4 = true := by kernel_rfl
theorem LC : elD Tryz.prog 200 = some (2, 8, [.int .i32 0, .int .i32 0]) := by kernel_rfl
theorem VF : elD Tryz.prog 210 = some (1, 8, [.int .i64 0]) := by kernel_rfl
theorem FU : elD Tryz.prog 22 = some (1, 1, [.int .u8 0]) := by kernel_rfl
theorem Q0 : elD Tryz.prog 27 = some (3, 48, [.str [], .str [], .str []]) := by kernel_rfl
theorem KX : elD Tryz.prog 28 = some (6, 104, [.int .i64 0, .str [], .str [], .snil, .snil, .str []]) := by kernel_rfl
theorem NE : elD Tryz.prog 42 = some (1, 16, [.str []]) := by kernel_rfl
theorem RM : elD Tryz.prog 51 = some (6, 80, [.int .i64 0, .int .i64 0, .str [], .snil, .str [], .int .i64 0]) := by kernel_rfl
theorem Ie : elD Tryz.prog 55 = some (2, 32, [.str [], .str []]) := by kernel_rfl
theorem NO : elD Tryz.prog 61 = some (8, 144, [.int .i64 0, .str [], .str [], .snil, .snil, .str [], .str [], .snil]) := by kernel_rfl
theorem KO : elD Tryz.prog 64 = some (2, 32, [.str [], .str []]) := by kernel_rfl
theorem Y2 : faD Tryz.prog 9 = none := by kernel_rfl
theorem Jj : fdD Tryz.prog 110 0 = some (0, 26) := by kernel_rfl
theorem QG : fdD Tryz.prog 110 1 = some (2, 9) := by kernel_rfl
theorem JA : fdD Tryz.prog 161 0 = some (0, 9) := by kernel_rfl
theorem Qy : fdD Tryz.prog 161 1 = some (1, 9) := by kernel_rfl
theorem Md : fdD Tryz.prog 170 0 = some (0, 9) := by kernel_rfl
theorem Q3 : fdD Tryz.prog 170 1 = some (1, 9) := by kernel_rfl
theorem Rg : fdD Tryz.prog 199 0 = some (0, 21) := by kernel_rfl
theorem Ru : fdD Tryz.prog 199 1 = some (1, 21) := by kernel_rfl
theorem Kk : fdD Tryz.prog 26 0 = some (0, 9) := by kernel_rfl
theorem Nn : fdD Tryz.prog 26 1 = some (1, 9) := by kernel_rfl
theorem IT : fdD Tryz.prog 30 0 = some (0, 3) := by kernel_rfl
theorem Kq : fdD Tryz.prog 30 1 = some (1, 26) := by kernel_rfl
theorem ND : fdD Tryz.prog 30 2 = some (3, 27) := by kernel_rfl
theorem EG : fdD Tryz.prog 30 3 = some (4, 28) := by kernel_rfl
theorem Es : fdD Tryz.prog 30 4 = some (5, 9) := by kernel_rfl
theorem M1 : fdD Tryz.prog 57 0 = some (0, 55) := by kernel_rfl
theorem Sm : fdD Tryz.prog 60 0 = some (0, 30) := by kernel_rfl
theorem Se : fdD Tryz.prog 60 1 = some (6, 9) := by kernel_rfl
theorem Nv : fdD Tryz.prog 60 2 = some (7, 57) := by kernel_rfl
theorem KA : fdD Tryz.prog 63 0 = some (0, 61) := by kernel_rfl
theorem Sd : fdD Tryz.prog 63 1 = some (1, 3) := by kernel_rfl
theorem SG : fdD Tryz.prog 63 2 = some (2, 4) := by kernel_rfl
theorem Kj : fdD Tryz.prog 66 0 = some (0, 3) := by kernel_rfl
theorem SY : fdD Tryz.prog 66 1 = some (1, 3) := by kernel_rfl
theorem IN : fdD Tryz.prog 66 2 = some (2, 9) := by kernel_rfl
theorem Ko : fdD Tryz.prog 66 3 = some (3, 64) := by kernel_rfl
theorem KC : fdD Tryz.prog 66 4 = some (4, 9) := by kernel_rfl
theorem Oc : fdD Tryz.prog 66 5 = some (5, 3) := by kernel_rfl
theorem R5 : fdD Tryz.prog 95 0 = some (0, 22) := by kernel_rfl
theorem SB : fdD Tryz.prog 95 1 = some (1, 3) := by kernel_rfl
theorem Qs : kiD Tryz.prog 21 = some .i32 := by kernel_rfl
theorem T7 : kiD Tryz.prog 3 = some .i64 := by kernel_rfl
theorem Xx : kiD Tryz.prog 48 = some .u64 := by kernel_rfl
theorem JF : kiD Tryz.prog 5 = some .u8 := by kernel_rfl
theorem YA : kiD Tryz.prog 9 = none := by kernel_rfl
theorem Wn : DM Tryz.prog 22 = true := by kernel_rfl
theorem Wa : DM Tryz.prog 27 = true := by kernel_rfl
theorem RC : DM Tryz.prog 28 = true := by kernel_rfl
theorem XK : DM Tryz.prog 42 = true := by kernel_rfl
theorem WE : DM Tryz.prog 51 = true := by kernel_rfl
theorem M9 : DM Tryz.prog 55 = true := by kernel_rfl
theorem WX : DM Tryz.prog 61 = true := by kernel_rfl
theorem Rc : DM Tryz.prog 64 = true := by kernel_rfl
theorem YP : DM Tryz.prog 9 = true := by kernel_rfl
theorem Vp : plD Tryz.prog 110 = some [(0, 2), (2, 1)] := by kernel_rfl
theorem VC : plD Tryz.prog 161 = some [(0, 1), (1, 1)] := by kernel_rfl
theorem VD : plD Tryz.prog 170 = some [(0, 1), (1, 1)] := by kernel_rfl
theorem C7 : plD Tryz.prog 199 = some [(0, 1), (1, 1)] := by kernel_rfl
theorem In : plD Tryz.prog 26 = some [(0, 1), (1, 1)] := by kernel_rfl
theorem FY : plD Tryz.prog 30 = some [(0, 1), (1, 2), (3, 1), (4, 1), (5, 1)] := by kernel_rfl
theorem KL : plD Tryz.prog 57 = some [(0, 1)] := by kernel_rfl
theorem QH : plD Tryz.prog 60 = some [(0, 6), (6, 1), (7, 1)] := by kernel_rfl
theorem Wg : plD Tryz.prog 63 = some [(0, 1), (1, 1), (2, 1)] := by kernel_rfl
theorem V9 : plD Tryz.prog 66 = some [(0, 1), (1, 1), (2, 1), (3, 1), (4, 1), (5, 1)] := by kernel_rfl
theorem Yl : plD Tryz.prog 95 = some [(0, 1), (1, 1)] := by kernel_rfl
theorem Ph : Tryz.prog.eqGuardType Tryz.prog.depth 110 = false := by kernel_rfl
theorem Ic : Tryz.prog.eqGuardType Tryz.prog.depth 26 = false := by kernel_rfl
theorem O1 : sfD Tryz.prog 110 = some [(0, 26), (2, 9)] := by kernel_rfl
theorem Hd : sfD Tryz.prog 26 = some [(0, 9), (1, 9)] := by kernel_rfl
theorem Pj : slD Tryz.prog 200 = some 199 := by kernel_rfl
theorem OF : slD Tryz.prog 210 = some 3 := by kernel_rfl
theorem BQ : slD Tryz.prog 22 = some 5 := by kernel_rfl
theorem BL : slD Tryz.prog 27 = some 110 := by kernel_rfl
theorem CE : slD Tryz.prog 28 = some 30 := by kernel_rfl
theorem K7 : slD Tryz.prog 42 = some 9 := by kernel_rfl
theorem Rb : slD Tryz.prog 51 = some 66 := by kernel_rfl
theorem Ez : slD Tryz.prog 55 = some 170 := by kernel_rfl
theorem EL : slD Tryz.prog 61 = some 60 := by kernel_rfl
theorem H8 : slD Tryz.prog 64 = some 161 := by kernel_rfl
theorem Di : stD Tryz.prog 9 = true := by kernel_rfl
theorem AB : szD Tryz.prog 110 = some 3 := by kernel_rfl
theorem Ej : szD Tryz.prog 161 = some 2 := by kernel_rfl
theorem DI : szD Tryz.prog 170 = some 2 := by kernel_rfl
theorem LA : szD Tryz.prog 199 = some 2 := by kernel_rfl
theorem KE : szD Tryz.prog 21 = some 1 := by kernel_rfl
theorem N6 : szD Tryz.prog 22 = some 1 := by kernel_rfl
theorem Cx : szD Tryz.prog 26 = some 2 := by kernel_rfl
theorem KI : szD Tryz.prog 27 = some 1 := by kernel_rfl
theorem BR : szD Tryz.prog 28 = some 1 := by kernel_rfl
theorem Bb : szD Tryz.prog 3 = some 1 := by kernel_rfl
theorem AK : szD Tryz.prog 30 = some 6 := by kernel_rfl
theorem KM : szD Tryz.prog 4 = some 1 := by kernel_rfl
theorem C0 : szD Tryz.prog 5 = some 1 := by kernel_rfl
theorem KN : szD Tryz.prog 55 = some 1 := by kernel_rfl
theorem CL : szD Tryz.prog 57 = some 1 := by kernel_rfl
theorem Ng : szD Tryz.prog 60 = some 8 := by kernel_rfl
theorem FT : szD Tryz.prog 61 = some 1 := by kernel_rfl
theorem F8 : szD Tryz.prog 64 = some 1 := by kernel_rfl
theorem Fr : szD Tryz.prog 66 = some 6 := by kernel_rfl
theorem AO : szD Tryz.prog 9 = some 1 := by kernel_rfl
theorem Xz : (Tryz.prog.underlying 21).isSome = true := by kernel_rfl
theorem Qa : (Tryz.prog.underlying 3).isSome = true := by kernel_rfl
theorem Ws : (Tryz.prog.underlying 48).isSome = true := by kernel_rfl
theorem ZD : (Tryz.prog.underlying 5).isSome = true := by kernel_rfl
theorem Pf : zcD Tryz.prog 110 = some [.str [], .str [], .str []] := by kernel_rfl
theorem H1 : zcD Tryz.prog 161 = some [.str [], .str []] := by kernel_rfl
theorem JH : zcD Tryz.prog 170 = some [.str [], .str []] := by kernel_rfl
theorem CV : zcD Tryz.prog 199 = some [.int .i32 0, .int .i32 0] := by kernel_rfl
theorem F2 : zcD Tryz.prog 26 = some [.str [], .str []] := by kernel_rfl
theorem Dh : zcD Tryz.prog 30 = some [.int .i64 0, .str [], .str [], .snil, .snil, .str []] := by kernel_rfl
theorem Fo : zcD Tryz.prog 57 = some [.snil] := by kernel_rfl
theorem QL : zcD Tryz.prog 60 = some [.int .i64 0, .str [], .str [], .snil, .snil, .str [], .str [], .snil] := by kernel_rfl
theorem XI : zcD Tryz.prog 63 = some [.snil, .int .i64 0, .bool false] := by kernel_rfl
theorem M4 : zcD Tryz.prog 66 = some [.int .i64 0, .int .i64 0, .str [], .snil, .str [], .int .i64 0] := by kernel_rfl
theorem Zs : zcD Tryz.prog 9 = some [.str []] := by kernel_rfl
theorem Wp : zcD Tryz.prog 95 = some [.snil, .int .i64 0] := by kernel_rfl
end Go.Proofs.YtilhbalhkljanaaGreatDoor
