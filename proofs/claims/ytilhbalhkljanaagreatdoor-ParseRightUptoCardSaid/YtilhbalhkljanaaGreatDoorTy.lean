/- Facts on the types and functions of the program, each by one EL of the kernel. No condition. -/
import Derived.Test.YtilhbalhkljanaaGreatDoorEng19
import Derived.Test.YtilhbalhkljanaaGreatDoorProg
set_option linter.unusedVariables false
namespace Go.Proofs.YtilhbalhkljanaaGreatDoor
theorem d7 : BM Tryz.prog 101 = true := by kernel_rfl
theorem cX : BM Tryz.prog 103 = true := by kernel_rfl
theorem cu : BM Tryz.prog 104 = true := by kernel_rfl
theorem cm : BM Tryz.prog 107 = true := by kernel_rfl
theorem cI : BM Tryz.prog 108 = true := by kernel_rfl
theorem fz : BM Tryz.prog 11 = true := by kernel_rfl
theorem dH : BM Tryz.prog 110 = true := by kernel_rfl
theorem cB : BM Tryz.prog 116 = true := by kernel_rfl
theorem dA : BM Tryz.prog 118 = true := by kernel_rfl
theorem b8 : BM Tryz.prog 119 = true := by kernel_rfl
theorem dU : BM Tryz.prog 120 = true := by kernel_rfl
theorem cH : BM Tryz.prog 122 = true := by kernel_rfl
theorem dM : BM Tryz.prog 123 = true := by kernel_rfl
theorem cQ : BM Tryz.prog 125 = true := by kernel_rfl
theorem fk : BM Tryz.prog 13 = true := by kernel_rfl
theorem dB : BM Tryz.prog 130 = true := by kernel_rfl
theorem dN : BM Tryz.prog 131 = true := by kernel_rfl
theorem cp : BM Tryz.prog 132 = true := by kernel_rfl
theorem dC : BM Tryz.prog 133 = true := by kernel_rfl
theorem eh : BM Tryz.prog 134 = true := by kernel_rfl
theorem cO : BM Tryz.prog 135 = true := by kernel_rfl
theorem dG : BM Tryz.prog 136 = true := by kernel_rfl
theorem cW : BM Tryz.prog 137 = true := by kernel_rfl
theorem dQ : BM Tryz.prog 138 = true := by kernel_rfl
theorem cw : BM Tryz.prog 139 = true := by kernel_rfl
theorem cV : BM Tryz.prog 140 = true := by kernel_rfl
theorem c9 : BM Tryz.prog 150 = true := by kernel_rfl
theorem dk : BM Tryz.prog 154 = true := by kernel_rfl
theorem co : BM Tryz.prog 160 = true := by kernel_rfl
theorem cA : BM Tryz.prog 164 = true := by kernel_rfl
theorem c8 : BM Tryz.prog 169 = true := by kernel_rfl
theorem dw : BM Tryz.prog 170 = true := by kernel_rfl
theorem ej : BM Tryz.prog 172 = true := by kernel_rfl
theorem d8 : BM Tryz.prog 181 = true := by kernel_rfl
theorem cG : BM Tryz.prog 183 = true := by kernel_rfl
theorem dj : BM Tryz.prog 187 = true := by kernel_rfl
theorem dR : BM Tryz.prog 188 = true := by kernel_rfl
theorem dE : BM Tryz.prog 191 = true := by kernel_rfl
theorem cr : BM Tryz.prog 192 = true := by kernel_rfl
theorem cx : BM Tryz.prog 193 = true := by kernel_rfl
theorem cq : BM Tryz.prog 194 = true := by kernel_rfl
theorem du : BM Tryz.prog 195 = true := by kernel_rfl
theorem fV : BM Tryz.prog 21 = true := by kernel_rfl
theorem fF : BM Tryz.prog 22 = true := by kernel_rfl
theorem gj : BM Tryz.prog 23 = true := by kernel_rfl
theorem f6 : BM Tryz.prog 24 = true := by kernel_rfl
theorem fN : BM Tryz.prog 25 = true := by kernel_rfl
theorem fZ : BM Tryz.prog 31 = true := by kernel_rfl
theorem bR : BM Tryz.prog 38 = true := by kernel_rfl
theorem gn : BM Tryz.prog 39 = true := by kernel_rfl
theorem ff : BM Tryz.prog 40 = true := by kernel_rfl
theorem fr : BM Tryz.prog 41 = true := by kernel_rfl
theorem gm : BM Tryz.prog 42 = true := by kernel_rfl
theorem fC : BM Tryz.prog 43 = true := by kernel_rfl
theorem gx : BM Tryz.prog 44 = true := by kernel_rfl
theorem eR : BM Tryz.prog 45 = true := by kernel_rfl
theorem fh : BM Tryz.prog 46 = true := by kernel_rfl
theorem eO : BM Tryz.prog 47 = true := by kernel_rfl
theorem gz : BM Tryz.prog 48 = true := by kernel_rfl
theorem fI : BM Tryz.prog 49 = true := by kernel_rfl
theorem fO : BM Tryz.prog 50 = true := by kernel_rfl
theorem fA : BM Tryz.prog 51 = true := by kernel_rfl
theorem fc : BM Tryz.prog 52 = true := by kernel_rfl
theorem gw : BM Tryz.prog 53 = true := by kernel_rfl
theorem gk : BM Tryz.prog 54 = true := by kernel_rfl
theorem eW : BM Tryz.prog 55 = true := by kernel_rfl
theorem gB : BM Tryz.prog 60 = true := by kernel_rfl
theorem fy : BM Tryz.prog 61 = true := by kernel_rfl
theorem eU : BM Tryz.prog 62 = true := by kernel_rfl
theorem fJ : BM Tryz.prog 63 = true := by kernel_rfl
theorem fD : BM Tryz.prog 64 = true := by kernel_rfl
theorem gf : BM Tryz.prog 65 = true := by kernel_rfl
theorem gC : BM Tryz.prog 66 = true := by kernel_rfl
theorem gy : BM Tryz.prog 67 = true := by kernel_rfl
theorem gD : BM Tryz.prog 68 = true := by kernel_rfl
theorem fK : BM Tryz.prog 69 = true := by kernel_rfl
theorem fL : BM Tryz.prog 70 = true := by kernel_rfl
theorem fx : BM Tryz.prog 71 = true := by kernel_rfl
theorem eP : BM Tryz.prog 72 = true := by kernel_rfl
theorem gc : BM Tryz.prog 74 = true := by kernel_rfl
theorem f7 : BM Tryz.prog 76 = true := by kernel_rfl
theorem fY : BM Tryz.prog 77 = true := by kernel_rfl
theorem eX : BM Tryz.prog 78 = true := by kernel_rfl
theorem gg : BM Tryz.prog 79 = true := by kernel_rfl
theorem gR : BM Tryz.prog 8 = true := by kernel_rfl
theorem gr : BM Tryz.prog 80 = true := by kernel_rfl
theorem fv : BM Tryz.prog 81 = true := by kernel_rfl
theorem eM : BM Tryz.prog 82 = true := by kernel_rfl
theorem e7 : BM Tryz.prog 83 = true := by kernel_rfl
theorem gv : BM Tryz.prog 84 = true := by kernel_rfl
theorem gu : BM Tryz.prog 85 = true := by kernel_rfl
theorem fH : BM Tryz.prog 87 = true := by kernel_rfl
theorem fE : BM Tryz.prog 88 = true := by kernel_rfl
theorem gi : BM Tryz.prog 89 = true := by kernel_rfl
theorem ip : BM Tryz.prog 9 = true := by kernel_rfl
theorem fT : BM Tryz.prog 90 = true := by kernel_rfl
theorem CO : agD Tryz.prog 110 = some true := by kernel_rfl
theorem HM : agD Tryz.prog 161 = some true := by kernel_rfl
theorem IW : agD Tryz.prog 170 = some true := by kernel_rfl
theorem Wm : agD Tryz.prog 199 = some true := by kernel_rfl
theorem SH : agD Tryz.prog 21 = some false := by kernel_rfl
theorem S5 : agD Tryz.prog 22 = some false := by kernel_rfl
theorem Du : agD Tryz.prog 26 = some true := by kernel_rfl
theorem Ga : agD Tryz.prog 27 = some false := by kernel_rfl
theorem Dl : agD Tryz.prog 28 = some false := by kernel_rfl
theorem EN : agD Tryz.prog 3 = some false := by kernel_rfl
theorem CQ : agD Tryz.prog 30 = some true := by kernel_rfl
theorem Vs : agD Tryz.prog 4 = some false := by kernel_rfl
theorem aV : agD Tryz.prog 5 = some false := by kernel_rfl
theorem SX : agD Tryz.prog 55 = some false := by kernel_rfl
theorem Fb : agD Tryz.prog 57 = some true := by kernel_rfl
theorem Lr : agD Tryz.prog 61 = some false := by kernel_rfl
theorem LX : agD Tryz.prog 64 = some false := by kernel_rfl
theorem HP : agD Tryz.prog 66 = some true := by kernel_rfl
theorem BN : agD Tryz.prog 9 = some false := by kernel_rfl
theorem aQ : boD Tryz.prog 4 = true := by kernel_rfl
theorem Mu : elD Tryz.prog 200 = some (2, 8, [.int .i32 0, .int .i32 0]) := by kernel_rfl
theorem PC : elD Tryz.prog 210 = some (1, 8, [.int .i64 0]) := by kernel_rfl
theorem GL : elD Tryz.prog 22 = some (1, 1, [.int .u8 0]) := by kernel_rfl
theorem Sm : elD Tryz.prog 27 = some (3, 48, [.str [], .str [], .str []]) := by kernel_rfl
theorem IP : elD Tryz.prog 28 = some (6, 104, [.int .i64 0, .str [], .str [], .snil, .snil, .str []]) := by kernel_rfl
theorem Oo : elD Tryz.prog 42 = some (1, 16, [.str []]) := by kernel_rfl
theorem Sb : elD Tryz.prog 51 = some (6, 80, [.int .i64 0, .int .i64 0, .str [], .snil, .str [], .int .i64 0]) := by kernel_rfl
theorem I0 : elD Tryz.prog 55 = some (2, 32, [.str [], .str []]) := by kernel_rfl
theorem Oz : elD Tryz.prog 61 = some (8, 144, [.int .i64 0, .str [], .str [], .snil, .snil, .str [], .str [], .snil]) := by kernel_rfl
theorem LQ : elD Tryz.prog 64 = some (2, 32, [.str [], .str []]) := by kernel_rfl
theorem aq : faD Tryz.prog 9 = none := by kernel_rfl
theorem JZ : fdD Tryz.prog 110 0 = some (0, 26) := by kernel_rfl
theorem JR : fdD Tryz.prog 110 1 = some (2, 9) := by kernel_rfl
theorem JQ : fdD Tryz.prog 161 0 = some (0, 9) := by kernel_rfl
theorem RK : fdD Tryz.prog 161 1 = some (1, 9) := by kernel_rfl
theorem MV : fdD Tryz.prog 170 0 = some (0, 9) := by kernel_rfl
theorem Sj : fdD Tryz.prog 170 1 = some (1, 9) := by kernel_rfl
theorem Sf : fdD Tryz.prog 199 0 = some (0, 21) := by kernel_rfl
theorem SL : fdD Tryz.prog 199 1 = some (1, 21) := by kernel_rfl
theorem K8 : fdD Tryz.prog 26 0 = some (0, 9) := by kernel_rfl
theorem K6 : fdD Tryz.prog 26 1 = some (1, 9) := by kernel_rfl
theorem Dy : fdD Tryz.prog 30 0 = some (0, 3) := by kernel_rfl
theorem E4 : fdD Tryz.prog 30 1 = some (1, 26) := by kernel_rfl
theorem EH : fdD Tryz.prog 30 2 = some (3, 27) := by kernel_rfl
theorem Do : fdD Tryz.prog 30 3 = some (4, 28) := by kernel_rfl
theorem Cx : fdD Tryz.prog 30 4 = some (5, 9) := by kernel_rfl
theorem Ou : fdD Tryz.prog 57 0 = some (0, 55) := by kernel_rfl
theorem Uq : fdD Tryz.prog 60 0 = some (0, 30) := by kernel_rfl
theorem UN : fdD Tryz.prog 60 1 = some (6, 9) := by kernel_rfl
theorem ON : fdD Tryz.prog 60 2 = some (7, 57) := by kernel_rfl
theorem Lp : fdD Tryz.prog 63 0 = some (0, 61) := by kernel_rfl
theorem Ti : fdD Tryz.prog 63 1 = some (1, 3) := by kernel_rfl
theorem T4 : fdD Tryz.prog 63 2 = some (2, 4) := by kernel_rfl
theorem Lf : fdD Tryz.prog 66 0 = some (0, 3) := by kernel_rfl
theorem Tg : fdD Tryz.prog 66 1 = some (1, 3) := by kernel_rfl
theorem Je : fdD Tryz.prog 66 2 = some (2, 9) := by kernel_rfl
theorem Lk : fdD Tryz.prog 66 3 = some (3, 64) := by kernel_rfl
theorem Lh : fdD Tryz.prog 66 4 = some (4, 9) := by kernel_rfl
theorem Om : fdD Tryz.prog 66 5 = some (5, 3) := by kernel_rfl
theorem Um : fdD Tryz.prog 95 0 = some (0, 22) := by kernel_rfl
theorem Te : fdD Tryz.prog 95 1 = some (1, 3) := by kernel_rfl
theorem SK : kiD Tryz.prog 21 = some .i32 := by kernel_rfl
theorem VF : kiD Tryz.prog 3 = some .i64 := by kernel_rfl
theorem X5 : kiD Tryz.prog 48 = some .u64 := by kernel_rfl
theorem KI : kiD Tryz.prog 5 = some .u8 := by kernel_rfl
theorem aw : kiD Tryz.prog 9 = none := by kernel_rfl
theorem X8 : D2 Tryz.prog 22 = true := by kernel_rfl
theorem Zx : D2 Tryz.prog 27 = true := by kernel_rfl
theorem OD : D2 Tryz.prog 28 = true := by kernel_rfl
theorem Yt : D2 Tryz.prog 42 = true := by kernel_rfl
theorem YV : D2 Tryz.prog 51 = true := by kernel_rfl
theorem NZ : D2 Tryz.prog 55 = true := by kernel_rfl
theorem XL : D2 Tryz.prog 61 = true := by kernel_rfl
theorem Ry : D2 Tryz.prog 64 = true := by kernel_rfl
theorem aK : D2 Tryz.prog 9 = true := by kernel_rfl
theorem Xz : plD Tryz.prog 110 = some [(0, 2), (2, 1)] := by kernel_rfl
theorem Wa : plD Tryz.prog 161 = some [(0, 1), (1, 1)] := by kernel_rfl
theorem Xv : plD Tryz.prog 170 = some [(0, 1), (1, 1)] := by kernel_rfl
theorem Dj : plD Tryz.prog 199 = some [(0, 1), (1, 1)] := by kernel_rfl
theorem GH : plD Tryz.prog 26 = some [(0, 1), (1, 1)] := by kernel_rfl
theorem F5 : plD Tryz.prog 30 = some [(0, 1), (1, 2), (3, 1), (4, 1), (5, 1)] := by kernel_rfl
theorem LU : plD Tryz.prog 57 = some [(0, 1)] := by kernel_rfl
theorem RD : plD Tryz.prog 60 = some [(0, 6), (6, 1), (7, 1)] := by kernel_rfl
theorem YB : plD Tryz.prog 63 = some [(0, 1), (1, 1), (2, 1)] := by kernel_rfl
theorem ZA : plD Tryz.prog 66 = some [(0, 1), (1, 1), (2, 1), (3, 1), (4, 1), (5, 1)] := by kernel_rfl
theorem Y3 : plD Tryz.prog 95 = some [(0, 1), (1, 1)] := by kernel_rfl
theorem PR : Tryz.prog.eqGuardType Tryz.prog.depth 110 = false := by kernel_rfl
theorem Fd : Tryz.prog.eqGuardType Tryz.prog.depth 26 = false := by kernel_rfl
theorem PK : sfD Tryz.prog 110 = some [(0, 26), (2, 9)] := by kernel_rfl
theorem ER : sfD Tryz.prog 26 = some [(0, 9), (1, 9)] := by kernel_rfl
theorem PY : slD Tryz.prog 200 = some 199 := by kernel_rfl
theorem PF : slD Tryz.prog 210 = some 3 := by kernel_rfl
theorem Ca : slD Tryz.prog 22 = some 5 := by kernel_rfl
theorem BK : slD Tryz.prog 27 = some 110 := by kernel_rfl
theorem C7 : slD Tryz.prog 28 = some 30 := by kernel_rfl
theorem LL : slD Tryz.prog 42 = some 9 := by kernel_rfl
theorem Sz : slD Tryz.prog 51 = some 66 := by kernel_rfl
theorem EP : slD Tryz.prog 55 = some 170 := by kernel_rfl
theorem E7 : slD Tryz.prog 61 = some 60 := by kernel_rfl
theorem IR : slD Tryz.prog 64 = some 161 := by kernel_rfl
theorem CB : stD Tryz.prog 9 = true := by kernel_rfl
theorem Ax : szD Tryz.prog 110 = some 3 := by kernel_rfl
theorem EC : szD Tryz.prog 161 = some 2 := by kernel_rfl
theorem DX : szD Tryz.prog 170 = some 2 := by kernel_rfl
theorem MD : szD Tryz.prog 199 = some 2 := by kernel_rfl
theorem Lt : szD Tryz.prog 21 = some 1 := by kernel_rfl
theorem NO : szD Tryz.prog 22 = some 1 := by kernel_rfl
theorem Bz : szD Tryz.prog 26 = some 2 := by kernel_rfl
theorem De : szD Tryz.prog 27 = some 1 := by kernel_rfl
theorem Bw : szD Tryz.prog 28 = some 1 := by kernel_rfl
theorem AN : szD Tryz.prog 3 = some 1 := by kernel_rfl
theorem AK : szD Tryz.prog 30 = some 6 := by kernel_rfl
theorem L4 : szD Tryz.prog 4 = some 1 := by kernel_rfl
theorem Dw : szD Tryz.prog 5 = some 1 := by kernel_rfl
theorem LT : szD Tryz.prog 55 = some 1 := by kernel_rfl
theorem CX : szD Tryz.prog 57 = some 1 := by kernel_rfl
theorem NT : szD Tryz.prog 60 = some 8 := by kernel_rfl
theorem GE : szD Tryz.prog 61 = some 1 := by kernel_rfl
theorem GB : szD Tryz.prog 64 = some 1 := by kernel_rfl
theorem F8 : szD Tryz.prog 66 = some 6 := by kernel_rfl
theorem As : szD Tryz.prog 9 = some 1 := by kernel_rfl
theorem XT : (Tryz.prog.underlying 21).isSome = true := by kernel_rfl
theorem QJ : (Tryz.prog.underlying 3).isSome = true := by kernel_rfl
theorem XG : (Tryz.prog.underlying 48).isSome = true := by kernel_rfl
theorem bi : (Tryz.prog.underlying 5).isSome = true := by kernel_rfl
theorem Py : zcD Tryz.prog 110 = some [.str [], .str [], .str []] := by kernel_rfl
theorem IN : zcD Tryz.prog 161 = some [.str [], .str []] := by kernel_rfl
theorem KD : zcD Tryz.prog 170 = some [.str [], .str []] := by kernel_rfl
theorem C4 : zcD Tryz.prog 199 = some [.int .i32 0, .int .i32 0] := by kernel_rfl
theorem E9 : zcD Tryz.prog 26 = some [.str [], .str []] := by kernel_rfl
theorem DD : zcD Tryz.prog 30 = some [.int .i64 0, .str [], .str [], .snil, .snil, .str []] := by kernel_rfl
theorem F3 : zcD Tryz.prog 57 = some [.snil] := by kernel_rfl
theorem RL : zcD Tryz.prog 60 = some [.int .i64 0, .str [], .str [], .snil, .snil, .str [], .str [], .snil] := by kernel_rfl
theorem XO : zcD Tryz.prog 63 = some [.snil, .int .i64 0, .bool false] := by kernel_rfl
theorem OM : zcD Tryz.prog 66 = some [.int .i64 0, .int .i64 0, .str [], .snil, .str [], .int .i64 0] := by kernel_rfl
theorem aB : zcD Tryz.prog 9 = some [.str []] := by kernel_rfl
theorem XV : zcD Tryz.prog 95 = some [.snil, .int .i64 0] := by kernel_rfl
end Go.Proofs.YtilhbalhkljanaaGreatDoor
