/- Facts on the types and functions of the program, each by one F6 of the kernel. No condition. -/
import Derived.Test.YtmnbjcpikllknaaGreatDoorEng19
import Derived.Test.YtmnbjcpikllknaaGreatDoorProg
set_option linter.unusedVariables false
namespace Go.Proofs.YtmnbjcpikllknaaGreatDoor
theorem Ys : Ci Tryz.prog 10 = true := by kernel_rfl
theorem Wh : Ci Tryz.prog 100 = true := by kernel_rfl
theorem W8 : Ci Tryz.prog 101 = true := by kernel_rfl
theorem Xb : Ci Tryz.prog 102 = true := by kernel_rfl
theorem W6 : Ci Tryz.prog 103 = true := by kernel_rfl
theorem V0 : Ci Tryz.prog 104 = true := by kernel_rfl
theorem V6 : Ci Tryz.prog 105 = true := by kernel_rfl
theorem Wu : Ci Tryz.prog 106 = true := by kernel_rfl
theorem Wt : Ci Tryz.prog 107 = true := by kernel_rfl
theorem WF : Ci Tryz.prog 108 = true := by kernel_rfl
theorem Ww : Ci Tryz.prog 109 = true := by kernel_rfl
theorem Xe : Ci Tryz.prog 110 = true := by kernel_rfl
theorem Xi : Ci Tryz.prog 111 = true := by kernel_rfl
theorem Vq : Ci Tryz.prog 112 = true := by kernel_rfl
theorem V3 : Ci Tryz.prog 113 = true := by kernel_rfl
theorem WX : Ci Tryz.prog 114 = true := by kernel_rfl
theorem Xg : Ci Tryz.prog 115 = true := by kernel_rfl
theorem WT : Ci Tryz.prog 117 = true := by kernel_rfl
theorem Vr : Ci Tryz.prog 119 = true := by kernel_rfl
theorem Vp : Ci Tryz.prog 120 = true := by kernel_rfl
theorem Wr : Ci Tryz.prog 121 = true := by kernel_rfl
theorem V7 : Ci Tryz.prog 122 = true := by kernel_rfl
theorem V8 : Ci Tryz.prog 123 = true := by kernel_rfl
theorem XS : Ci Tryz.prog 13 = true := by kernel_rfl
theorem Vk : Ci Tryz.prog 139 = true := by kernel_rfl
theorem VW : Ci Tryz.prog 141 = true := by kernel_rfl
theorem WQ : Ci Tryz.prog 142 = true := by kernel_rfl
theorem Vs : Ci Tryz.prog 143 = true := by kernel_rfl
theorem WK : Ci Tryz.prog 144 = true := by kernel_rfl
theorem WV : Ci Tryz.prog 145 = true := by kernel_rfl
theorem W7 : Ci Tryz.prog 148 = true := by kernel_rfl
theorem We : Ci Tryz.prog 150 = true := by kernel_rfl
theorem Xd : Ci Tryz.prog 155 = true := by kernel_rfl
theorem VG : Ci Tryz.prog 156 = true := by kernel_rfl
theorem Wy : Ci Tryz.prog 157 = true := by kernel_rfl
theorem VE : Ci Tryz.prog 158 = true := by kernel_rfl
theorem VA : Ci Tryz.prog 159 = true := by kernel_rfl
theorem VT : Ci Tryz.prog 171 = true := by kernel_rfl
theorem WE : Ci Tryz.prog 176 = true := by kernel_rfl
theorem V9 : Ci Tryz.prog 180 = true := by kernel_rfl
theorem VO : Ci Tryz.prog 181 = true := by kernel_rfl
theorem W4 : Ci Tryz.prog 182 = true := by kernel_rfl
theorem WC : Ci Tryz.prog 183 = true := by kernel_rfl
theorem VL : Ci Tryz.prog 187 = true := by kernel_rfl
theorem Vi : Ci Tryz.prog 192 = true := by kernel_rfl
theorem WZ : Ci Tryz.prog 193 = true := by kernel_rfl
theorem Wp : Ci Tryz.prog 194 = true := by kernel_rfl
theorem WY : Ci Tryz.prog 195 = true := by kernel_rfl
theorem Yv : Ci Tryz.prog 21 = true := by kernel_rfl
theorem Yo : Ci Tryz.prog 23 = true := by kernel_rfl
theorem XQ : Ci Tryz.prog 27 = true := by kernel_rfl
theorem Yp : Ci Tryz.prog 30 = true := by kernel_rfl
theorem Yu : Ci Tryz.prog 31 = true := by kernel_rfl
theorem XY : Ci Tryz.prog 32 = true := by kernel_rfl
theorem XO : Ci Tryz.prog 33 = true := by kernel_rfl
theorem Xs : Ci Tryz.prog 34 = true := by kernel_rfl
theorem XW : Ci Tryz.prog 35 = true := by kernel_rfl
theorem X5 : Ci Tryz.prog 36 = true := by kernel_rfl
theorem Xo : Ci Tryz.prog 37 = true := by kernel_rfl
theorem VY : Ci Tryz.prog 38 = true := by kernel_rfl
theorem Yh : Ci Tryz.prog 57 = true := by kernel_rfl
theorem XK : Ci Tryz.prog 58 = true := by kernel_rfl
theorem Xv : Ci Tryz.prog 59 = true := by kernel_rfl
theorem Yc : Ci Tryz.prog 60 = true := by kernel_rfl
theorem XJ : Ci Tryz.prog 64 = true := by kernel_rfl
theorem X8 : Ci Tryz.prog 66 = true := by kernel_rfl
theorem Xc : Ci Tryz.prog 67 = true := by kernel_rfl
theorem Xz : Ci Tryz.prog 68 = true := by kernel_rfl
theorem Ye : Ci Tryz.prog 69 = true := by kernel_rfl
theorem Xp : Ci Tryz.prog 70 = true := by kernel_rfl
theorem XT : Ci Tryz.prog 71 = true := by kernel_rfl
theorem XL : Ci Tryz.prog 72 = true := by kernel_rfl
theorem Yq : Ci Tryz.prog 73 = true := by kernel_rfl
theorem Xy : Ci Tryz.prog 74 = true := by kernel_rfl
theorem XM : Ci Tryz.prog 75 = true := by kernel_rfl
theorem X1 : Ci Tryz.prog 76 = true := by kernel_rfl
theorem XZ : Ci Tryz.prog 77 = true := by kernel_rfl
theorem XG : Ci Tryz.prog 78 = true := by kernel_rfl
theorem Yf : Ci Tryz.prog 79 = true := by kernel_rfl
theorem YN : Ci Tryz.prog 8 = true := by kernel_rfl
theorem Ya : Ci Tryz.prog 80 = true := by kernel_rfl
theorem Yi : Ci Tryz.prog 81 = true := by kernel_rfl
theorem XU : Ci Tryz.prog 95 = true := by kernel_rfl
theorem XE : Ci Tryz.prog 96 = true := by kernel_rfl
theorem X7 : Ci Tryz.prog 97 = true := by kernel_rfl
theorem Yj : Ci Tryz.prog 98 = true := by kernel_rfl
theorem XV : Ci Tryz.prog 99 = true := by kernel_rfl
theorem Kj : agD Tryz.prog 104 = some false := by kernel_rfl
theorem Gw : agD Tryz.prog 114 = some false := by kernel_rfl
theorem Gk : agD Tryz.prog 116 = some true := by kernel_rfl
theorem MN : agD Tryz.prog 150 = some false := by kernel_rfl
theorem Ky : agD Tryz.prog 199 = some false := by kernel_rfl
theorem NP : agD Tryz.prog 201 = some true := by kernel_rfl
theorem O7 : agD Tryz.prog 21 = some false := by kernel_rfl
theorem R9 : agD Tryz.prog 221 = some true := by kernel_rfl
theorem Bp : agD Tryz.prog 23 = some true := by kernel_rfl
theorem DV : agD Tryz.prog 24 = some false := by kernel_rfl
theorem Ef : agD Tryz.prog 25 = some false := by kernel_rfl
theorem Be : agD Tryz.prog 27 = some true := by kernel_rfl
theorem CC : agD Tryz.prog 3 = some false := by kernel_rfl
theorem HF : agD Tryz.prog 32 = some false := by kernel_rfl
theorem L2 : agD Tryz.prog 4 = some false := by kernel_rfl
theorem O6 : agD Tryz.prog 46 = some false := by kernel_rfl
theorem Jv : agD Tryz.prog 49 = some true := by kernel_rfl
theorem R4 : agD Tryz.prog 5 = some false := by kernel_rfl
theorem Mi : agD Tryz.prog 56 = some true := by kernel_rfl
theorem F7 : agD Tryz.prog 64 = some false := by kernel_rfl
theorem D2 : agD Tryz.prog 69 = some true := by kernel_rfl
theorem Pb : agD Tryz.prog 71 = some false := by kernel_rfl
theorem EC : agD Tryz.prog 73 = some true := by kernel_rfl
theorem By : agD Tryz.prog 9 = some false := by kernel_rfl
theorem Nd : elD Tryz.prog 150 = some (2, 32, [.snil, .bool false]) := by kernel_rfl
theorem MP : elD Tryz.prog 199 = some (1, 16, [.cplx .f64 0 0]) := by kernel_rfl
theorem KU : elD Tryz.prog 222 = some (2, 8, [.int .i32 0, .int .i32 0]) := by kernel_rfl
theorem Mm : elD Tryz.prog 24 = some (3, 48, [.str [], .str [], .str []]) := by kernel_rfl
theorem F5 : elD Tryz.prog 25 = some (6, 104, [.int .i64 0, .str [], .str [], .snil, .snil, .str []]) := by kernel_rfl
theorem Jy : elD Tryz.prog 31 = some (4, 64, [.snil, .bool false, .str [], .str []]) := by kernel_rfl
theorem EX : elD Tryz.prog 46 = some (1, 8, [.int .i64 0]) := by kernel_rfl
theorem F9 : elD Tryz.prog 64 = some (6, 80, [.bool false, .bool false, .str [], .str [], .str [], .snil]) := by kernel_rfl
theorem F3 : elD Tryz.prog 70 = some (7, 128, [.snil, .int .i64 0, .str [], .str [], .snil, .snil, .str []]) := by kernel_rfl
theorem Cs : elD Tryz.prog 71 = some (6, 80, [.int .u8 0, .int .i64 0, .str [], .str [], .str [], .cplx .f64 0 0]) := by kernel_rfl
theorem Kt : faD Tryz.prog 182 = some .f64 := by kernel_rfl
theorem NX : fdD Tryz.prog 106 0 = some (0, 9) := by kernel_rfl
theorem KC : fdD Tryz.prog 106 1 = some (1, 3) := by kernel_rfl
theorem KF : fdD Tryz.prog 116 0 = some (0, 5) := by kernel_rfl
theorem Ow : fdD Tryz.prog 116 1 = some (1, 3) := by kernel_rfl
theorem Kq : fdD Tryz.prog 116 2 = some (2, 23) := by kernel_rfl
theorem JO : fdD Tryz.prog 116 3 = some (4, 9) := by kernel_rfl
theorem KG : fdD Tryz.prog 116 4 = some (5, 114) := by kernel_rfl
theorem OI : fdD Tryz.prog 195 0 = some (0, 9) := by kernel_rfl
theorem HZ : fdD Tryz.prog 195 1 = some (1, 3) := by kernel_rfl
theorem Oh : fdD Tryz.prog 195 2 = some (2, 150) := by kernel_rfl
theorem Ou : fdD Tryz.prog 195 3 = some (3, 114) := by kernel_rfl
theorem Ia : fdD Tryz.prog 195 4 = some (4, 3) := by kernel_rfl
theorem Ig : fdD Tryz.prog 195 5 = some (5, 4) := by kernel_rfl
theorem N6 : fdD Tryz.prog 201 0 = some (0, 199) := by kernel_rfl
theorem KS : fdD Tryz.prog 201 1 = some (1, 4) := by kernel_rfl
theorem OG : fdD Tryz.prog 221 0 = some (0, 21) := by kernel_rfl
theorem OH : fdD Tryz.prog 221 1 = some (1, 21) := by kernel_rfl
theorem Jb : fdD Tryz.prog 23 0 = some (0, 9) := by kernel_rfl
theorem HD : fdD Tryz.prog 23 1 = some (1, 9) := by kernel_rfl
theorem B3 : fdD Tryz.prog 27 0 = some (0, 3) := by kernel_rfl
theorem ES : fdD Tryz.prog 27 1 = some (1, 23) := by kernel_rfl
theorem CU : fdD Tryz.prog 27 2 = some (3, 24) := by kernel_rfl
theorem Dt : fdD Tryz.prog 27 3 = some (4, 25) := by kernel_rfl
theorem Cp : fdD Tryz.prog 27 4 = some (5, 9) := by kernel_rfl
theorem PC : fdD Tryz.prog 49 0 = some (0, 46) := by kernel_rfl
theorem PH : fdD Tryz.prog 49 1 = some (1, 4) := by kernel_rfl
theorem Qn : fdD Tryz.prog 49 2 = some (2, 23) := by kernel_rfl
theorem IS : fdD Tryz.prog 56 0 = some (0, 23) := by kernel_rfl
theorem HE : fdD Tryz.prog 56 1 = some (2, 9) := by kernel_rfl
theorem LI : fdD Tryz.prog 69 0 = some (0, 46) := by kernel_rfl
theorem Qd : fdD Tryz.prog 69 1 = some (1, 27) := by kernel_rfl
theorem Qc : fdD Tryz.prog 73 0 = some (0, 4) := by kernel_rfl
theorem Ja : fdD Tryz.prog 73 1 = some (1, 4) := by kernel_rfl
theorem Gv : fdD Tryz.prog 73 2 = some (2, 9) := by kernel_rfl
theorem Gx : fdD Tryz.prog 73 3 = some (3, 23) := by kernel_rfl
theorem LK : fdD Tryz.prog 73 4 = some (5, 71) := by kernel_rfl
theorem Kh : kiD Tryz.prog 182 = none := by kernel_rfl
theorem TY : kiD Tryz.prog 3 = some .i64 := by kernel_rfl
theorem T2 : kiD Tryz.prog 5 = some .u8 := by kernel_rfl
theorem Qu : Dj Tryz.prog 150 = true := by kernel_rfl
theorem Rj : Dj Tryz.prog 199 = true := by kernel_rfl
theorem Sr : Dj Tryz.prog 24 = true := by kernel_rfl
theorem MB : Dj Tryz.prog 25 = true := by kernel_rfl
theorem Pz : Dj Tryz.prog 31 = true := by kernel_rfl
theorem Ju : Dj Tryz.prog 46 = true := by kernel_rfl
theorem JC : Dj Tryz.prog 64 = true := by kernel_rfl
theorem IC : Dj Tryz.prog 70 = true := by kernel_rfl
theorem EZ : Dj Tryz.prog 71 = true := by kernel_rfl
theorem QZ : plD Tryz.prog 106 = some [(0, 1), (1, 1)] := by kernel_rfl
theorem RC : plD Tryz.prog 116 = some [(0, 1), (1, 1), (2, 2), (4, 1), (5, 1)] := by kernel_rfl
theorem Rs : plD Tryz.prog 195 = some [(0, 1), (1, 1), (2, 1), (3, 1), (4, 1), (5, 1)] := by kernel_rfl
theorem QA : plD Tryz.prog 201 = some [(0, 1), (1, 1)] := by kernel_rfl
theorem Cg : plD Tryz.prog 221 = some [(0, 1), (1, 1)] := by kernel_rfl
theorem DY : plD Tryz.prog 23 = some [(0, 1), (1, 1)] := by kernel_rfl
theorem Jz : plD Tryz.prog 27 = some [(0, 1), (1, 2), (3, 1), (4, 1), (5, 1)] := by kernel_rfl
theorem PB : plD Tryz.prog 49 = some [(0, 1), (1, 1), (2, 2)] := by kernel_rfl
theorem Ps : plD Tryz.prog 56 = some [(0, 2), (2, 1)] := by kernel_rfl
theorem Mp : plD Tryz.prog 69 = some [(0, 1), (1, 6)] := by kernel_rfl
theorem C4 : Tryz.prog.eqGuardType Tryz.prog.depth 23 = false := by kernel_rfl
theorem C5 : sfD Tryz.prog 23 = some [(0, 9), (1, 9)] := by kernel_rfl
theorem Ii : slD Tryz.prog 100 = some 5 := by kernel_rfl
theorem Fd : slD Tryz.prog 150 = some 201 := by kernel_rfl
theorem GC : slD Tryz.prog 199 = some 114 := by kernel_rfl
theorem M0 : slD Tryz.prog 222 = some 221 := by kernel_rfl
theorem GI : slD Tryz.prog 24 = some 56 := by kernel_rfl
theorem D3 : slD Tryz.prog 25 = some 27 := by kernel_rfl
theorem FC : slD Tryz.prog 31 = some 49 := by kernel_rfl
theorem DU : slD Tryz.prog 46 = some 3 := by kernel_rfl
theorem GF : slD Tryz.prog 64 = some 73 := by kernel_rfl
theorem CA : slD Tryz.prog 70 = some 69 := by kernel_rfl
theorem O4 : slD Tryz.prog 71 = some 116 := by kernel_rfl
theorem Bb : stD Tryz.prog 9 = true := by kernel_rfl
theorem Io : szD Tryz.prog 104 = some 1 := by kernel_rfl
theorem Cv : szD Tryz.prog 114 = some 1 := by kernel_rfl
theorem DK : szD Tryz.prog 116 = some 6 := by kernel_rfl
theorem In : szD Tryz.prog 150 = some 1 := by kernel_rfl
theorem Hb : szD Tryz.prog 199 = some 1 := by kernel_rfl
theorem Fp : szD Tryz.prog 201 = some 2 := by kernel_rfl
theorem Jx : szD Tryz.prog 21 = some 1 := by kernel_rfl
theorem KX : szD Tryz.prog 221 = some 2 := by kernel_rfl
theorem AD : szD Tryz.prog 23 = some 2 := by kernel_rfl
theorem Bt : szD Tryz.prog 24 = some 1 := by kernel_rfl
theorem BG : szD Tryz.prog 25 = some 1 := by kernel_rfl
theorem AC : szD Tryz.prog 27 = some 6 := by kernel_rfl
theorem AF : szD Tryz.prog 3 = some 1 := by kernel_rfl
theorem FE : szD Tryz.prog 32 = some 1 := by kernel_rfl
theorem Dh : szD Tryz.prog 4 = some 1 := by kernel_rfl
theorem Il : szD Tryz.prog 46 = some 1 := by kernel_rfl
theorem EU : szD Tryz.prog 49 = some 4 := by kernel_rfl
theorem Hu : szD Tryz.prog 5 = some 1 := by kernel_rfl
theorem EE : szD Tryz.prog 56 = some 3 := by kernel_rfl
theorem Di : szD Tryz.prog 64 = some 1 := by kernel_rfl
theorem Bk : szD Tryz.prog 69 = some 7 := by kernel_rfl
theorem DC : szD Tryz.prog 71 = some 1 := by kernel_rfl
theorem C3 : szD Tryz.prog 73 = some 6 := by kernel_rfl
theorem AE : szD Tryz.prog 9 = some 1 := by kernel_rfl
theorem N1 : (Tryz.prog.underlying 3).isSome = true := by kernel_rfl
theorem Uq : (Tryz.prog.underlying 5).isSome = true := by kernel_rfl
theorem RN : zcD Tryz.prog 104 = some [.nilp] := by kernel_rfl
theorem Rf : zcD Tryz.prog 106 = some [.str [], .int .i64 0] := by kernel_rfl
theorem IP : zcD Tryz.prog 116 = some [.int .u8 0, .int .i64 0, .str [], .str [], .str [], .cplx .f64 0 0] := by kernel_rfl
theorem Rx : zcD Tryz.prog 195 = some [.str [], .int .i64 0, .snil, .cplx .f64 0 0, .int .i64 0, .bool false] := by kernel_rfl
theorem JS : zcD Tryz.prog 201 = some [.snil, .bool false] := by kernel_rfl
theorem B0 : zcD Tryz.prog 221 = some [.int .i32 0, .int .i32 0] := by kernel_rfl
theorem Co : zcD Tryz.prog 23 = some [.str [], .str []] := by kernel_rfl
theorem CW : zcD Tryz.prog 27 = some [.int .i64 0, .str [], .str [], .snil, .snil, .str []] := by kernel_rfl
theorem TZ : zcD Tryz.prog 3 = some [.int .i64 0] := by kernel_rfl
theorem Sy : zcD Tryz.prog 32 = some [.int .i64 0] := by kernel_rfl
theorem L9 : zcD Tryz.prog 49 = some [.snil, .bool false, .str [], .str []] := by kernel_rfl
theorem JD : zcD Tryz.prog 56 = some [.str [], .str [], .str []] := by kernel_rfl
theorem Si : zcD Tryz.prog 64 = some [.snil] := by kernel_rfl
theorem FA : zcD Tryz.prog 69 = some [.snil, .int .i64 0, .str [], .str [], .snil, .snil, .str []] := by kernel_rfl
theorem Mg : zcD Tryz.prog 73 = some [.bool false, .bool false, .str [], .str [], .str [], .snil] := by kernel_rfl
end Go.Proofs.YtmnbjcpikllknaaGreatDoor
