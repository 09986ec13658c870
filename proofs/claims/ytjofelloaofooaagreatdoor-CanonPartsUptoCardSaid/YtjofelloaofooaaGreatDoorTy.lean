/- Facts on the types and functions of the program, each by one Gl of the kernel. No condition. -/
import Derived.Test.YtjofelloaofooaaGreatDoorEng19
set_option linter.unusedVariables false
namespace Go.Proofs.YtjofelloaofooaaGreatDoor
open Go.Proofs.Tryz
theorem Xw : Ds prog 10 = true := by kernel_rfl
theorem UN : Ds prog 105 = true := by kernel_rfl
theorem VJ : Ds prog 107 = true := by kernel_rfl
theorem UU : Ds prog 108 = true := by kernel_rfl
theorem Ux : Ds prog 111 = true := by kernel_rfl
theorem Vr : Ds prog 112 = true := by kernel_rfl
theorem U0 : Ds prog 114 = true := by kernel_rfl
theorem UG : Ds prog 119 = true := by kernel_rfl
theorem Yh : Ds prog 12 = true := by kernel_rfl
theorem VX : Ds prog 136 = true := by kernel_rfl
theorem W9 : Ds prog 14 = true := by kernel_rfl
theorem Vx : Ds prog 148 = true := by kernel_rfl
theorem Vc : Ds prog 154 = true := by kernel_rfl
theorem VU : Ds prog 158 = true := by kernel_rfl
theorem Xn : Ds prog 16 = true := by kernel_rfl
theorem UM : Ds prog 163 = true := by kernel_rfl
theorem Xj : Ds prog 19 = true := by kernel_rfl
theorem Vz : Ds prog 191 = true := by kernel_rfl
theorem Xf : Ds prog 25 = true := by kernel_rfl
theorem XY : Ds prog 26 = true := by kernel_rfl
theorem Xk : Ds prog 27 = true := by kernel_rfl
theorem UK : Ds prog 30 = true := by kernel_rfl
theorem Xe : Ds prog 31 = true := by kernel_rfl
theorem XO : Ds prog 32 = true := by kernel_rfl
theorem Xr : Ds prog 33 = true := by kernel_rfl
theorem XP : Ds prog 34 = true := by kernel_rfl
theorem XX : Ds prog 35 = true := by kernel_rfl
theorem WJ : Ds prog 36 = true := by kernel_rfl
theorem XJ : Ds prog 37 = true := by kernel_rfl
theorem Xp : Ds prog 38 = true := by kernel_rfl
theorem Z4 : Ds prog 4 = true := by kernel_rfl
theorem XR : Ds prog 45 = true := by kernel_rfl
theorem X8 : Ds prog 47 = true := by kernel_rfl
theorem W7 : Ds prog 61 = true := by kernel_rfl
theorem W6 : Ds prog 62 = true := by kernel_rfl
theorem XA : Ds prog 65 = true := by kernel_rfl
theorem XZ : Ds prog 66 = true := by kernel_rfl
theorem WT : Ds prog 67 = true := by kernel_rfl
theorem XV : Ds prog 68 = true := by kernel_rfl
theorem Xa : Ds prog 69 = true := by kernel_rfl
theorem WB : Ds prog 70 = true := by kernel_rfl
theorem X2 : Ds prog 71 = true := by kernel_rfl
theorem XU : Ds prog 72 = true := by kernel_rfl
theorem XD : Ds prog 73 = true := by kernel_rfl
theorem Yb : Ds prog 74 = true := by kernel_rfl
theorem Xx : Ds prog 75 = true := by kernel_rfl
theorem Xs : Ds prog 76 = true := by kernel_rfl
theorem W4 : Ds prog 77 = true := by kernel_rfl
theorem X7 : Ds prog 79 = true := by kernel_rfl
theorem Zh : Ds prog 8 = true := by kernel_rfl
theorem XW : Ds prog 81 = true := by kernel_rfl
theorem Wy : Ds prog 93 = true := by kernel_rfl
theorem Xu : Ds prog 94 = true := by kernel_rfl
theorem Od : agD prog 195 = some true := by kernel_rfl
theorem MD : agD prog 21 = some false := by kernel_rfl
theorem EB : agD prog 23 = some true := by kernel_rfl
theorem Eo : agD prog 24 = some false := by kernel_rfl
theorem Er : agD prog 25 = some false := by kernel_rfl
theorem Bg : agD prog 27 = some true := by kernel_rfl
theorem Eh : agD prog 3 = some false := by kernel_rfl
theorem M8 : agD prog 36 = some false := by kernel_rfl
theorem Kg : agD prog 47 = some true := by kernel_rfl
theorem A8 : agD prog 9 = some false := by kernel_rfl
theorem IS : elD prog 196 = some (2, 8, [.int .i32 0, .int .i32 0]) := by kernel_rfl
theorem OQ : elD prog 206 = some (1, 8, [.int .i64 0]) := by kernel_rfl
theorem QH : elD prog 24 = some (3, 48, [.str [], .str [], .str []]) := by kernel_rfl
theorem Gp : elD prog 25 = some (6, 104, [.int .i64 0, .str [], .str [], .snil, .snil, .str []]) := by kernel_rfl
theorem QI : elD prog 30 = some (1, 1, [.int .u8 0]) := by kernel_rfl
theorem C1 : elD prog 36 = some (1, 16, [.str []]) := by kernel_rfl
theorem Mm : fdD prog 195 0 = some (0, 21) := by kernel_rfl
theorem LU : fdD prog 195 1 = some (1, 21) := by kernel_rfl
theorem Fl : fdD prog 23 0 = some (0, 9) := by kernel_rfl
theorem GC : fdD prog 23 1 = some (1, 9) := by kernel_rfl
theorem CT : fdD prog 27 0 = some (0, 3) := by kernel_rfl
theorem Df : fdD prog 27 1 = some (1, 23) := by kernel_rfl
theorem Di : fdD prog 27 2 = some (3, 24) := by kernel_rfl
theorem De : fdD prog 27 3 = some (4, 25) := by kernel_rfl
theorem Bw : fdD prog 27 4 = some (5, 9) := by kernel_rfl
theorem Jn : fdD prog 47 0 = some (0, 23) := by kernel_rfl
theorem HA : fdD prog 47 1 = some (2, 9) := by kernel_rfl
theorem Gz : fdD prog 53 0 = some (0, 51) := by kernel_rfl
theorem Jp : fdD prog 53 1 = some (2, 36) := by kernel_rfl
theorem O3 : kiD prog 129 = some .u64 := by kernel_rfl
theorem So : kiD prog 3 = some .i64 := by kernel_rfl
theorem Kh : kiD prog 5 = some .u8 := by kernel_rfl
theorem M6 : Fd prog 25 = true := by kernel_rfl
theorem Qn : Fd prog 30 = true := by kernel_rfl
theorem MO : Fd prog 36 = true := by kernel_rfl
theorem BQ : plD prog 195 = some [(0, 1), (1, 1)] := by kernel_rfl
theorem Gx : plD prog 23 = some [(0, 1), (1, 1)] := by kernel_rfl
theorem Hb : plD prog 27 = some [(0, 1), (1, 2), (3, 1), (4, 1), (5, 1)] := by kernel_rfl
theorem Q1 : plD prog 47 = some [(0, 2), (2, 1)] := by kernel_rfl
theorem Q3 : plD prog 53 = some [(0, 2), (2, 1)] := by kernel_rfl
theorem Gu : prog.eqGuardType prog.depth 23 = false := by kernel_rfl
theorem Gn : sfD prog 23 = some [(0, 9), (1, 9)] := by kernel_rfl
theorem Ll : slD prog 196 = some 195 := by kernel_rfl
theorem KX : slD prog 206 = some 3 := by kernel_rfl
theorem Gv : slD prog 24 = some 47 := by kernel_rfl
theorem Ep : slD prog 25 = some 27 := by kernel_rfl
theorem Gw : slD prog 30 = some 5 := by kernel_rfl
theorem Dn : slD prog 36 = some 9 := by kernel_rfl
theorem C2 : stD prog 9 = true := by kernel_rfl
theorem IW : szD prog 195 = some 2 := by kernel_rfl
theorem H8 : szD prog 21 = some 1 := by kernel_rfl
theorem BK : szD prog 23 = some 2 := by kernel_rfl
theorem B0 : szD prog 24 = some 1 := by kernel_rfl
theorem BZ : szD prog 25 = some 1 := by kernel_rfl
theorem AG : szD prog 27 = some 6 := by kernel_rfl
theorem BV : szD prog 3 = some 1 := by kernel_rfl
theorem Ia : szD prog 36 = some 1 := by kernel_rfl
theorem Es : szD prog 47 = some 3 := by kernel_rfl
theorem TH : szD prog 5 = some 1 := by kernel_rfl
theorem Ij : szD prog 51 = some 2 := by kernel_rfl
theorem Ap : szD prog 9 = some 1 := by kernel_rfl
theorem PT : (prog.underlying 129).isSome = true := by kernel_rfl
theorem Te : (prog.underlying 3).isSome = true := by kernel_rfl
theorem BD : zcD prog 195 = some [.int .i32 0, .int .i32 0] := by kernel_rfl
theorem GE : zcD prog 23 = some [.str [], .str []] := by kernel_rfl
theorem Dq : zcD prog 27 = some [.int .i64 0, .str [], .str [], .snil, .snil, .str []] := by kernel_rfl
theorem JD : zcD prog 47 = some [.str [], .str [], .str []] := by kernel_rfl
theorem Q7 : zcD prog 53 = some [.nilp, .snil, .snil] := by kernel_rfl
theorem S6 : zcD prog 9 = some [.str []] := by kernel_rfl
end Go.Proofs.YtjofelloaofooaaGreatDoor
