/- Facts on the types and functions of the program, each by one GD of the kernel. No condition. -/
import Derived.Test.YtjofelloaofooaaGreatDoorEng19
set_option linter.unusedVariables false
namespace Go.Proofs.YtjofelloaofooaaGreatDoor
open Go.Proofs.Tryz
theorem Ze : Dx prog 10 = true := by kernel_rfl
theorem Wm : Dx prog 105 = true := by kernel_rfl
theorem Xu : Dx prog 107 = true := by kernel_rfl
theorem Xs : Dx prog 108 = true := by kernel_rfl
theorem W6 : Dx prog 111 = true := by kernel_rfl
theorem Xg : Dx prog 112 = true := by kernel_rfl
theorem V1 : Dx prog 114 = true := by kernel_rfl
theorem W0 : Dx prog 119 = true := by kernel_rfl
theorem Yl : Dx prog 12 = true := by kernel_rfl
theorem WE : Dx prog 136 = true := by kernel_rfl
theorem Ye : Dx prog 14 = true := by kernel_rfl
theorem VF : Dx prog 148 = true := by kernel_rfl
theorem Y1 : Dx prog 15 = true := by kernel_rfl
theorem Wr : Dx prog 154 = true := by kernel_rfl
theorem WK : Dx prog 158 = true := by kernel_rfl
theorem Y4 : Dx prog 16 = true := by kernel_rfl
theorem VM : Dx prog 163 = true := by kernel_rfl
theorem Zc : Dx prog 17 = true := by kernel_rfl
theorem Yw : Dx prog 19 = true := by kernel_rfl
theorem VP : Dx prog 191 = true := by kernel_rfl
theorem YU : Dx prog 25 = true := by kernel_rfl
theorem Zq : Dx prog 26 = true := by kernel_rfl
theorem Zt : Dx prog 27 = true := by kernel_rfl
theorem Zi : Dx prog 29 = true := by kernel_rfl
theorem W2 : Dx prog 30 = true := by kernel_rfl
theorem Yh : Dx prog 31 = true := by kernel_rfl
theorem YV : Dx prog 32 = true := by kernel_rfl
theorem YY : Dx prog 33 = true := by kernel_rfl
theorem XZ : Dx prog 34 = true := by kernel_rfl
theorem Za : Dx prog 35 = true := by kernel_rfl
theorem Yv : Dx prog 36 = true := by kernel_rfl
theorem Yx : Dx prog 37 = true := by kernel_rfl
theorem XX : Dx prog 38 = true := by kernel_rfl
theorem Y7 : Dx prog 39 = true := by kernel_rfl
theorem Yo : Dx prog 40 = true := by kernel_rfl
theorem YT : Dx prog 45 = true := by kernel_rfl
theorem YS : Dx prog 47 = true := by kernel_rfl
theorem Abw : Dx prog 5 = true := by kernel_rfl
theorem X4 : Dx prog 61 = true := by kernel_rfl
theorem Zv : Dx prog 62 = true := by kernel_rfl
theorem X7 : Dx prog 65 = true := by kernel_rfl
theorem Zd : Dx prog 66 = true := by kernel_rfl
theorem YK : Dx prog 67 = true := by kernel_rfl
theorem Zn : Dx prog 68 = true := by kernel_rfl
theorem YD : Dx prog 69 = true := by kernel_rfl
theorem YQ : Dx prog 70 = true := by kernel_rfl
theorem Yg : Dx prog 71 = true := by kernel_rfl
theorem Zo : Dx prog 72 = true := by kernel_rfl
theorem Ys : Dx prog 73 = true := by kernel_rfl
theorem Zk : Dx prog 74 = true := by kernel_rfl
theorem Zm : Dx prog 75 = true := by kernel_rfl
theorem Zz : Dx prog 76 = true := by kernel_rfl
theorem Yf : Dx prog 77 = true := by kernel_rfl
theorem Yq : Dx prog 79 = true := by kernel_rfl
theorem Abs : Dx prog 8 = true := by kernel_rfl
theorem YI : Dx prog 81 = true := by kernel_rfl
theorem YA : Dx prog 93 = true := by kernel_rfl
theorem Zp : Dx prog 94 = true := by kernel_rfl
theorem Pl : agD prog 195 = some true := by kernel_rfl
theorem Ns : agD prog 21 = some false := by kernel_rfl
theorem Dm : agD prog 23 = some true := by kernel_rfl
theorem DH : agD prog 24 = some false := by kernel_rfl
theorem C9 : agD prog 25 = some false := by kernel_rfl
theorem A2 : agD prog 27 = some true := by kernel_rfl
theorem DS : agD prog 3 = some false := by kernel_rfl
theorem NM : agD prog 36 = some false := by kernel_rfl
theorem Ge : agD prog 47 = some true := by kernel_rfl
theorem AV : agD prog 9 = some false := by kernel_rfl
theorem Pt : boD prog 4 = true := by kernel_rfl
theorem Js : elD prog 196 = some (2, 8, [.int .i32 0, .int .i32 0]) := by kernel_rfl
theorem P6 : elD prog 206 = some (1, 8, [.int .i64 0]) := by kernel_rfl
theorem Ri : elD prog 24 = some (3, 48, [.str [], .str [], .str []]) := by kernel_rfl
theorem IB : elD prog 25 = some (6, 104, [.int .i64 0, .str [], .str [], .snil, .snil, .str []]) := by kernel_rfl
theorem Dp : elD prog 36 = some (1, 16, [.str []]) := by kernel_rfl
theorem MY : fdD prog 195 0 = some (0, 21) := by kernel_rfl
theorem Mu : fdD prog 195 1 = some (1, 21) := by kernel_rfl
theorem FV : fdD prog 23 0 = some (0, 9) := by kernel_rfl
theorem G6 : fdD prog 23 1 = some (1, 9) := by kernel_rfl
theorem B1 : fdD prog 27 0 = some (0, 3) := by kernel_rfl
theorem Ck : fdD prog 27 1 = some (1, 23) := by kernel_rfl
theorem Co : fdD prog 27 2 = some (3, 24) := by kernel_rfl
theorem BQ : fdD prog 27 3 = some (4, 25) := by kernel_rfl
theorem Bg : fdD prog 27 4 = some (5, 9) := by kernel_rfl
theorem JQ : fdD prog 47 0 = some (0, 23) := by kernel_rfl
theorem H6 : fdD prog 47 1 = some (2, 9) := by kernel_rfl
theorem Hc : fdD prog 53 0 = some (0, 51) := by kernel_rfl
theorem Kd : fdD prog 53 1 = some (2, 36) := by kernel_rfl
theorem Ps : kiD prog 129 = some .u64 := by kernel_rfl
theorem U0 : kiD prog 3 = some .i64 := by kernel_rfl
theorem Nb : kiD prog 5 = some .u8 := by kernel_rfl
theorem RG : Ga prog 25 = true := by kernel_rfl
theorem N5 : Ga prog 36 = true := by kernel_rfl
theorem Cc : plD prog 195 = some [(0, 1), (1, 1)] := by kernel_rfl
theorem GZ : plD prog 23 = some [(0, 1), (1, 1)] := by kernel_rfl
theorem KO : plD prog 27 = some [(0, 1), (1, 2), (3, 1), (4, 1), (5, 1)] := by kernel_rfl
theorem R7 : plD prog 47 = some [(0, 2), (2, 1)] := by kernel_rfl
theorem Rs : plD prog 53 = some [(0, 2), (2, 1)] := by kernel_rfl
theorem EO : prog.eqGuardType prog.depth 23 = false := by kernel_rfl
theorem ID : prog.eqGuardType prog.depth 47 = false := by kernel_rfl
theorem Ea : sfD prog 23 = some [(0, 9), (1, 9)] := by kernel_rfl
theorem IL : sfD prog 47 = some [(0, 23), (2, 9)] := by kernel_rfl
theorem LU : slD prog 196 = some 195 := by kernel_rfl
theorem LQ : slD prog 206 = some 3 := by kernel_rfl
theorem ER : slD prog 24 = some 47 := by kernel_rfl
theorem DG : slD prog 25 = some 27 := by kernel_rfl
theorem HL : slD prog 30 = some 5 := by kernel_rfl
theorem DJ : slD prog 36 = some 9 := by kernel_rfl
theorem BS : stD prog 9 = true := by kernel_rfl
theorem I8 : szD prog 195 = some 2 := by kernel_rfl
theorem IE : szD prog 21 = some 1 := by kernel_rfl
theorem A9 : szD prog 23 = some 2 := by kernel_rfl
theorem Bh : szD prog 24 = some 1 := by kernel_rfl
theorem A8 : szD prog 25 = some 1 := by kernel_rfl
theorem As : szD prog 27 = some 6 := by kernel_rfl
theorem Bo : szD prog 3 = some 1 := by kernel_rfl
theorem IK : szD prog 36 = some 1 := by kernel_rfl
theorem CO : szD prog 47 = some 3 := by kernel_rfl
theorem Uu : szD prog 5 = some 1 := by kernel_rfl
theorem IF : szD prog 51 = some 2 := by kernel_rfl
theorem Al : szD prog 9 = some 1 := by kernel_rfl
theorem PD : (prog.underlying 129).isSome = true := by kernel_rfl
theorem UN : (prog.underlying 3).isSome = true := by kernel_rfl
theorem BV : zcD prog 195 = some [.int .i32 0, .int .i32 0] := by kernel_rfl
theorem GX : zcD prog 23 = some [.str [], .str []] := by kernel_rfl
theorem D8 : zcD prog 27 = some [.int .i64 0, .str [], .str [], .snil, .snil, .str []] := by kernel_rfl
theorem KG : zcD prog 47 = some [.str [], .str [], .str []] := by kernel_rfl
theorem RD : zcD prog 53 = some [.nilp, .snil, .snil] := by kernel_rfl
theorem TV : zcD prog 9 = some [.str []] := by kernel_rfl
end Go.Proofs.YtjofelloaofooaaGreatDoor
