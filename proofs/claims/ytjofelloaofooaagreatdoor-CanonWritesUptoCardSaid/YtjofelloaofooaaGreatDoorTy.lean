/- Facts on the types and functions of the program, each by one G3 of the kernel. No condition. -/
import Derived.Test.YtjofelloaofooaaGreatDoorEng19
set_option linter.unusedVariables false
namespace Go.Proofs.YtjofelloaofooaaGreatDoor
open Go.Proofs.Tryz
theorem ZS : Dd prog 10 = true := by kernel_rfl
theorem YI : Dd prog 100 = true := by kernel_rfl
theorem Xz : Dd prog 101 = true := by kernel_rfl
theorem YQ : Dd prog 102 = true := by kernel_rfl
theorem Y9 : Dd prog 105 = true := by kernel_rfl
theorem Yj : Dd prog 107 = true := by kernel_rfl
theorem Yl : Dd prog 108 = true := by kernel_rfl
theorem Acb : Dd prog 11 = true := by kernel_rfl
theorem YJ : Dd prog 111 = true := by kernel_rfl
theorem Yw : Dd prog 112 = true := by kernel_rfl
theorem XZ : Dd prog 114 = true := by kernel_rfl
theorem YR : Dd prog 119 = true := by kernel_rfl
theorem Z0 : Dd prog 12 = true := by kernel_rfl
theorem Abi : Dd prog 13 = true := by kernel_rfl
theorem Zc : Dd prog 136 = true := by kernel_rfl
theorem Zg : Dd prog 138 = true := by kernel_rfl
theorem Yi : Dd prog 139 = true := by kernel_rfl
theorem Aa6 : Dd prog 14 = true := by kernel_rfl
theorem Zh : Dd prog 140 = true := by kernel_rfl
theorem YV : Dd prog 141 = true := by kernel_rfl
theorem XF : Dd prog 148 = true := by kernel_rfl
theorem Aca : Dd prog 15 = true := by kernel_rfl
theorem YN : Dd prog 154 = true := by kernel_rfl
theorem XD : Dd prog 158 = true := by kernel_rfl
theorem Aa5 : Dd prog 16 = true := by kernel_rfl
theorem Y6 : Dd prog 163 = true := by kernel_rfl
theorem Aa0 : Dd prog 19 = true := by kernel_rfl
theorem X4 : Dd prog 191 = true := by kernel_rfl
theorem YF : Dd prog 193 = true := by kernel_rfl
theorem Ab2 : Dd prog 23 = true := by kernel_rfl
theorem ZH : Dd prog 24 = true := by kernel_rfl
theorem ZG : Dd prog 25 = true := by kernel_rfl
theorem Aal : Dd prog 26 = true := by kernel_rfl
theorem Aau : Dd prog 27 = true := by kernel_rfl
theorem Aaf : Dd prog 28 = true := by kernel_rfl
theorem Aay : Dd prog 29 = true := by kernel_rfl
theorem Aer : Dd prog 3 = true := by kernel_rfl
theorem XS : Dd prog 30 = true := by kernel_rfl
theorem Z9 : Dd prog 31 = true := by kernel_rfl
theorem ZD : Dd prog 32 = true := by kernel_rfl
theorem Aaj : Dd prog 33 = true := by kernel_rfl
theorem Z3 : Dd prog 34 = true := by kernel_rfl
theorem ZL : Dd prog 35 = true := by kernel_rfl
theorem Abb : Dd prog 36 = true := by kernel_rfl
theorem Abq : Dd prog 37 = true := by kernel_rfl
theorem Aac : Dd prog 38 = true := by kernel_rfl
theorem Abv : Dd prog 45 = true := by kernel_rfl
theorem Aa8 : Dd prog 47 = true := by kernel_rfl
theorem Ab8 : Dd prog 49 = true := by kernel_rfl
theorem Aa4 : Dd prog 50 = true := by kernel_rfl
theorem Ab4 : Dd prog 51 = true := by kernel_rfl
theorem Abk : Dd prog 52 = true := by kernel_rfl
theorem Abu : Dd prog 53 = true := by kernel_rfl
theorem Z1 : Dd prog 54 = true := by kernel_rfl
theorem Z4 : Dd prog 55 = true := by kernel_rfl
theorem Z5 : Dd prog 56 = true := by kernel_rfl
theorem Aas : Dd prog 57 = true := by kernel_rfl
theorem Abl : Dd prog 58 = true := by kernel_rfl
theorem Z6 : Dd prog 59 = true := by kernel_rfl
theorem Abg : Dd prog 60 = true := by kernel_rfl
theorem Acd : Dd prog 61 = true := by kernel_rfl
theorem Aaq : Dd prog 62 = true := by kernel_rfl
theorem Aag : Dd prog 65 = true := by kernel_rfl
theorem Ab9 : Dd prog 66 = true := by kernel_rfl
theorem Aa3 : Dd prog 67 = true := by kernel_rfl
theorem Abw : Dd prog 68 = true := by kernel_rfl
theorem Abj : Dd prog 69 = true := by kernel_rfl
theorem Aaa : Dd prog 70 = true := by kernel_rfl
theorem ZA : Dd prog 71 = true := by kernel_rfl
theorem Abh : Dd prog 72 = true := by kernel_rfl
theorem ZK : Dd prog 73 = true := by kernel_rfl
theorem Aaz : Dd prog 74 = true := by kernel_rfl
theorem Aah : Dd prog 75 = true := by kernel_rfl
theorem Abm : Dd prog 76 = true := by kernel_rfl
theorem ZM : Dd prog 77 = true := by kernel_rfl
theorem Abx : Dd prog 79 = true := by kernel_rfl
theorem Ade : Dd prog 8 = true := by kernel_rfl
theorem Aap : Dd prog 81 = true := by kernel_rfl
theorem Aek : Dd prog 9 = true := by kernel_rfl
theorem Abf : Dd prog 93 = true := by kernel_rfl
theorem Aa1 : Dd prog 94 = true := by kernel_rfl
theorem Ab0 : Dd prog 97 = true := by kernel_rfl
theorem Acf : Dd prog 98 = true := by kernel_rfl
theorem Aax : Dd prog 99 = true := by kernel_rfl
theorem Rw : agD prog 195 = some true := by kernel_rfl
theorem OZ : agD prog 21 = some false := by kernel_rfl
theorem De : agD prog 23 = some true := by kernel_rfl
theorem Cm : agD prog 24 = some false := by kernel_rfl
theorem BF : agD prog 25 = some false := by kernel_rfl
theorem At : agD prog 27 = some true := by kernel_rfl
theorem CL : agD prog 3 = some false := by kernel_rfl
theorem Pm : agD prog 36 = some false := by kernel_rfl
theorem R9 : agD prog 4 = some false := by kernel_rfl
theorem Fg : agD prog 47 = some true := by kernel_rfl
theorem R0 : agD prog 5 = some false := by kernel_rfl
theorem AP : agD prog 9 = some false := by kernel_rfl
theorem Kp : arD prog 126 = some (6, 9) := by kernel_rfl
theorem Ee : arD prog 91 = some (7, 4) := by kernel_rfl
theorem Pu : arD prog 92 = some (7, 3) := by kernel_rfl
theorem Kt : elD prog 196 = some (2, 8, [.int .i32 0, .int .i32 0]) := by kernel_rfl
theorem RK : elD prog 206 = some (1, 8, [.int .i64 0]) := by kernel_rfl
theorem Ir : elD prog 24 = some (3, 48, [.str [], .str [], .str []]) := by kernel_rfl
theorem DA : elD prog 25 = some (6, 104, [.int .i64 0, .str [], .str [], .snil, .snil, .str []]) := by kernel_rfl
theorem TU : elD prog 30 = some (1, 1, [.int .u8 0]) := by kernel_rfl
theorem B3 : elD prog 36 = some (1, 16, [.str []]) := by kernel_rfl
theorem Oc : fdD prog 195 0 = some (0, 21) := by kernel_rfl
theorem NV : fdD prog 195 1 = some (1, 21) := by kernel_rfl
theorem FC : fdD prog 23 0 = some (0, 9) := by kernel_rfl
theorem EL : fdD prog 23 1 = some (1, 9) := by kernel_rfl
theorem Bd : fdD prog 27 0 = some (0, 3) := by kernel_rfl
theorem BJ : fdD prog 27 1 = some (1, 23) := by kernel_rfl
theorem Bc : fdD prog 27 2 = some (3, 24) := by kernel_rfl
theorem AZ : fdD prog 27 3 = some (4, 25) := by kernel_rfl
theorem A1 : fdD prog 27 4 = some (5, 9) := by kernel_rfl
theorem LF : fdD prog 47 0 = some (0, 23) := by kernel_rfl
theorem Jz : fdD prog 47 1 = some (2, 9) := by kernel_rfl
theorem Ik : fdD prog 53 0 = some (0, 51) := by kernel_rfl
theorem LC : fdD prog 53 1 = some (2, 36) := by kernel_rfl
theorem Rl : kiD prog 129 = some .u64 := by kernel_rfl
theorem N1 : kiD prog 3 = some .i64 := by kernel_rfl
theorem KX : kiD prog 5 = some .u8 := by kernel_rfl
theorem Mv : Ge prog 24 = true := by kernel_rfl
theorem F9 : Ge prog 25 = true := by kernel_rfl
theorem GY : Ge prog 36 = true := by kernel_rfl
theorem NQ : plD prog 126 = none := by kernel_rfl
theorem C7 : plD prog 195 = some [(0, 1), (1, 1)] := by kernel_rfl
theorem GZ : plD prog 23 = some [(0, 1), (1, 1)] := by kernel_rfl
theorem In : plD prog 27 = some [(0, 1), (1, 2), (3, 1), (4, 1), (5, 1)] := by kernel_rfl
theorem T3 : plD prog 47 = some [(0, 2), (2, 1)] := by kernel_rfl
theorem Ti : plD prog 53 = some [(0, 2), (2, 1)] := by kernel_rfl
theorem TK : plD prog 91 = none := by kernel_rfl
theorem TQ : plD prog 92 = none := by kernel_rfl
theorem Fj : prog.eqGuardType prog.depth 23 = false := by kernel_rfl
theorem O2 : prog.eqGuardType prog.depth 47 = false := by kernel_rfl
theorem EZ : sfD prog 23 = some [(0, 9), (1, 9)] := by kernel_rfl
theorem OX : sfD prog 47 = some [(0, 23), (2, 9)] := by kernel_rfl
theorem NO : slD prog 196 = some 195 := by kernel_rfl
theorem Nc : slD prog 206 = some 3 := by kernel_rfl
theorem DZ : slD prog 24 = some 47 := by kernel_rfl
theorem Ck : slD prog 25 = some 27 := by kernel_rfl
theorem Ff : slD prog 30 = some 5 := by kernel_rfl
theorem CB : slD prog 36 = some 9 := by kernel_rfl
theorem Bs : stD prog 9 = true := by kernel_rfl
theorem K1 : szD prog 195 = some 2 := by kernel_rfl
theorem Ki : szD prog 21 = some 1 := by kernel_rfl
theorem AV : szD prog 23 = some 2 := by kernel_rfl
theorem AD : szD prog 24 = some 1 := by kernel_rfl
theorem Au : szD prog 25 = some 1 := by kernel_rfl
theorem Aj : szD prog 27 = some 6 := by kernel_rfl
theorem AQ : szD prog 3 = some 1 := by kernel_rfl
theorem Kh : szD prog 36 = some 1 := by kernel_rfl
theorem DB : szD prog 4 = some 1 := by kernel_rfl
theorem BB : szD prog 47 = some 3 := by kernel_rfl
theorem IQ : szD prog 5 = some 1 := by kernel_rfl
theorem J1 : szD prog 51 = some 2 := by kernel_rfl
theorem Ak : szD prog 9 = some 1 := by kernel_rfl
theorem SP : szD prog 91 = some 7 := by kernel_rfl
theorem Sh : (prog.underlying 129).isSome = true := by kernel_rfl
theorem RU : (prog.underlying 3).isSome = true := by kernel_rfl
theorem Sm : (prog.underlying 5).isSome = true := by kernel_rfl
theorem M9 : zcD prog 126 = some [.str [], .str [], .str [], .str [], .str [], .str []] := by kernel_rfl
theorem CQ : zcD prog 195 = some [.int .i32 0, .int .i32 0] := by kernel_rfl
theorem GR : zcD prog 23 = some [.str [], .str []] := by kernel_rfl
theorem BP : zcD prog 27 = some [.int .i64 0, .str [], .str [], .snil, .snil, .str []] := by kernel_rfl
theorem Ga : zcD prog 47 = some [.str [], .str [], .str []] := by kernel_rfl
theorem S0 : zcD prog 53 = some [.nilp, .snil, .snil] := by kernel_rfl
theorem Wa : zcD prog 9 = some [.str []] := by kernel_rfl
theorem Pa : zcD prog 91 = some [.bool false, .bool false, .bool false, .bool false, .bool false, .bool false, .bool false] := by kernel_rfl
theorem T5 : zcD prog 92 = some [.int .i64 0, .int .i64 0, .int .i64 0, .int .i64 0, .int .i64 0, .int .i64 0, .int .i64 0] := by kernel_rfl
end Go.Proofs.YtjofelloaofooaaGreatDoor
