/- Facts on the types and functions of the program, each by one GA of the kernel. No condition. -/
import Derived.Test.YtmnbjcpikllknaaGreatDoorEng19
set_option linter.unusedVariables false
namespace Go.Proofs.YtmnbjcpikllknaaGreatDoor
open Go.Proofs.Tryz
theorem Afm : Cq prog 10 = true := by kernel_rfl
theorem ZB : Cq prog 100 = true := by kernel_rfl
theorem Abm : Cq prog 101 = true := by kernel_rfl
theorem Aae : Cq prog 102 = true := by kernel_rfl
theorem ZL : Cq prog 103 = true := by kernel_rfl
theorem Aag : Cq prog 104 = true := by kernel_rfl
theorem Aa3 : Cq prog 105 = true := by kernel_rfl
theorem Ab4 : Cq prog 106 = true := by kernel_rfl
theorem Ada : Cq prog 107 = true := by kernel_rfl
theorem Acl : Cq prog 108 = true := by kernel_rfl
theorem Z2 : Cq prog 109 = true := by kernel_rfl
theorem Aas : Cq prog 110 = true := by kernel_rfl
theorem Acb : Cq prog 111 = true := by kernel_rfl
theorem Z4 : Cq prog 112 = true := by kernel_rfl
theorem Aco : Cq prog 113 = true := by kernel_rfl
theorem Aaa : Cq prog 114 = true := by kernel_rfl
theorem Ac5 : Cq prog 115 = true := by kernel_rfl
theorem Acq : Cq prog 117 = true := by kernel_rfl
theorem Acn : Cq prog 119 = true := by kernel_rfl
theorem Abc : Cq prog 120 = true := by kernel_rfl
theorem Ab0 : Cq prog 121 = true := by kernel_rfl
theorem Aao : Cq prog 122 = true := by kernel_rfl
theorem Aci : Cq prog 123 = true := by kernel_rfl
theorem Aeh : Cq prog 13 = true := by kernel_rfl
theorem Z0 : Cq prog 139 = true := by kernel_rfl
theorem Acf : Cq prog 141 = true := by kernel_rfl
theorem Abt : Cq prog 142 = true := by kernel_rfl
theorem Abh : Cq prog 143 = true := by kernel_rfl
theorem Acp : Cq prog 144 = true := by kernel_rfl
theorem Ac1 : Cq prog 145 = true := by kernel_rfl
theorem ZO : Cq prog 148 = true := by kernel_rfl
theorem Aa7 : Cq prog 150 = true := by kernel_rfl
theorem Aac : Cq prog 155 = true := by kernel_rfl
theorem Abp : Cq prog 156 = true := by kernel_rfl
theorem Abb : Cq prog 157 = true := by kernel_rfl
theorem Aa9 : Cq prog 158 = true := by kernel_rfl
theorem Ac3 : Cq prog 159 = true := by kernel_rfl
theorem ZX : Cq prog 171 = true := by kernel_rfl
theorem Abd : Cq prog 176 = true := by kernel_rfl
theorem Acy : Cq prog 180 = true := by kernel_rfl
theorem Aal : Cq prog 181 = true := by kernel_rfl
theorem Ab1 : Cq prog 182 = true := by kernel_rfl
theorem Z5 : Cq prog 183 = true := by kernel_rfl
theorem ZT : Cq prog 187 = true := by kernel_rfl
theorem Acx : Cq prog 192 = true := by kernel_rfl
theorem Ab3 : Cq prog 193 = true := by kernel_rfl
theorem ZP : Cq prog 194 = true := by kernel_rfl
theorem Abf : Cq prog 195 = true := by kernel_rfl
theorem Afg : Cq prog 21 = true := by kernel_rfl
theorem Aem : Cq prog 23 = true := by kernel_rfl
theorem Aed : Cq prog 27 = true := by kernel_rfl
theorem Adr : Cq prog 28 = true := by kernel_rfl
theorem Adv : Cq prog 29 = true := by kernel_rfl
theorem Adt : Cq prog 30 = true := by kernel_rfl
theorem Ael : Cq prog 31 = true := by kernel_rfl
theorem Afp : Cq prog 32 = true := by kernel_rfl
theorem Aec : Cq prog 33 = true := by kernel_rfl
theorem Ad3 : Cq prog 34 = true := by kernel_rfl
theorem Afr : Cq prog 35 = true := by kernel_rfl
theorem Aes : Cq prog 36 = true := by kernel_rfl
theorem Afi : Cq prog 37 = true := by kernel_rfl
theorem ZD : Cq prog 38 = true := by kernel_rfl
theorem Ad8 : Cq prog 57 = true := by kernel_rfl
theorem Ae2 : Cq prog 58 = true := by kernel_rfl
theorem Afc : Cq prog 59 = true := by kernel_rfl
theorem Ae8 : Cq prog 60 = true := by kernel_rfl
theorem Aev : Cq prog 61 = true := by kernel_rfl
theorem Afz : Cq prog 62 = true := by kernel_rfl
theorem Afn : Cq prog 63 = true := by kernel_rfl
theorem Ae9 : Cq prog 64 = true := by kernel_rfl
theorem Aez : Cq prog 66 = true := by kernel_rfl
theorem ZR : Cq prog 67 = true := by kernel_rfl
theorem Ad5 : Cq prog 68 = true := by kernel_rfl
theorem Afe : Cq prog 69 = true := by kernel_rfl
theorem Adu : Cq prog 70 = true := by kernel_rfl
theorem Ad6 : Cq prog 71 = true := by kernel_rfl
theorem Aeo : Cq prog 72 = true := by kernel_rfl
theorem Afk : Cq prog 73 = true := by kernel_rfl
theorem Aen : Cq prog 74 = true := by kernel_rfl
theorem Ae3 : Cq prog 75 = true := by kernel_rfl
theorem Aew : Cq prog 76 = true := by kernel_rfl
theorem Ad9 : Cq prog 77 = true := by kernel_rfl
theorem Aet : Cq prog 78 = true := by kernel_rfl
theorem Aff : Cq prog 79 = true := by kernel_rfl
theorem Afd : Cq prog 80 = true := by kernel_rfl
theorem Aeb : Cq prog 81 = true := by kernel_rfl
theorem Agt : Cq prog 9 = true := by kernel_rfl
theorem Adx : Cq prog 95 = true := by kernel_rfl
theorem Af1 : Cq prog 96 = true := by kernel_rfl
theorem Aei : Cq prog 97 = true := by kernel_rfl
theorem Af2 : Cq prog 98 = true := by kernel_rfl
theorem Aep : Cq prog 99 = true := by kernel_rfl
theorem Lg : agD prog 104 = some false := by kernel_rfl
theorem G6 : agD prog 114 = some false := by kernel_rfl
theorem He : agD prog 116 = some true := by kernel_rfl
theorem OA : agD prog 150 = some false := by kernel_rfl
theorem Ly : agD prog 199 = some false := by kernel_rfl
theorem O7 : agD prog 201 = some true := by kernel_rfl
theorem Q0 : agD prog 21 = some false := by kernel_rfl
theorem TA : agD prog 221 = some true := by kernel_rfl
theorem BB : agD prog 23 = some true := by kernel_rfl
theorem Ef : agD prog 24 = some false := by kernel_rfl
theorem Ew : agD prog 25 = some false := by kernel_rfl
theorem Bq : agD prog 27 = some true := by kernel_rfl
theorem CN : agD prog 3 = some false := by kernel_rfl
theorem Iq : agD prog 32 = some false := by kernel_rfl
theorem N4 : agD prog 4 = some false := by kernel_rfl
theorem QG : agD prog 46 = some false := by kernel_rfl
theorem JK : agD prog 49 = some true := by kernel_rfl
theorem T3 : agD prog 5 = some false := by kernel_rfl
theorem N9 : agD prog 56 = some true := by kernel_rfl
theorem GC : agD prog 64 = some false := by kernel_rfl
theorem El : agD prog 69 = some true := by kernel_rfl
theorem QE : agD prog 71 = some false := by kernel_rfl
theorem EZ : agD prog 73 = some true := by kernel_rfl
theorem BN : agD prog 9 = some false := by kernel_rfl
theorem T2 : boD prog 4 = true := by kernel_rfl
theorem O8 : elD prog 150 = some (2, 32, [.snil, .bool false]) := by kernel_rfl
theorem Ok : elD prog 199 = some (1, 16, [.cplx .f64 0 0]) := by kernel_rfl
theorem L0 : elD prog 222 = some (2, 8, [.int .i32 0, .int .i32 0]) := by kernel_rfl
theorem NW : elD prog 24 = some (3, 48, [.str [], .str [], .str []]) := by kernel_rfl
theorem GB : elD prog 25 = some (6, 104, [.int .i64 0, .str [], .str [], .snil, .snil, .str []]) := by kernel_rfl
theorem KI : elD prog 31 = some (4, 64, [.snil, .bool false, .str [], .str []]) := by kernel_rfl
theorem Fs : elD prog 46 = some (1, 8, [.int .i64 0]) := by kernel_rfl
theorem GE : elD prog 64 = some (6, 80, [.bool false, .bool false, .str [], .str [], .str [], .snil]) := by kernel_rfl
theorem Gz : elD prog 70 = some (7, 128, [.snil, .int .i64 0, .str [], .str [], .snil, .snil, .str []]) := by kernel_rfl
theorem CF : elD prog 71 = some (6, 80, [.int .u8 0, .int .i64 0, .str [], .str [], .str [], .cplx .f64 0 0]) := by kernel_rfl
theorem K8 : faD prog 182 = some .f64 := by kernel_rfl
theorem Qe : fdD prog 106 0 = some (0, 9) := by kernel_rfl
theorem Lw : fdD prog 106 1 = some (1, 3) := by kernel_rfl
theorem Lx : fdD prog 116 0 = some (0, 5) := by kernel_rfl
theorem P0 : fdD prog 116 1 = some (1, 3) := by kernel_rfl
theorem Mi : fdD prog 116 2 = some (2, 23) := by kernel_rfl
theorem Lc : fdD prog 116 3 = some (4, 9) := by kernel_rfl
theorem LJ : fdD prog 116 4 = some (5, 114) := by kernel_rfl
theorem Qq : fdD prog 195 0 = some (0, 9) := by kernel_rfl
theorem Jd : fdD prog 195 1 = some (1, 3) := by kernel_rfl
theorem P9 : fdD prog 195 2 = some (2, 150) := by kernel_rfl
theorem P7 : fdD prog 195 3 = some (3, 114) := by kernel_rfl
theorem I7 : fdD prog 195 4 = some (4, 3) := by kernel_rfl
theorem IX : fdD prog 195 5 = some (5, 4) := by kernel_rfl
theorem PU : fdD prog 201 0 = some (0, 199) := by kernel_rfl
theorem K9 : fdD prog 201 1 = some (1, 4) := by kernel_rfl
theorem PC : fdD prog 221 0 = some (0, 21) := by kernel_rfl
theorem PQ : fdD prog 221 1 = some (1, 21) := by kernel_rfl
theorem Kg : fdD prog 23 0 = some (0, 9) := by kernel_rfl
theorem Ip : fdD prog 23 1 = some (1, 9) := by kernel_rfl
theorem Cm : fdD prog 27 0 = some (0, 3) := by kernel_rfl
theorem Fi : fdD prog 27 1 = some (1, 23) := by kernel_rfl
theorem C8 : fdD prog 27 2 = some (3, 24) := by kernel_rfl
theorem DN : fdD prog 27 3 = some (4, 25) := by kernel_rfl
theorem CE : fdD prog 27 4 = some (5, 9) := by kernel_rfl
theorem Nk : fdD prog 49 0 = some (0, 46) := by kernel_rfl
theorem RX : fdD prog 49 1 = some (1, 4) := by kernel_rfl
theorem R8 : fdD prog 49 2 = some (2, 23) := by kernel_rfl
theorem JZ : fdD prog 56 0 = some (0, 23) := by kernel_rfl
theorem Io : fdD prog 56 1 = some (2, 9) := by kernel_rfl
theorem MR : fdD prog 69 0 = some (0, 46) := by kernel_rfl
theorem Rv : fdD prog 69 1 = some (1, 27) := by kernel_rfl
theorem Rk : fdD prog 73 0 = some (0, 4) := by kernel_rfl
theorem JX : fdD prog 73 1 = some (1, 4) := by kernel_rfl
theorem Hj : fdD prog 73 2 = some (2, 9) := by kernel_rfl
theorem GU : fdD prog 73 3 = some (3, 23) := by kernel_rfl
theorem M3 : fdD prog 73 4 = some (5, 71) := by kernel_rfl
theorem K6 : kiD prog 182 = none := by kernel_rfl
theorem PM : kiD prog 3 = some .i64 := by kernel_rfl
theorem Tu : kiD prog 5 = some .u8 := by kernel_rfl
theorem UE : Dz prog 150 = true := by kernel_rfl
theorem TH : Dz prog 199 = true := by kernel_rfl
theorem VP : Dz prog 24 = true := by kernel_rfl
theorem NJ : Dz prog 25 = true := by kernel_rfl
theorem QU : Dz prog 31 = true := by kernel_rfl
theorem KX : Dz prog 46 = true := by kernel_rfl
theorem KN : Dz prog 64 = true := by kernel_rfl
theorem Jk : Dz prog 70 = true := by kernel_rfl
theorem Fp : Dz prog 71 = true := by kernel_rfl
theorem SJ : plD prog 106 = some [(0, 1), (1, 1)] := by kernel_rfl
theorem Ux : plD prog 116 = some [(0, 1), (1, 1), (2, 2), (4, 1), (5, 1)] := by kernel_rfl
theorem UF : plD prog 195 = some [(0, 1), (1, 1), (2, 1), (3, 1), (4, 1), (5, 1)] := by kernel_rfl
theorem Tk : plD prog 201 = some [(0, 1), (1, 1)] := by kernel_rfl
theorem Ct : plD prog 221 = some [(0, 1), (1, 1)] := by kernel_rfl
theorem Ei : plD prog 23 = some [(0, 1), (1, 1)] := by kernel_rfl
theorem KR : plD prog 27 = some [(0, 1), (1, 2), (3, 1), (4, 1), (5, 1)] := by kernel_rfl
theorem Nm : plD prog 49 = some [(0, 1), (1, 1), (2, 2)] := by kernel_rfl
theorem QW : plD prog 56 = some [(0, 2), (2, 1)] := by kernel_rfl
theorem NH : plD prog 69 = some [(0, 1), (1, 6)] := by kernel_rfl
theorem Dq : prog.eqGuardType prog.depth 23 = false := by kernel_rfl
theorem Dp : sfD prog 23 = some [(0, 9), (1, 9)] := by kernel_rfl
theorem Hk : slD prog 100 = some 5 := by kernel_rfl
theorem Fx : slD prog 150 = some 201 := by kernel_rfl
theorem G0 : slD prog 199 = some 114 := by kernel_rfl
theorem Pl : slD prog 222 = some 221 := by kernel_rfl
theorem Hv : slD prog 24 = some 56 := by kernel_rfl
theorem Eg : slD prog 25 = some 27 := by kernel_rfl
theorem GF : slD prog 31 = some 49 := by kernel_rfl
theorem Ee : slD prog 46 = some 3 := by kernel_rfl
theorem Hr : slD prog 64 = some 73 := by kernel_rfl
theorem CS : slD prog 70 = some 69 := by kernel_rfl
theorem Rb : slD prog 71 = some 116 := by kernel_rfl
theorem Bm : stD prog 9 = true := by kernel_rfl
theorem Js : szD prog 104 = some 1 := by kernel_rfl
theorem CK : szD prog 114 = some 1 := by kernel_rfl
theorem DZ : szD prog 116 = some 6 := by kernel_rfl
theorem Ji : szD prog 150 = some 1 := by kernel_rfl
theorem If : szD prog 199 = some 1 := by kernel_rfl
theorem FO : szD prog 201 = some 2 := by kernel_rfl
theorem KT : szD prog 21 = some 1 := by kernel_rfl
theorem K5 : szD prog 221 = some 2 := by kernel_rfl
theorem AF : szD prog 23 = some 2 := by kernel_rfl
theorem BI : szD prog 24 = some 1 := by kernel_rfl
theorem BV : szD prog 25 = some 1 := by kernel_rfl
theorem AE : szD prog 27 = some 6 := by kernel_rfl
theorem AJ : szD prog 3 = some 1 := by kernel_rfl
theorem F6 : szD prog 32 = some 1 := by kernel_rfl
theorem DD : szD prog 4 = some 1 := by kernel_rfl
theorem Ij : szD prog 46 = some 1 := by kernel_rfl
theorem Eh : szD prog 49 = some 4 := by kernel_rfl
theorem GN : szD prog 5 = some 1 := by kernel_rfl
theorem EM : szD prog 56 = some 3 := by kernel_rfl
theorem DA : szD prog 64 = some 1 := by kernel_rfl
theorem Bw : szD prog 69 = some 7 := by kernel_rfl
theorem DV : szD prog 71 = some 1 := by kernel_rfl
theorem Dl : szD prog 73 = some 6 := by kernel_rfl
theorem AI : szD prog 9 = some 1 := by kernel_rfl
theorem PY : (prog.underlying 3).isSome = true := by kernel_rfl
theorem Qr : (prog.underlying 5).isSome = true := by kernel_rfl
theorem Ut : zcD prog 104 = some [.nilp] := by kernel_rfl
theorem TV : zcD prog 106 = some [.str [], .int .i64 0] := by kernel_rfl
theorem Jj : zcD prog 116 = some [.int .u8 0, .int .i64 0, .str [], .str [], .str [], .cplx .f64 0 0] := by kernel_rfl
theorem Ug : zcD prog 195 = some [.str [], .int .i64 0, .snil, .cplx .f64 0 0, .int .i64 0, .bool false] := by kernel_rfl
theorem LQ : zcD prog 201 = some [.snil, .bool false] := by kernel_rfl
theorem Ci : zcD prog 221 = some [.int .i32 0, .int .i32 0] := by kernel_rfl
theorem CA : zcD prog 23 = some [.str [], .str []] := by kernel_rfl
theorem Dh : zcD prog 27 = some [.int .i64 0, .str [], .str [], .snil, .snil, .str []] := by kernel_rfl
theorem Yg : zcD prog 3 = some [.int .i64 0] := by kernel_rfl
theorem Vl : zcD prog 32 = some [.int .i64 0] := by kernel_rfl
theorem KQ : zcD prog 49 = some [.snil, .bool false, .str [], .str []] := by kernel_rfl
theorem KW : zcD prog 56 = some [.str [], .str [], .str []] := by kernel_rfl
theorem Wf : zcD prog 64 = some [.snil] := by kernel_rfl
theorem F5 : zcD prog 69 = some [.snil, .int .i64 0, .str [], .str [], .snil, .snil, .str []] := by kernel_rfl
theorem Nx : zcD prog 73 = some [.bool false, .bool false, .str [], .str [], .str [], .snil] := by kernel_rfl
end Go.Proofs.YtmnbjcpikllknaaGreatDoor
