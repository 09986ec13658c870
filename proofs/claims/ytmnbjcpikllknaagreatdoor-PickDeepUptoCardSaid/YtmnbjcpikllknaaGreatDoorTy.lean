/- Facts on the types and functions of the program, each by one GG of the kernel. No condition. -/
import Derived.Test.YtmnbjcpikllknaaGreatDoorEng19
set_option linter.unusedVariables false
namespace Go.Proofs.YtmnbjcpikllknaaGreatDoor
open Go.Proofs.Tryz
theorem Afy : CE prog 10 = true := by kernel_rfl
theorem Ab9 : CE prog 100 = true := by kernel_rfl
theorem Ab4 : CE prog 101 = true := by kernel_rfl
theorem Adj : CE prog 102 = true := by kernel_rfl
theorem ZS : CE prog 103 = true := by kernel_rfl
theorem ZM : CE prog 104 = true := by kernel_rfl
theorem Abo : CE prog 105 = true := by kernel_rfl
theorem Abn : CE prog 106 = true := by kernel_rfl
theorem Aaq : CE prog 107 = true := by kernel_rfl
theorem ZV : CE prog 108 = true := by kernel_rfl
theorem Abc : CE prog 109 = true := by kernel_rfl
theorem Aev : CE prog 11 = true := by kernel_rfl
theorem Ace : CE prog 110 = true := by kernel_rfl
theorem Aau : CE prog 111 = true := by kernel_rfl
theorem Aaw : CE prog 112 = true := by kernel_rfl
theorem Acf : CE prog 113 = true := by kernel_rfl
theorem Aas : CE prog 114 = true := by kernel_rfl
theorem Ac1 : CE prog 115 = true := by kernel_rfl
theorem Aay : CE prog 117 = true := by kernel_rfl
theorem Aav : CE prog 119 = true := by kernel_rfl
theorem Aci : CE prog 120 = true := by kernel_rfl
theorem Abq : CE prog 121 = true := by kernel_rfl
theorem Aab : CE prog 122 = true := by kernel_rfl
theorem Aa3 : CE prog 123 = true := by kernel_rfl
theorem Agh : CE prog 13 = true := by kernel_rfl
theorem Acy : CE prog 139 = true := by kernel_rfl
theorem Adi : CE prog 141 = true := by kernel_rfl
theorem Adb : CE prog 142 = true := by kernel_rfl
theorem Ado : CE prog 143 = true := by kernel_rfl
theorem Z2 : CE prog 144 = true := by kernel_rfl
theorem Adq : CE prog 145 = true := by kernel_rfl
theorem Acq : CE prog 148 = true := by kernel_rfl
theorem ZR : CE prog 150 = true := by kernel_rfl
theorem Abs : CE prog 155 = true := by kernel_rfl
theorem Ab7 : CE prog 156 = true := by kernel_rfl
theorem Acz : CE prog 157 = true := by kernel_rfl
theorem Adp : CE prog 158 = true := by kernel_rfl
theorem ZP : CE prog 159 = true := by kernel_rfl
theorem Acr : CE prog 171 = true := by kernel_rfl
theorem ZU : CE prog 176 = true := by kernel_rfl
theorem Adv : CE prog 180 = true := by kernel_rfl
theorem Adt : CE prog 181 = true := by kernel_rfl
theorem Acj : CE prog 182 = true := by kernel_rfl
theorem Ab2 : CE prog 183 = true := by kernel_rfl
theorem Ab5 : CE prog 187 = true := by kernel_rfl
theorem Aeo : CE prog 19 = true := by kernel_rfl
theorem ZO : CE prog 192 = true := by kernel_rfl
theorem Z5 : CE prog 193 = true := by kernel_rfl
theorem Ack : CE prog 194 = true := by kernel_rfl
theorem Aat : CE prog 195 = true := by kernel_rfl
theorem Afe : CE prog 20 = true := by kernel_rfl
theorem Afr : CE prog 21 = true := by kernel_rfl
theorem Af2 : CE prog 22 = true := by kernel_rfl
theorem Af7 : CE prog 23 = true := by kernel_rfl
theorem Ae8 : CE prog 24 = true := by kernel_rfl
theorem Aez : CE prog 25 = true := by kernel_rfl
theorem Aek : CE prog 30 = true := by kernel_rfl
theorem Age : CE prog 31 = true := by kernel_rfl
theorem Aet : CE prog 32 = true := by kernel_rfl
theorem Ae6 : CE prog 33 = true := by kernel_rfl
theorem Af1 : CE prog 34 = true := by kernel_rfl
theorem Agl : CE prog 35 = true := by kernel_rfl
theorem Afx : CE prog 36 = true := by kernel_rfl
theorem Aey : CE prog 37 = true := by kernel_rfl
theorem Acm : CE prog 38 = true := by kernel_rfl
theorem Ah5 : CE prog 5 = true := by kernel_rfl
theorem Ae2 : CE prog 56 = true := by kernel_rfl
theorem Aei : CE prog 57 = true := by kernel_rfl
theorem Ags : CE prog 58 = true := by kernel_rfl
theorem Aej : CE prog 64 = true := by kernel_rfl
theorem Af4 : CE prog 66 = true := by kernel_rfl
theorem Aah : CE prog 67 = true := by kernel_rfl
theorem Aer : CE prog 68 = true := by kernel_rfl
theorem Aeq : CE prog 69 = true := by kernel_rfl
theorem Agk : CE prog 70 = true := by kernel_rfl
theorem Afl : CE prog 71 = true := by kernel_rfl
theorem Agt : CE prog 72 = true := by kernel_rfl
theorem Afi : CE prog 73 = true := by kernel_rfl
theorem Afw : CE prog 74 = true := by kernel_rfl
theorem Afs : CE prog 75 = true := by kernel_rfl
theorem Af5 : CE prog 76 = true := by kernel_rfl
theorem Agc : CE prog 77 = true := by kernel_rfl
theorem Aef : CE prog 78 = true := by kernel_rfl
theorem Af9 : CE prog 79 = true := by kernel_rfl
theorem Agi : CE prog 80 = true := by kernel_rfl
theorem Aeu : CE prog 81 = true := by kernel_rfl
theorem Afh : CE prog 95 = true := by kernel_rfl
theorem Aft : CE prog 96 = true := by kernel_rfl
theorem Agd : CE prog 97 = true := by kernel_rfl
theorem Af0 : CE prog 99 = true := by kernel_rfl
theorem LI : agD prog 104 = some false := by kernel_rfl
theorem Hi : agD prog 114 = some false := by kernel_rfl
theorem Hl : agD prog 116 = some true := by kernel_rfl
theorem OD : agD prog 150 = some false := by kernel_rfl
theorem Lk : agD prog 199 = some false := by kernel_rfl
theorem OM : agD prog 201 = some true := by kernel_rfl
theorem RI : agD prog 21 = some false := by kernel_rfl
theorem TX : agD prog 221 = some true := by kernel_rfl
theorem BM : agD prog 23 = some true := by kernel_rfl
theorem Fb : agD prog 24 = some false := by kernel_rfl
theorem EH : agD prog 25 = some false := by kernel_rfl
theorem Bq : agD prog 27 = some true := by kernel_rfl
theorem CW : agD prog 3 = some false := by kernel_rfl
theorem Iz : agD prog 32 = some false := by kernel_rfl
theorem N4 : agD prog 4 = some false := by kernel_rfl
theorem Ro : agD prog 46 = some false := by kernel_rfl
theorem La : agD prog 49 = some true := by kernel_rfl
theorem UN : agD prog 5 = some false := by kernel_rfl
theorem Rw : agD prog 56 = some true := by kernel_rfl
theorem GL : agD prog 64 = some false := by kernel_rfl
theorem Em : agD prog 69 = some true := by kernel_rfl
theorem RG : agD prog 71 = some false := by kernel_rfl
theorem Fi : agD prog 73 = some true := by kernel_rfl
theorem B0 : agD prog 9 = some false := by kernel_rfl
theorem Ub : elD prog 100 = some (1, 1, [.int .u8 0]) := by kernel_rfl
theorem OT : elD prog 150 = some (2, 32, [.snil, .bool false]) := by kernel_rfl
theorem Pm : elD prog 199 = some (1, 16, [.cplx .f64 0 0]) := by kernel_rfl
theorem Lw : elD prog 222 = some (2, 8, [.int .i32 0, .int .i32 0]) := by kernel_rfl
theorem Re : elD prog 24 = some (3, 48, [.str [], .str [], .str []]) := by kernel_rfl
theorem Iv : elD prog 25 = some (6, 104, [.int .i64 0, .str [], .str [], .snil, .snil, .str []]) := by kernel_rfl
theorem KX : elD prog 31 = some (4, 64, [.snil, .bool false, .str [], .str []]) := by kernel_rfl
theorem Ob : elD prog 44 = some (1, 24, [.snil]) := by kernel_rfl
theorem Et : elD prog 46 = some (1, 8, [.int .i64 0]) := by kernel_rfl
theorem GK : elD prog 64 = some (6, 80, [.bool false, .bool false, .str [], .str [], .str [], .snil]) := by kernel_rfl
theorem GE : elD prog 70 = some (7, 128, [.snil, .int .i64 0, .str [], .str [], .snil, .snil, .str []]) := by kernel_rfl
theorem CL : elD prog 71 = some (6, 80, [.int .u8 0, .int .i64 0, .str [], .str [], .str [], .cplx .f64 0 0]) := by kernel_rfl
theorem L6 : faD prog 182 = some .f64 := by kernel_rfl
theorem Qd : fdD prog 106 0 = some (0, 9) := by kernel_rfl
theorem Lm : fdD prog 106 1 = some (1, 3) := by kernel_rfl
theorem LV : fdD prog 116 0 = some (0, 5) := by kernel_rfl
theorem PY : fdD prog 116 1 = some (1, 3) := by kernel_rfl
theorem Mm : fdD prog 116 2 = some (2, 23) := by kernel_rfl
theorem Mh : fdD prog 116 3 = some (4, 9) := by kernel_rfl
theorem LM : fdD prog 116 4 = some (5, 114) := by kernel_rfl
theorem PS : fdD prog 195 0 = some (0, 9) := by kernel_rfl
theorem I2 : fdD prog 195 1 = some (1, 3) := by kernel_rfl
theorem P0 : fdD prog 195 2 = some (2, 150) := by kernel_rfl
theorem Qy : fdD prog 195 3 = some (3, 114) := by kernel_rfl
theorem Jg : fdD prog 195 4 = some (4, 3) := by kernel_rfl
theorem I9 : fdD prog 195 5 = some (5, 4) := by kernel_rfl
theorem QO : fdD prog 201 0 = some (0, 199) := by kernel_rfl
theorem L5 : fdD prog 201 1 = some (1, 4) := by kernel_rfl
theorem Qq : fdD prog 221 0 = some (0, 21) := by kernel_rfl
theorem P7 : fdD prog 221 1 = some (1, 21) := by kernel_rfl
theorem J0 : fdD prog 23 0 = some (0, 9) := by kernel_rfl
theorem Iq : fdD prog 23 1 = some (1, 9) := by kernel_rfl
theorem Cj : fdD prog 27 0 = some (0, 3) := by kernel_rfl
theorem Fv : fdD prog 27 1 = some (1, 23) := by kernel_rfl
theorem C0 : fdD prog 27 2 = some (3, 24) := by kernel_rfl
theorem CY : fdD prog 27 3 = some (4, 25) := by kernel_rfl
theorem Dh : fdD prog 27 4 = some (5, 9) := by kernel_rfl
theorem So : fdD prog 49 0 = some (0, 46) := by kernel_rfl
theorem Ss : fdD prog 49 1 = some (1, 4) := by kernel_rfl
theorem Kc : fdD prog 49 2 = some (2, 23) := by kernel_rfl
theorem Nr : fdD prog 56 0 = some (0, 23) := by kernel_rfl
theorem Kl : fdD prog 56 1 = some (2, 9) := by kernel_rfl
theorem MU : fdD prog 69 0 = some (0, 46) := by kernel_rfl
theorem RO : fdD prog 69 1 = some (1, 27) := by kernel_rfl
theorem Sd : fdD prog 73 0 = some (0, 4) := by kernel_rfl
theorem JV : fdD prog 73 1 = some (1, 4) := by kernel_rfl
theorem G4 : fdD prog 73 2 = some (2, 9) := by kernel_rfl
theorem Hj : fdD prog 73 3 = some (3, 23) := by kernel_rfl
theorem Nd : fdD prog 73 4 = some (5, 71) := by kernel_rfl
theorem LE : kiD prog 182 = none := by kernel_rfl
theorem Yz : kiD prog 3 = some .i64 := by kernel_rfl
theorem QM : kiD prog 5 = some .u8 := by kernel_rfl
theorem Up : D1 prog 150 = true := by kernel_rfl
theorem Uo : D1 prog 199 = true := by kernel_rfl
theorem Q4 : D1 prog 25 = true := by kernel_rfl
theorem Q7 : D1 prog 31 = true := by kernel_rfl
theorem V8 : D1 prog 44 = true := by kernel_rfl
theorem Ju : D1 prog 46 = true := by kernel_rfl
theorem KP : D1 prog 64 = true := by kernel_rfl
theorem Jk : D1 prog 70 = true := by kernel_rfl
theorem FD : D1 prog 71 = true := by kernel_rfl
theorem Ui : plD prog 106 = some [(0, 1), (1, 1)] := by kernel_rfl
theorem Tm : plD prog 116 = some [(0, 1), (1, 1), (2, 2), (4, 1), (5, 1)] := by kernel_rfl
theorem T1 : plD prog 195 = some [(0, 1), (1, 1), (2, 1), (3, 1), (4, 1), (5, 1)] := by kernel_rfl
theorem Tc : plD prog 201 = some [(0, 1), (1, 1)] := by kernel_rfl
theorem CJ : plD prog 221 = some [(0, 1), (1, 1)] := by kernel_rfl
theorem Eo : plD prog 23 = some [(0, 1), (1, 1)] := by kernel_rfl
theorem Oj : plD prog 27 = some [(0, 1), (1, 2), (3, 1), (4, 1), (5, 1)] := by kernel_rfl
theorem Q5 : plD prog 49 = some [(0, 1), (1, 1), (2, 2)] := by kernel_rfl
theorem RK : plD prog 56 = some [(0, 2), (2, 1)] := by kernel_rfl
theorem Oo : plD prog 69 = some [(0, 1), (1, 6)] := by kernel_rfl
theorem D5 : prog.eqGuardType prog.depth 23 = false := by kernel_rfl
theorem D3 : sfD prog 23 = some [(0, 9), (1, 9)] := by kernel_rfl
theorem In : slD prog 100 = some 5 := by kernel_rfl
theorem FO : slD prog 150 = some 201 := by kernel_rfl
theorem Hm : slD prog 199 = some 114 := by kernel_rfl
theorem OZ : slD prog 222 = some 221 := by kernel_rfl
theorem FE : slD prog 24 = some 56 := by kernel_rfl
theorem En : slD prog 25 = some 27 := by kernel_rfl
theorem HB : slD prog 31 = some 49 := by kernel_rfl
theorem K5 : slD prog 44 = some 46 := by kernel_rfl
theorem Ep : slD prog 46 = some 3 := by kernel_rfl
theorem Hv : slD prog 64 = some 73 := by kernel_rfl
theorem CT : slD prog 70 = some 69 := by kernel_rfl
theorem Rs : slD prog 71 = some 116 := by kernel_rfl
theorem Bo : stD prog 9 = true := by kernel_rfl
theorem JF : szD prog 104 = some 1 := by kernel_rfl
theorem CQ : szD prog 114 = some 1 := by kernel_rfl
theorem Ef : szD prog 116 = some 6 := by kernel_rfl
theorem JI : szD prog 150 = some 1 := by kernel_rfl
theorem H0 : szD prog 199 = some 1 := by kernel_rfl
theorem FH : szD prog 201 = some 2 := by kernel_rfl
theorem KR : szD prog 21 = some 1 := by kernel_rfl
theorem L8 : szD prog 221 = some 2 := by kernel_rfl
theorem AG : szD prog 23 = some 2 := by kernel_rfl
theorem BU : szD prog 24 = some 1 := by kernel_rfl
theorem B2 : szD prog 25 = some 1 := by kernel_rfl
theorem AJ : szD prog 27 = some 6 := by kernel_rfl
theorem AF : szD prog 3 = some 1 := by kernel_rfl
theorem F4 : szD prog 32 = some 1 := by kernel_rfl
theorem DI : szD prog 4 = some 1 := by kernel_rfl
theorem Hu : szD prog 46 = some 1 := by kernel_rfl
theorem EI : szD prog 49 = some 4 := by kernel_rfl
theorem HW : szD prog 5 = some 1 := by kernel_rfl
theorem GN : szD prog 56 = some 3 := by kernel_rfl
theorem DK : szD prog 64 = some 1 := by kernel_rfl
theorem Bw : szD prog 69 = some 7 := by kernel_rfl
theorem D2 : szD prog 71 = some 1 := by kernel_rfl
theorem Ds : szD prog 73 = some 6 := by kernel_rfl
theorem AL : szD prog 9 = some 1 := by kernel_rfl
theorem Oa : (prog.underlying 3).isSome = true := by kernel_rfl
theorem XW : (prog.underlying 5).isSome = true := by kernel_rfl
theorem UJ : zcD prog 104 = some [.nilp] := by kernel_rfl
theorem Tf : zcD prog 106 = some [.str [], .int .i64 0] := by kernel_rfl
theorem Jv : zcD prog 116 = some [.int .u8 0, .int .i64 0, .str [], .str [], .str [], .cplx .f64 0 0] := by kernel_rfl
theorem UT : zcD prog 195 = some [.str [], .int .i64 0, .snil, .cplx .f64 0 0, .int .i64 0, .bool false] := by kernel_rfl
theorem Lo : zcD prog 201 = some [.snil, .bool false] := by kernel_rfl
theorem Co : zcD prog 221 = some [.int .i32 0, .int .i32 0] := by kernel_rfl
theorem CN : zcD prog 23 = some [.str [], .str []] := by kernel_rfl
theorem D4 : zcD prog 27 = some [.int .i64 0, .str [], .str [], .snil, .snil, .str []] := by kernel_rfl
theorem YV : zcD prog 3 = some [.int .i64 0] := by kernel_rfl
theorem Wg : zcD prog 32 = some [.int .i64 0] := by kernel_rfl
theorem K6 : zcD prog 49 = some [.snil, .bool false, .str [], .str []] := by kernel_rfl
theorem NI : zcD prog 56 = some [.str [], .str [], .str []] := by kernel_rfl
theorem Wq : zcD prog 64 = some [.snil] := by kernel_rfl
theorem F5 : zcD prog 69 = some [.snil, .int .i64 0, .str [], .str [], .snil, .snil, .str []] := by kernel_rfl
theorem N7 : zcD prog 73 = some [.bool false, .bool false, .str [], .str [], .str [], .snil] := by kernel_rfl
end Go.Proofs.YtmnbjcpikllknaaGreatDoor
