/- Facts on the types and functions of the program, each by one G0 of the kernel. No condition. -/
import Derived.Test.YtmnbjcpikllknaaGreatDoorEng19
set_option linter.unusedVariables false
namespace Go.Proofs.YtmnbjcpikllknaaGreatDoor
open Go.Proofs.Tryz
theorem Agh : CA prog 10 = true := by kernel_rfl
theorem Add : CA prog 100 = true := by kernel_rfl
theorem Aav : CA prog 101 = true := by kernel_rfl
theorem Ady : CA prog 102 = true := by kernel_rfl
theorem Adi : CA prog 103 = true := by kernel_rfl
theorem Ach : CA prog 104 = true := by kernel_rfl
theorem Abk : CA prog 105 = true := by kernel_rfl
theorem Aaw : CA prog 106 = true := by kernel_rfl
theorem Ac9 : CA prog 107 = true := by kernel_rfl
theorem Acn : CA prog 108 = true := by kernel_rfl
theorem Adq : CA prog 109 = true := by kernel_rfl
theorem Ae7 : CA prog 11 = true := by kernel_rfl
theorem Ad6 : CA prog 110 = true := by kernel_rfl
theorem Adr : CA prog 111 = true := by kernel_rfl
theorem Acm : CA prog 112 = true := by kernel_rfl
theorem Abt : CA prog 113 = true := by kernel_rfl
theorem Aau : CA prog 114 = true := by kernel_rfl
theorem Ab5 : CA prog 115 = true := by kernel_rfl
theorem Ad4 : CA prog 117 = true := by kernel_rfl
theorem Ab7 : CA prog 119 = true := by kernel_rfl
theorem Abr : CA prog 120 = true := by kernel_rfl
theorem Ac5 : CA prog 121 = true := by kernel_rfl
theorem Aa3 : CA prog 122 = true := by kernel_rfl
theorem Adz : CA prog 123 = true := by kernel_rfl
theorem Afk : CA prog 13 = true := by kernel_rfl
theorem Aay : CA prog 136 = true := by kernel_rfl
theorem Adw : CA prog 139 = true := by kernel_rfl
theorem Adp : CA prog 141 = true := by kernel_rfl
theorem Abz : CA prog 142 = true := by kernel_rfl
theorem Aak : CA prog 143 = true := by kernel_rfl
theorem Abs : CA prog 144 = true := by kernel_rfl
theorem Ac3 : CA prog 145 = true := by kernel_rfl
theorem Aam : CA prog 148 = true := by kernel_rfl
theorem Ag7 : CA prog 15 = true := by kernel_rfl
theorem Acz : CA prog 150 = true := by kernel_rfl
theorem Abf : CA prog 155 = true := by kernel_rfl
theorem Aa7 : CA prog 156 = true := by kernel_rfl
theorem Adg : CA prog 157 = true := by kernel_rfl
theorem Ace : CA prog 158 = true := by kernel_rfl
theorem Acs : CA prog 159 = true := by kernel_rfl
theorem Ab0 : CA prog 165 = true := by kernel_rfl
theorem Aa2 : CA prog 171 = true := by kernel_rfl
theorem Aat : CA prog 176 = true := by kernel_rfl
theorem Abj : CA prog 180 = true := by kernel_rfl
theorem Acv : CA prog 181 = true := by kernel_rfl
theorem Adt : CA prog 182 = true := by kernel_rfl
theorem Adk : CA prog 183 = true := by kernel_rfl
theorem Adn : CA prog 187 = true := by kernel_rfl
theorem Afx : CA prog 19 = true := by kernel_rfl
theorem Ab4 : CA prog 192 = true := by kernel_rfl
theorem Abw : CA prog 193 = true := by kernel_rfl
theorem Acl : CA prog 194 = true := by kernel_rfl
theorem Acg : CA prog 195 = true := by kernel_rfl
theorem Af4 : CA prog 20 = true := by kernel_rfl
theorem Agz : CA prog 21 = true := by kernel_rfl
theorem Afz : CA prog 25 = true := by kernel_rfl
theorem Agv : CA prog 28 = true := by kernel_rfl
theorem Ae4 : CA prog 30 = true := by kernel_rfl
theorem Ahe : CA prog 31 = true := by kernel_rfl
theorem Ag1 : CA prog 32 = true := by kernel_rfl
theorem Ahc : CA prog 33 = true := by kernel_rfl
theorem Aex : CA prog 34 = true := by kernel_rfl
theorem Ahj : CA prog 35 = true := by kernel_rfl
theorem Ag5 : CA prog 36 = true := by kernel_rfl
theorem Agt : CA prog 37 = true := by kernel_rfl
theorem Adm : CA prog 38 = true := by kernel_rfl
theorem Ail : CA prog 4 = true := by kernel_rfl
theorem Afh : CA prog 42 = true := by kernel_rfl
theorem Ahk : CA prog 43 = true := by kernel_rfl
theorem Ahb : CA prog 44 = true := by kernel_rfl
theorem Age : CA prog 45 = true := by kernel_rfl
theorem Afp : CA prog 46 = true := by kernel_rfl
theorem Af5 : CA prog 47 = true := by kernel_rfl
theorem Ago : CA prog 48 = true := by kernel_rfl
theorem Ag8 : CA prog 56 = true := by kernel_rfl
theorem Afn : CA prog 58 = true := by kernel_rfl
theorem Afe : CA prog 61 = true := by kernel_rfl
theorem Af7 : CA prog 62 = true := by kernel_rfl
theorem Ahf : CA prog 63 = true := by kernel_rfl
theorem Agi : CA prog 64 = true := by kernel_rfl
theorem Ahg : CA prog 66 = true := by kernel_rfl
theorem Acu : CA prog 67 = true := by kernel_rfl
theorem Agl : CA prog 68 = true := by kernel_rfl
theorem Ae3 : CA prog 69 = true := by kernel_rfl
theorem Agj : CA prog 70 = true := by kernel_rfl
theorem Ag3 : CA prog 71 = true := by kernel_rfl
theorem Af9 : CA prog 72 = true := by kernel_rfl
theorem Agq : CA prog 73 = true := by kernel_rfl
theorem Aha : CA prog 74 = true := by kernel_rfl
theorem Af0 : CA prog 75 = true := by kernel_rfl
theorem Agr : CA prog 76 = true := by kernel_rfl
theorem Afm : CA prog 77 = true := by kernel_rfl
theorem Afd : CA prog 78 = true := by kernel_rfl
theorem Ag9 : CA prog 79 = true := by kernel_rfl
theorem Aez : CA prog 80 = true := by kernel_rfl
theorem Ae8 : CA prog 81 = true := by kernel_rfl
theorem Agk : CA prog 87 = true := by kernel_rfl
theorem Afa : CA prog 88 = true := by kernel_rfl
theorem Afs : CA prog 89 = true := by kernel_rfl
theorem Af8 : CA prog 90 = true := by kernel_rfl
theorem Ae0 : CA prog 96 = true := by kernel_rfl
theorem Afb : CA prog 97 = true := by kernel_rfl
theorem Ag2 : CA prog 99 = true := by kernel_rfl
theorem MA : agD prog 104 = some false := by kernel_rfl
theorem Hl : agD prog 114 = some false := by kernel_rfl
theorem Hu : agD prog 116 = some true := by kernel_rfl
theorem Pd : agD prog 150 = some false := by kernel_rfl
theorem MF : agD prog 199 = some false := by kernel_rfl
theorem Pf : agD prog 201 = some true := by kernel_rfl
theorem R7 : agD prog 21 = some false := by kernel_rfl
theorem Ux : agD prog 221 = some true := by kernel_rfl
theorem BI : agD prog 23 = some true := by kernel_rfl
theorem C6 : agD prog 24 = some false := by kernel_rfl
theorem Do : agD prog 25 = some false := by kernel_rfl
theorem A7 : agD prog 27 = some true := by kernel_rfl
theorem BZ : agD prog 3 = some false := by kernel_rfl
theorem Jm : agD prog 32 = some false := by kernel_rfl
theorem LN : agD prog 4 = some false := by kernel_rfl
theorem RN : agD prog 46 = some false := by kernel_rfl
theorem T7 : agD prog 5 = some false := by kernel_rfl
theorem KD : agD prog 56 = some true := by kernel_rfl
theorem GQ : agD prog 64 = some false := by kernel_rfl
theorem EW : agD prog 69 = some true := by kernel_rfl
theorem RR : agD prog 71 = some false := by kernel_rfl
theorem Fz : agD prog 73 = some true := by kernel_rfl
theorem Bw : agD prog 9 = some false := by kernel_rfl
theorem EB : arD prog 85 = some (7, 4) := by kernel_rfl
theorem R0 : arD prog 86 = some (7, 3) := by kernel_rfl
theorem Vd : elD prog 100 = some (1, 1, [.int .u8 0]) := by kernel_rfl
theorem PX : elD prog 150 = some (2, 32, [.snil, .bool false]) := by kernel_rfl
theorem PP : elD prog 199 = some (1, 16, [.cplx .f64 0 0]) := by kernel_rfl
theorem LV : elD prog 222 = some (2, 8, [.int .i32 0, .int .i32 0]) := by kernel_rfl
theorem RK : elD prog 24 = some (3, 48, [.str [], .str [], .str []]) := by kernel_rfl
theorem Jk : elD prog 25 = some (6, 104, [.int .i64 0, .str [], .str [], .snil, .snil, .str []]) := by kernel_rfl
theorem LK : elD prog 31 = some (4, 64, [.snil, .bool false, .str [], .str []]) := by kernel_rfl
theorem OD : elD prog 44 = some (1, 24, [.snil]) := by kernel_rfl
theorem ET : elD prog 46 = some (1, 8, [.int .i64 0]) := by kernel_rfl
theorem GZ : elD prog 64 = some (6, 80, [.bool false, .bool false, .str [], .str [], .str [], .snil]) := by kernel_rfl
theorem GP : elD prog 70 = some (7, 128, [.snil, .int .i64 0, .str [], .str [], .snil, .snil, .str []]) := by kernel_rfl
theorem Dh : elD prog 71 = some (6, 80, [.int .u8 0, .int .i64 0, .str [], .str [], .str [], .cplx .f64 0 0]) := by kernel_rfl
theorem L4 : faD prog 182 = some .f64 := by kernel_rfl
theorem Q5 : fdD prog 106 0 = some (0, 9) := by kernel_rfl
theorem L8 : fdD prog 106 1 = some (1, 3) := by kernel_rfl
theorem Mf : fdD prog 116 0 = some (0, 5) := by kernel_rfl
theorem QF : fdD prog 116 1 = some (1, 3) := by kernel_rfl
theorem L3 : fdD prog 116 2 = some (2, 23) := by kernel_rfl
theorem Mt : fdD prog 116 3 = some (4, 9) := by kernel_rfl
theorem Mw : fdD prog 116 4 = some (5, 114) := by kernel_rfl
theorem Qy : fdD prog 195 0 = some (0, 9) := by kernel_rfl
theorem JV : fdD prog 195 1 = some (1, 3) := by kernel_rfl
theorem Q6 : fdD prog 195 2 = some (2, 150) := by kernel_rfl
theorem QW : fdD prog 195 3 = some (3, 114) := by kernel_rfl
theorem JQ : fdD prog 195 4 = some (4, 3) := by kernel_rfl
theorem JX : fdD prog 195 5 = some (5, 4) := by kernel_rfl
theorem QD : fdD prog 201 0 = some (0, 199) := by kernel_rfl
theorem MH : fdD prog 201 1 = some (1, 4) := by kernel_rfl
theorem QL : fdD prog 221 0 = some (0, 21) := by kernel_rfl
theorem QZ : fdD prog 221 1 = some (1, 21) := by kernel_rfl
theorem Jr : fdD prog 23 0 = some (0, 9) := by kernel_rfl
theorem HA : fdD prog 23 1 = some (1, 9) := by kernel_rfl
theorem Bn : fdD prog 27 0 = some (0, 3) := by kernel_rfl
theorem D5 : fdD prog 27 1 = some (1, 23) := by kernel_rfl
theorem Bu : fdD prog 27 2 = some (3, 24) := by kernel_rfl
theorem BS : fdD prog 27 3 = some (4, 25) := by kernel_rfl
theorem Cu : fdD prog 27 4 = some (5, 9) := by kernel_rfl
theorem NQ : fdD prog 49 0 = some (0, 46) := by kernel_rfl
theorem Nt : fdD prog 49 1 = some (1, 4) := by kernel_rfl
theorem SC : fdD prog 49 2 = some (2, 23) := by kernel_rfl
theorem Nz : fdD prog 56 0 = some (0, 23) := by kernel_rfl
theorem HM : fdD prog 56 1 = some (2, 9) := by kernel_rfl
theorem NB : fdD prog 69 0 = some (0, 46) := by kernel_rfl
theorem SF : fdD prog 69 1 = some (1, 27) := by kernel_rfl
theorem Sh : fdD prog 73 0 = some (0, 4) := by kernel_rfl
theorem KX : fdD prog 73 1 = some (1, 4) := by kernel_rfl
theorem HN : fdD prog 73 2 = some (2, 9) := by kernel_rfl
theorem Hk : fdD prog 73 3 = some (3, 23) := by kernel_rfl
theorem Nq : fdD prog 73 4 = some (5, 71) := by kernel_rfl
theorem ML : kiD prog 182 = none := by kernel_rfl
theorem Qo : kiD prog 3 = some .i64 := by kernel_rfl
theorem Rb : kiD prog 5 = some .u8 := by kernel_rfl
theorem U5 : Ez prog 150 = true := by kernel_rfl
theorem Ul : Ez prog 199 = true := by kernel_rfl
theorem Rn : Ez prog 25 = true := by kernel_rfl
theorem R8 : Ez prog 31 = true := by kernel_rfl
theorem Wo : Ez prog 44 = true := by kernel_rfl
theorem Kv : Ez prog 46 = true := by kernel_rfl
theorem LF : Ez prog 64 = true := by kernel_rfl
theorem Kg : Ez prog 70 = true := by kernel_rfl
theorem F3 : Ez prog 71 = true := by kernel_rfl
theorem U6 : plD prog 106 = some [(0, 1), (1, 1)] := by kernel_rfl
theorem UJ : plD prog 116 = some [(0, 1), (1, 1), (2, 2), (4, 1), (5, 1)] := by kernel_rfl
theorem TR : plD prog 195 = some [(0, 1), (1, 1), (2, 1), (3, 1), (4, 1), (5, 1)] := by kernel_rfl
theorem TA : plD prog 201 = some [(0, 1), (1, 1)] := by kernel_rfl
theorem Df : plD prog 221 = some [(0, 1), (1, 1)] := by kernel_rfl
theorem ED : plD prog 23 = some [(0, 1), (1, 1)] := by kernel_rfl
theorem OL : plD prog 27 = some [(0, 1), (1, 2), (3, 1), (4, 1), (5, 1)] := by kernel_rfl
theorem RF : plD prog 49 = some [(0, 1), (1, 1), (2, 2)] := by kernel_rfl
theorem Ro : plD prog 56 = some [(0, 2), (2, 1)] := by kernel_rfl
theorem OR : plD prog 69 = some [(0, 1), (1, 6)] := by kernel_rfl
theorem Vu : plD prog 85 = none := by kernel_rfl
theorem WD : plD prog 86 = none := by kernel_rfl
theorem D1 : prog.eqGuardType prog.depth 23 = false := by kernel_rfl
theorem DV : sfD prog 23 = some [(0, 9), (1, 9)] := by kernel_rfl
theorem Hv : slD prog 100 = some 5 := by kernel_rfl
theorem F5 : slD prog 150 = some 201 := by kernel_rfl
theorem Ht : slD prog 199 = some 114 := by kernel_rfl
theorem Qe : slD prog 222 = some 221 := by kernel_rfl
theorem FF : slD prog 24 = some 56 := by kernel_rfl
theorem DE : slD prog 25 = some 27 := by kernel_rfl
theorem GV : slD prog 31 = some 49 := by kernel_rfl
theorem Lz : slD prog 44 = some 46 := by kernel_rfl
theorem Fy : slD prog 46 = some 3 := by kernel_rfl
theorem HY : slD prog 64 = some 73 := by kernel_rfl
theorem Dp : slD prog 70 = some 69 := by kernel_rfl
theorem RG : slD prog 71 = some 116 := by kernel_rfl
theorem AQ : stD prog 9 = true := by kernel_rfl
theorem KJ : szD prog 104 = some 1 := by kernel_rfl
theorem Dj : szD prog 114 = some 1 := by kernel_rfl
theorem EN : szD prog 116 = some 6 := by kernel_rfl
theorem Kl : szD prog 150 = some 1 := by kernel_rfl
theorem Ji : szD prog 199 = some 1 := by kernel_rfl
theorem F4 : szD prog 201 = some 2 := by kernel_rfl
theorem Ly : szD prog 21 = some 1 := by kernel_rfl
theorem LU : szD prog 221 = some 2 := by kernel_rfl
theorem AA : szD prog 23 = some 2 := by kernel_rfl
theorem A0 : szD prog 24 = some 1 := by kernel_rfl
theorem Bg : szD prog 25 = some 1 := by kernel_rfl
theorem Aw : szD prog 27 = some 6 := by kernel_rfl
theorem Av : szD prog 3 = some 1 := by kernel_rfl
theorem Gu : szD prog 32 = some 1 := by kernel_rfl
theorem Bv : szD prog 4 = some 1 := by kernel_rfl
theorem GT : szD prog 46 = some 1 := by kernel_rfl
theorem Ki : szD prog 49 = some 4 := by kernel_rfl
theorem Hi : szD prog 5 = some 1 := by kernel_rfl
theorem Ds : szD prog 56 = some 3 := by kernel_rfl
theorem Ei : szD prog 64 = some 1 := by kernel_rfl
theorem BB : szD prog 69 = some 7 := by kernel_rfl
theorem EE : szD prog 71 = some 1 := by kernel_rfl
theorem DY : szD prog 73 = some 6 := by kernel_rfl
theorem VZ : szD prog 85 = some 7 := by kernel_rfl
theorem Ax : szD prog 9 = some 1 := by kernel_rfl
theorem Ow : (prog.underlying 3).isSome = true := by kernel_rfl
theorem Qq : (prog.underlying 5).isSome = true := by kernel_rfl
theorem T2 : zcD prog 104 = some [.nilp] := by kernel_rfl
theorem Uo : zcD prog 106 = some [.str [], .int .i64 0] := by kernel_rfl
theorem Kp : zcD prog 116 = some [.int .u8 0, .int .i64 0, .str [], .str [], .str [], .cplx .f64 0 0] := by kernel_rfl
theorem UX : zcD prog 195 = some [.str [], .int .i64 0, .snil, .cplx .f64 0 0, .int .i64 0, .bool false] := by kernel_rfl
theorem Ma : zcD prog 201 = some [.snil, .bool false] := by kernel_rfl
theorem CR : zcD prog 221 = some [.int .i32 0, .int .i32 0] := by kernel_rfl
theorem C4 : zcD prog 23 = some [.str [], .str []] := by kernel_rfl
theorem DK : zcD prog 27 = some [.int .i64 0, .str [], .str [], .snil, .snil, .str []] := by kernel_rfl
theorem Y9 : zcD prog 3 = some [.int .i64 0] := by kernel_rfl
theorem Wg : zcD prog 32 = some [.int .i64 0] := by kernel_rfl
theorem Ru : zcD prog 49 = some [.snil, .bool false, .str [], .str []] := by kernel_rfl
theorem Jo : zcD prog 56 = some [.str [], .str [], .str []] := by kernel_rfl
theorem Wj : zcD prog 64 = some [.snil] := by kernel_rfl
theorem Gr : zcD prog 69 = some [.snil, .int .i64 0, .str [], .str [], .snil, .snil, .str []] := by kernel_rfl
theorem OA : zcD prog 73 = some [.bool false, .bool false, .str [], .str [], .str [], .snil] := by kernel_rfl
theorem Sa : zcD prog 85 = some [.bool false, .bool false, .bool false, .bool false, .bool false, .bool false, .bool false] := by kernel_rfl
theorem VN : zcD prog 86 = some [.int .i64 0, .int .i64 0, .int .i64 0, .int .i64 0, .int .i64 0, .int .i64 0, .int .i64 0] := by kernel_rfl
end Go.Proofs.YtmnbjcpikllknaaGreatDoor
