/- Facts on the types and functions of the program, each by one G3 of the kernel. No condition. -/
import Derived.Test.YtmnbjcpikllknaaGreatDoorEng19
set_option linter.unusedVariables false
namespace Go.Proofs.YtmnbjcpikllknaaGreatDoor
open Go.Proofs.Tryz
theorem Agf:CA prog 10=true:=by kernel_rfl
theorem Ab7:CA prog 100=true:=by kernel_rfl
theorem Aeu:CA prog 101=true:=by kernel_rfl
theorem Aes:CA prog 102=true:=by kernel_rfl
theorem Ab9:CA prog 103=true:=by kernel_rfl
theorem Aev:CA prog 104=true:=by kernel_rfl
theorem Ab6:CA prog 105=true:=by kernel_rfl
theorem Aeh:CA prog 106=true:=by kernel_rfl
theorem Ac3:CA prog 107=true:=by kernel_rfl
theorem Adj:CA prog 108=true:=by kernel_rfl
theorem Acl:CA prog 109=true:=by kernel_rfl
theorem Aej:CA prog 110=true:=by kernel_rfl
theorem Afd:CA prog 111=true:=by kernel_rfl
theorem Adr:CA prog 112=true:=by kernel_rfl
theorem Acg:CA prog 113=true:=by kernel_rfl
theorem Ad0:CA prog 114=true:=by kernel_rfl
theorem Aek:CA prog 115=true:=by kernel_rfl
theorem Ac7:CA prog 117=true:=by kernel_rfl
theorem Ado:CA prog 119=true:=by kernel_rfl
theorem Afe:CA prog 120=true:=by kernel_rfl
theorem Ae6:CA prog 121=true:=by kernel_rfl
theorem Ada:CA prog 122=true:=by kernel_rfl
theorem Adm:CA prog 123=true:=by kernel_rfl
theorem Ahm:CA prog 13=true:=by kernel_rfl
theorem Acx:CA prog 136=true:=by kernel_rfl
theorem Acw:CA prog 139=true:=by kernel_rfl
theorem Acr:CA prog 141=true:=by kernel_rfl
theorem Ade:CA prog 142=true:=by kernel_rfl
theorem Ads:CA prog 143=true:=by kernel_rfl
theorem Aed:CA prog 144=true:=by kernel_rfl
theorem Aec:CA prog 145=true:=by kernel_rfl
theorem Adv:CA prog 148=true:=by kernel_rfl
theorem Aig:CA prog 15=true:=by kernel_rfl
theorem Aee:CA prog 150=true:=by kernel_rfl
theorem Aco:CA prog 155=true:=by kernel_rfl
theorem Ae4:CA prog 156=true:=by kernel_rfl
theorem Acj:CA prog 157=true:=by kernel_rfl
theorem Ab5:CA prog 158=true:=by kernel_rfl
theorem Acb:CA prog 159=true:=by kernel_rfl
theorem Aff:CA prog 165=true:=by kernel_rfl
theorem Ae9:CA prog 171=true:=by kernel_rfl
theorem Ab1:CA prog 176=true:=by kernel_rfl
theorem Ae0:CA prog 180=true:=by kernel_rfl
theorem Acd:CA prog 181=true:=by kernel_rfl
theorem Ad2:CA prog 182=true:=by kernel_rfl
theorem Ab2:CA prog 183=true:=by kernel_rfl
theorem Adw:CA prog 187=true:=by kernel_rfl
theorem Ahl:CA prog 19=true:=by kernel_rfl
theorem Adn:CA prog 192=true:=by kernel_rfl
theorem Abv:CA prog 193=true:=by kernel_rfl
theorem Abt:CA prog 194=true:=by kernel_rfl
theorem Aef:CA prog 195=true:=by kernel_rfl
theorem Ahj:CA prog 21=true:=by kernel_rfl
theorem Agn:CA prog 23=true:=by kernel_rfl
theorem Ain:CA prog 25=true:=by kernel_rfl
theorem Ahg:CA prog 26=true:=by kernel_rfl
theorem Ah5:CA prog 28=true:=by kernel_rfl
theorem Ahy:CA prog 30=true:=by kernel_rfl
theorem Ah9:CA prog 31=true:=by kernel_rfl
theorem Ahf:CA prog 32=true:=by kernel_rfl
theorem Ag7:CA prog 33=true:=by kernel_rfl
theorem Ags:CA prog 34=true:=by kernel_rfl
theorem Af5:CA prog 35=true:=by kernel_rfl
theorem Ahp:CA prog 36=true:=by kernel_rfl
theorem Agz:CA prog 37=true:=by kernel_rfl
theorem Ae3:CA prog 38=true:=by kernel_rfl
theorem Aia:CA prog 42=true:=by kernel_rfl
theorem Ahh:CA prog 43=true:=by kernel_rfl
theorem Ah3:CA prog 44=true:=by kernel_rfl
theorem Ah8:CA prog 45=true:=by kernel_rfl
theorem Aha:CA prog 46=true:=by kernel_rfl
theorem Aio:CA prog 47=true:=by kernel_rfl
theorem Af4:CA prog 48=true:=by kernel_rfl
theorem Ahw:CA prog 57=true:=by kernel_rfl
theorem Agk:CA prog 58=true:=by kernel_rfl
theorem Ajl:CA prog 6=true:=by kernel_rfl
theorem Aga:CA prog 61=true:=by kernel_rfl
theorem Ag6:CA prog 62=true:=by kernel_rfl
theorem Ahc:CA prog 63=true:=by kernel_rfl
theorem Ahi:CA prog 64=true:=by kernel_rfl
theorem Air:CA prog 66=true:=by kernel_rfl
theorem Ace:CA prog 67=true:=by kernel_rfl
theorem Ahs:CA prog 68=true:=by kernel_rfl
theorem Ahz:CA prog 69=true:=by kernel_rfl
theorem Ag4:CA prog 70=true:=by kernel_rfl
theorem Ahq:CA prog 71=true:=by kernel_rfl
theorem Ahv:CA prog 72=true:=by kernel_rfl
theorem Agy:CA prog 73=true:=by kernel_rfl
theorem Agm:CA prog 74=true:=by kernel_rfl
theorem Agc:CA prog 75=true:=by kernel_rfl
theorem Ahn:CA prog 76=true:=by kernel_rfl
theorem Age:CA prog 77=true:=by kernel_rfl
theorem Ah6:CA prog 78=true:=by kernel_rfl
theorem Agu:CA prog 79=true:=by kernel_rfl
theorem Af6:CA prog 80=true:=by kernel_rfl
theorem Agr:CA prog 81=true:=by kernel_rfl
theorem Aib:CA prog 87=true:=by kernel_rfl
theorem Ag1:CA prog 88=true:=by kernel_rfl
theorem Agt:CA prog 89=true:=by kernel_rfl
theorem Ah2:CA prog 90=true:=by kernel_rfl
theorem Af7:CA prog 95=true:=by kernel_rfl
theorem Aic:CA prog 96=true:=by kernel_rfl
theorem Agd:CA prog 97=true:=by kernel_rfl
theorem Agv:CA prog 99=true:=by kernel_rfl
theorem MA:agD prog 104=some false:=by kernel_rfl
theorem HJ:agD prog 114=some false:=by kernel_rfl
theorem Hv:agD prog 116=some true:=by kernel_rfl
theorem Qt:agD prog 150=some false:=by kernel_rfl
theorem MZ:agD prog 199=some false:=by kernel_rfl
theorem Qj:agD prog 201=some true:=by kernel_rfl
theorem Sh:agD prog 21=some false:=by kernel_rfl
theorem Vl:agD prog 221=some true:=by kernel_rfl
theorem Bv:agD prog 23=some true:=by kernel_rfl
theorem CR:agD prog 24=some false:=by kernel_rfl
theorem Dv:agD prog 25=some false:=by kernel_rfl
theorem A6:agD prog 27=some true:=by kernel_rfl
theorem B3:agD prog 3=some false:=by kernel_rfl
theorem Jr:agD prog 32=some false:=by kernel_rfl
theorem MN:agD prog 4=some false:=by kernel_rfl
theorem Su:agD prog 46=some false:=by kernel_rfl
theorem RF:agD prog 49=some true:=by kernel_rfl
theorem Ui:agD prog 5=some false:=by kernel_rfl
theorem Jn:agD prog 56=some true:=by kernel_rfl
theorem Hb:agD prog 64=some false:=by kernel_rfl
theorem E9:agD prog 69=some true:=by kernel_rfl
theorem RT:agD prog 71=some false:=by kernel_rfl
theorem FM:agD prog 73=some true:=by kernel_rfl
theorem By:agD prog 9=some false:=by kernel_rfl
theorem EJ:arD prog 85=some (7,4):=by kernel_rfl
theorem RH:arD prog 86=some (7,3):=by kernel_rfl
theorem Qb:elD prog 150=some (2,32,[.snil,.bool false]):=by kernel_rfl
theorem PT:elD prog 199=some (1,16,[.cplx .f64 0 0]):=by kernel_rfl
theorem Mq:elD prog 222=some (2,8,[.int .i32 0,.int .i32 0]):=by kernel_rfl
theorem R9:elD prog 24=some (3,48,[.str [],.str [],.str []]):=by kernel_rfl
theorem Ju:elD prog 25=some (6,104,[.int .i64 0,.str [],.str [],.snil,.snil,.str []]):=by kernel_rfl
theorem L0:elD prog 31=some (4,64,[.snil,.bool false,.str [],.str []]):=by kernel_rfl
theorem On:elD prog 44=some (1,24,[.snil]):=by kernel_rfl
theorem Fa:elD prog 46=some (1,8,[.int .i64 0]):=by kernel_rfl
theorem Hd:elD prog 64=some (6,80,[.bool false,.bool false,.str [],.str [],.str [],.snil]):=by kernel_rfl
theorem G2:elD prog 70=some (7,128,[.snil,.int .i64 0,.str [],.str [],.snil,.snil,.str []]):=by kernel_rfl
theorem De:elD prog 71=some (6,80,[.int .u8 0,.int .i64 0,.str [],.str [],.str [],.cplx .f64 0 0]):=by kernel_rfl
theorem L6:faD prog 182=some .f64:=by kernel_rfl
theorem QM:fdD prog 106 0=some (0,9):=by kernel_rfl
theorem Mj:fdD prog 106 1=some (1,3):=by kernel_rfl
theorem MV:fdD prog 116 0=some (0,5):=by kernel_rfl
theorem Ra:fdD prog 116 1=some (1,3):=by kernel_rfl
theorem ML:fdD prog 116 2=some (2,23):=by kernel_rfl
theorem MY:fdD prog 116 3=some (4,9):=by kernel_rfl
theorem Mt:fdD prog 116 4=some (5,114):=by kernel_rfl
theorem QG:fdD prog 195 0=some (0,9):=by kernel_rfl
theorem JT:fdD prog 195 1=some (1,3):=by kernel_rfl
theorem QL:fdD prog 195 2=some (2,150):=by kernel_rfl
theorem Re:fdD prog 195 3=some (3,114):=by kernel_rfl
theorem Kd:fdD prog 195 4=some (4,3):=by kernel_rfl
theorem J1:fdD prog 195 5=some (5,4):=by kernel_rfl
theorem RA:fdD prog 201 0=some (0,199):=by kernel_rfl
theorem MG:fdD prog 201 1=some (1,4):=by kernel_rfl
theorem QQ:fdD prog 221 0=some (0,21):=by kernel_rfl
theorem QC:fdD prog 221 1=some (1,21):=by kernel_rfl
theorem Jt:fdD prog 23 0=some (0,9):=by kernel_rfl
theorem Hz:fdD prog 23 1=some (1,9):=by kernel_rfl
theorem Br:fdD prog 27 0=some (0,3):=by kernel_rfl
theorem D4:fdD prog 27 1=some (1,23):=by kernel_rfl
theorem Bz:fdD prog 27 2=some (3,24):=by kernel_rfl
theorem B0:fdD prog 27 3=some (4,25):=by kernel_rfl
theorem Ct:fdD prog 27 4=some (5,9):=by kernel_rfl
theorem Tv:fdD prog 49 0=some (0,46):=by kernel_rfl
theorem SQ:fdD prog 49 1=some (1,4):=by kernel_rfl
theorem TA:fdD prog 49 2=some (2,23):=by kernel_rfl
theorem N5:fdD prog 56 0=some (0,23):=by kernel_rfl
theorem HH:fdD prog 56 1=some (2,9):=by kernel_rfl
theorem NM:fdD prog 69 0=some (0,46):=by kernel_rfl
theorem Tr:fdD prog 69 1=some (1,27):=by kernel_rfl
theorem SX:fdD prog 73 0=some (0,4):=by kernel_rfl
theorem K7:fdD prog 73 1=some (1,4):=by kernel_rfl
theorem HF:fdD prog 73 2=some (2,9):=by kernel_rfl
theorem HB:fdD prog 73 3=some (3,23):=by kernel_rfl
theorem NO:fdD prog 73 4=some (5,71):=by kernel_rfl
theorem Mn:kiD prog 182=none:=by kernel_rfl
theorem Q7:kiD prog 3=some .i64:=by kernel_rfl
theorem YM:kiD prog 5=some .u8:=by kernel_rfl
theorem UK:EE prog 150=true:=by kernel_rfl
theorem Ur:EE prog 199=true:=by kernel_rfl
theorem R1:EE prog 25=true:=by kernel_rfl
theorem SB:EE prog 31=true:=by kernel_rfl
theorem Xl:EE prog 44=true:=by kernel_rfl
theorem KM:EE prog 46=true:=by kernel_rfl
theorem LS:EE prog 64=true:=by kernel_rfl
theorem KK:EE prog 70=true:=by kernel_rfl
theorem F9:EE prog 71=true:=by kernel_rfl
theorem Uq:plD prog 106=some [(0,1),(1,1)]:=by kernel_rfl
theorem Ut:plD prog 116=some [(0,1),(1,1),(2,2),(4,1),(5,1)]:=by kernel_rfl
theorem U1:plD prog 195=some [(0,1),(1,1),(2,1),(3,1),(4,1),(5,1)]:=by kernel_rfl
theorem Uj:plD prog 201=some [(0,1),(1,1)]:=by kernel_rfl
theorem Db:plD prog 221=some [(0,1),(1,1)]:=by kernel_rfl
theorem EG:plD prog 23=some [(0,1),(1,1)]:=by kernel_rfl
theorem OH:plD prog 27=some [(0,1),(1,2),(3,1),(4,1),(5,1)]:=by kernel_rfl
theorem RL:plD prog 49=some [(0,1),(1,1),(2,2)]:=by kernel_rfl
theorem RO:plD prog 56=some [(0,2),(2,1)]:=by kernel_rfl
theorem Oh:plD prog 69=some [(0,1),(1,6)]:=by kernel_rfl
theorem WG:plD prog 85=none:=by kernel_rfl
theorem WM:plD prog 86=none:=by kernel_rfl
theorem DL:prog.eqGuardType prog.depth 23=false:=by kernel_rfl
theorem DK:sfD prog 23=some [(0,9),(1,9)]:=by kernel_rfl
theorem Jc:slD prog 100=some 5:=by kernel_rfl
theorem Gd:slD prog 150=some 201:=by kernel_rfl
theorem HG:slD prog 199=some 114:=by kernel_rfl
theorem Pi:slD prog 222=some 221:=by kernel_rfl
theorem Fp:slD prog 24=some 56:=by kernel_rfl
theorem Dt:slD prog 25=some 27:=by kernel_rfl
theorem GB:slD prog 31=some 49:=by kernel_rfl
theorem Ox:slD prog 44=some 46:=by kernel_rfl
theorem Fo:slD prog 46=some 3:=by kernel_rfl
theorem Ig:slD prog 64=some 73:=by kernel_rfl
theorem Ds:slD prog 70=some 69:=by kernel_rfl
theorem Sv:slD prog 71=some 116:=by kernel_rfl
theorem AS:stD prog 9=true:=by kernel_rfl
theorem KP:szD prog 104=some 1:=by kernel_rfl
theorem Dk:szD prog 114=some 1:=by kernel_rfl
theorem EP:szD prog 116=some 6:=by kernel_rfl
theorem Kv:szD prog 150=some 1:=by kernel_rfl
theorem Jh:szD prog 199=some 1:=by kernel_rfl
theorem Gf:szD prog 201=some 2:=by kernel_rfl
theorem LU:szD prog 21=some 1:=by kernel_rfl
theorem Mo:szD prog 221=some 2:=by kernel_rfl
theorem AA:szD prog 23=some 2:=by kernel_rfl
theorem AW:szD prog 24=some 1:=by kernel_rfl
theorem Bj:szD prog 25=some 1:=by kernel_rfl
theorem Aw:szD prog 27=some 6:=by kernel_rfl
theorem Ax:szD prog 3=some 1:=by kernel_rfl
theorem Gw:szD prog 32=some 1:=by kernel_rfl
theorem BN:szD prog 4=some 1:=by kernel_rfl
theorem H7:szD prog 46=some 1:=by kernel_rfl
theorem F8:szD prog 49=some 4:=by kernel_rfl
theorem Hh:szD prog 5=some 1:=by kernel_rfl
theorem CQ:szD prog 56=some 3:=by kernel_rfl
theorem Eh:szD prog 64=some 1:=by kernel_rfl
theorem BM:szD prog 69=some 7:=by kernel_rfl
theorem EH:szD prog 71=some 1:=by kernel_rfl
theorem D3:szD prog 73=some 6:=by kernel_rfl
theorem Wv:szD prog 85=some 7:=by kernel_rfl
theorem Ay:szD prog 9=some 1:=by kernel_rfl
theorem QR:(prog.underlying 3).isSome=true:=by kernel_rfl
theorem Rc:(prog.underlying 5).isSome=true:=by kernel_rfl
theorem Ue:zcD prog 104=some [.nilp]:=by kernel_rfl
theorem UM:zcD prog 106=some [.str [],.int .i64 0]:=by kernel_rfl
theorem Kw:zcD prog 116=some [.int .u8 0,.int .i64 0,.str [],.str [],.str [],.cplx .f64 0 0]:=by kernel_rfl
theorem T7:zcD prog 195=some [.str [],.int .i64 0,.snil,.cplx .f64 0 0,.int .i64 0,.bool false]:=by kernel_rfl
theorem L8:zcD prog 201=some [.snil,.bool false]:=by kernel_rfl
theorem CV:zcD prog 221=some [.int .i32 0,.int .i32 0]:=by kernel_rfl
theorem C4:zcD prog 23=some [.str [],.str []]:=by kernel_rfl
theorem DI:zcD prog 27=some [.int .i64 0,.str [],.str [],.snil,.snil,.str []]:=by kernel_rfl
theorem ZF:zcD prog 3=some [.int .i64 0]:=by kernel_rfl
theorem Wm:zcD prog 32=some [.int .i64 0]:=by kernel_rfl
theorem RQ:zcD prog 49=some [.snil,.bool false,.str [],.str []]:=by kernel_rfl
theorem Id:zcD prog 56=some [.str [],.str [],.str []]:=by kernel_rfl
theorem WX:zcD prog 64=some [.snil]:=by kernel_rfl
theorem GA:zcD prog 69=some [.snil,.int .i64 0,.str [],.str [],.snil,.snil,.str []]:=by kernel_rfl
theorem OZ:zcD prog 73=some [.bool false,.bool false,.str [],.str [],.str [],.snil]:=by kernel_rfl
theorem RR:zcD prog 85=some [.bool false,.bool false,.bool false,.bool false,.bool false,.bool false,.bool false]:=by kernel_rfl
theorem Xy:zcD prog 86=some [.int .i64 0,.int .i64 0,.int .i64 0,.int .i64 0,.int .i64 0,.int .i64 0,.int .i64 0]:=by kernel_rfl
end Go.Proofs.YtmnbjcpikllknaaGreatDoor
