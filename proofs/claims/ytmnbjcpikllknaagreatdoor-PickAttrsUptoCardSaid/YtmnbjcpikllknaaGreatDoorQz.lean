/- Short words for the walks. No condition. -/
import Derived.Test.YtmnbjcpikllknaaGreatDoorTy
import Derived.Test.YtmnbjcpikllknaaGreatDoorPf
set_option linter.unusedVariables false
namespace Go.Proofs.YtmnbjcpikllknaaGreatDoor
structure Bx (n:Prop):Prop where
 v:n
theorem ws {p:Prop} (h:p:=by (repeat (first | with_reducible exact WS.refl _ | refine WS.add ?_ rfl | exact WS.refl _))):p:=h
theorem tw {p:Prop} (h:p:=by (refine ⟨_,hF,.hd (.refl _) ?_⟩;repeat (first | with_reducible exact WS.refl _ | refine WS.add ?_ rfl | exact WS.refl _))):p:=h
theorem th {p:Prop} (h:p:=by (first | refine .hd (Aka (by assumption)) ?_ | refine .hd (Ajm (by assumption)) ?_ | refine .hd (Agh (by assumption)) ?_ | refine .hd (Ail (by assumption)) ?_);(repeat (first | with_reducible exact WS.refl _ | refine WS.add ?_ rfl | exact WS.refl _))):p:=h
theorem rt {p:Prop} (h:p:=by (repeat (first | with_reducible refine Exit.sel_ret ?_ | with_reducible refine Exit.blk_ret ?_ | with_reducible refine Exit.jmp_ret ?_));refine KH rfl (by repeat' first | exact .nil | apply RV.tmp (v:=.int _ _) rfl | apply RV.tmp (v:=.bool _) rfl | apply RV.tmp (v:=.str _) rfl | apply RV.tmp (v:=.sl _ _ _) rfl | apply RV.tmp (v:=.agg _) rfl | apply RV.tmp (v:=ifD _) rfl | apply RV.tmp (v:=D0 _ _ _) rfl | apply RV.tmp (v:=GW _ _ _ _) rfl | apply RV.tmp (v:=.float _ _) rfl | apply RV.tmp (v:=.cplx _ _ _) rfl) ?_;first | exact ⟨_,_,.refl _,ok.wh,_,Ap hF,rfl,rfl⟩ | exact ⟨_,_,.refl _,WH.refl _,_,Ap hF,rfl⟩ | (refine ⟨_,_,?_,ok.wh,_,Ap hF,rfl,rfl⟩;repeat' first | exact .refl _ | exact .zero _ _ _ | exact .nil _ | exact .nil | refine .tupC ?_ | refine .aggC ?_ | refine Wd.toE (.aggC ?_) (none_eq _) | refine .cons ?_ ?_) | (refine ⟨_,_,?_,WH.refl _,_,Ap hF,rfl⟩;repeat' first | exact .refl _ | exact .zero _ _ _ | exact .nil _ | exact .nil | refine .tupC ?_ | refine .aggC ?_ | refine Wd.toE (.aggC ?_) (none_eq _) | refine .cons ?_ ?_)):p:=h
theorem oy {h:Heap} {O O':List (Nat × AObj)} (ok:OK h O) (w:WO O O':=by (repeat' first | exact .refl _ | refine .keep ?_ | refine .drop ?_ | exact .nil)):OK h O':=(w.spec ok).1
theorem hy {h:Heap} {O O':List (Nat × AObj)} (ok:OK h O) (w:WO O O':=by (repeat' first | exact .refl _ | refine .keep ?_ | refine .drop ?_ | exact .nil)):WH (Hp h O) (Hp h O'):=(w.spec ok).2.2
theorem wy {n:Nat} {l l':List (Nat × D)} {h:Heap} {O O':List (Nat × AObj)} (ok:OK h O) (hl:WL n l l':=by (repeat' first | exact .refl _ | exact .zero _ _ _ | exact .nil _ | exact .nil | refine .tupC ?_ | refine .aggC ?_ | refine Wd.toE (.aggC ?_) (none_eq _) | refine .cons ?_ ?_)) (w:WO O O':=by (repeat' first | exact .refl _ | refine .keep ?_ | refine .drop ?_ | exact .nil)):WS ⟨AI n l,Hp h O⟩ ⟨AI n l',Hp h O'⟩:=WS.mk' hl ok w
theorem okT {ρ β:Type} {P:Program} {g:FuncId} {ds:List D} {H:Heap} {X:Option ρ} {Q:ρ -> D -> Heap -> Prop} {f:ρ -> Option β} {G:β -> Prop} {R:D -> Heap -> Prop} (w:∀ G:ρ -> Prop,OptP X G -> CallsA P g ds H fun d h'=>∃ r,G r /\ Q r d h') (hF:OptP (X.bind f) G) (hk:∀ r d h',X=some r -> Q r d h' -> OptP (f r) G -> R d h'):CallsA P g ds H R:=by
 obtain ⟨r0,hr,hF⟩:=A8 hF;refine (w (fun r=>r=r0) ⟨r0,hr,rfl⟩).mono ?_;rintro d h' ⟨r,rfl,hq⟩;exact hk _ _ _ hr hq hF
section
variable {g n:Prop} (h:n)
include h
theorem xr (s:Bx n -> g:=by (intro h;(repeat (first | with_reducible refine Exit.sel_ret ?_ | with_reducible refine Exit.blk_ret ?_ | with_reducible refine Exit.jmp_ret ?_));exact h.v)):g:=s ⟨h⟩
end
abbrev Zs (h:Heap) (O:List (Nat × AObj)) (n:Nat) (l:List (Nat × D)) (s:St):Prop:=OK h O /\ WS s ⟨AI n l,Hp h O⟩
theorem st_ {P:Program} {md:Nat -> Nat} {w:Bool} {ops:Array Oper} {os:List Oper} {k:St -> Prop} {n:Nat} {l:List (Nat × D)} {h:Heap} {t ty:TypeId} {pos:String} {af:Array Edge} {x y:Operand} {O:List (Nat × AObj)} {i off:Nat} {cs cs':List D} {v:D} {c:Nat} (j:Nat) (ok:OK h O) (hi:i ≠ 0) (h2:szD P t=some c) (hk:OK h (O.set j (i,.cells cs')) -> AO P md w ops os ⟨AI n l,Hp h (O.set j (i,.cells cs'))⟩ k) (hx:opL n l x=.ptr i off:=by rfl) (hy:opL n l y=v:=by rfl) (hj:O[j]?=some (i,.cells cs):=by rfl) (h1:v.lay=true:=by rfl) (hc:v.cells.length=c:=by rfl) (h3:Nat.ble (off + v.cells.length) cs.length=true:=by rfl) (h4:GH cs off v.cells=cs':=by (dsimp only [GH,D.cells,bi,bj,Nat.zero_add,Nat.reduceAdd,List.take_succ_cons,List.take_zero,List.drop_succ_cons,List.drop_zero,List.nil_append,List.cons_append] <;> exact rfl)):AO P md w ops (⟨none,.store t x y,ty,pos,af,none⟩ :: os) ⟨AI n l,Hp h O⟩ k:=F3 ok hx hy hj hi h1 (by rw [h2,hc]) h3 h4 hk
section
variable {g n:Prop} (h:n)
include h
theorem rp (s:Bx n -> g:=by (intro h;(repeat (first | with_reducible refine Exit.sel_pan ?_ | with_reducible refine Exit.blk_pan ?_));exact h.v)):g:=s ⟨h⟩
theorem rr (s:Bx n -> g:=by (intro h;(repeat (first | with_reducible refine Exit.sel_ret ?_ | with_reducible refine Exit.blk_ret ?_ | with_reducible refine Exit.jmp_ret ?_));refine KH rfl (by repeat' first | exact .nil | apply RV.tmp (v:=.int _ _) rfl | apply RV.tmp (v:=.bool _) rfl | apply RV.tmp (v:=.str _) rfl | apply RV.tmp (v:=.sl _ _ _) rfl | apply RV.tmp (v:=.agg _) rfl | apply RV.tmp (v:=ifD _) rfl | apply RV.tmp (v:=D0 _ _ _) rfl | apply RV.tmp (v:=GW _ _ _ _) rfl | apply RV.tmp (v:=.float _ _) rfl | apply RV.tmp (v:=.cplx _ _ _) rfl) ?_;exact h.v)):g:=s ⟨h⟩
end
theorem cl {P:Program} {md:Nat -> Nat} {w:Bool} {ops:Array Oper} {os:List Oper} {k:St -> Prop} {n:Nat} {l:List (Nat × D)} {h:Heap} {d:Nat} {ty:TypeId} {pos:String} {af:Array Edge} {g:FuncId} {args:Array Operand} {ts:Array TypeId} {ds:List D} (hc:CallsA P g ds h fun v h'=>AO P md w ops os ⟨AI n ((d,v) :: l),h'⟩ k) (hw:WdC (args.toList.map (opL n l)) ds:=by (repeat' first | exact .refl _ | exact .zero _ _ _ | exact .nil _ | exact .nil | refine .tupC ?_ | refine .aggC ?_ | refine Wd.toE (.aggC ?_) (none_eq _) | refine .cons ?_ ?_)):AO P md w ops (⟨some d,.call ⟨.value (.func g),args,ts⟩,ty,pos,af,none⟩ :: os) ⟨AI n l,h⟩ k:=RS hc hw
section
variable {g n:Prop} (h:n)
include h
theorem A9 (s:Bx n -> g:=by (intro h;refine Ls ?_;exact h.v)):g:=s ⟨h⟩
theorem Aif (s:Bx n -> g:=by (intro h;refine Aeo ?_;exact h.v)):g:=s ⟨h⟩
theorem Hs (s:Bx n -> g:=by (intro h;refine L5 ?_;exact h.v)):g:=s ⟨h⟩
theorem Nf (s:Bx n -> g:=by (intro h;refine Cy (mdl []) ?_;exact h.v)):g:=s ⟨h⟩
theorem Ajw (s:Bx n -> g:=by (intro h;refine Ajy rfl rfl (by assumption) ?_;exact h.v)):g:=s ⟨h⟩
theorem Ajx (s:Bx n -> g:=by (intro h;refine Akd ?_;exact h.v)):g:=s ⟨h⟩
theorem Aj8 (s:Bx n -> g:=by (intro h;refine Afb rfl rfl (by assumption) ?_;exact h.v)):g:=s ⟨h⟩
theorem Fy (s:Bx n -> g:=by (intro h;refine S_m (v:=.int _ _) rfl ?_;exact h.v)):g:=s ⟨h⟩
theorem JZ (s:Bx n -> g:=by (intro h;refine S_a (v:=.int _ _) rfl ?_;exact h.v)):g:=s ⟨h⟩
theorem Aav (s:Bx n -> g:=by (intro h;refine S_a (v:=.bool _) rfl ?_;exact h.v)):g:=s ⟨h⟩
theorem Aby (s:Bx n -> g:=by (intro h;refine R6 ?_;exact h.v)):g:=s ⟨h⟩
theorem C3 (s:Bx n -> g:=by (intro h;refine S_m (v:=.bool _) rfl ?_;exact h.v)):g:=s ⟨h⟩
theorem Dq (s:Bx n -> g:=by (intro h;refine Of ?_;exact h.v)):g:=s ⟨h⟩
theorem VP (s:Bx n -> g:=by (intro h;refine KS (v:=.bool _) rfl (by assumption) rfl ?_;exact h.v)):g:=s ⟨h⟩
theorem VV (s:Bx n -> g:=by (intro h;refine Ml (v:=.bool _) rfl (by assumption) rfl ?_;exact h.v)):g:=s ⟨h⟩
theorem Aj7 (s:Bx n -> g:=by (intro h;refine Adl rfl rfl ?_;exact h.v)):g:=s ⟨h⟩
theorem TS (s:Bx n -> g:=by (intro h;refine S_m (v:=.ptr _ _) rfl ?_;exact h.v)):g:=s ⟨h⟩
theorem MQ (s:Bx n -> g:=by (intro h;refine Wc ?_;exact h.v)):g:=s ⟨h⟩
theorem Aaa (s:Bx n -> g:=by (intro h;refine DN rfl rfl (Abp ..) ?_;exact h.v)):g:=s ⟨h⟩
theorem Kl (s:Bx n -> g:=by (intro h;refine S_m (v:=.sl _ _ _) rfl ?_;exact h.v)):g:=s ⟨h⟩
theorem TM (s:Bx n -> g:=by (intro h;refine Yz (v:=.ptr _ _) rfl rfl ?_;exact h.v)):g:=s ⟨h⟩
theorem Ajv (s:Bx n -> g:=by (intro h;refine Afb rfl rfl rfl ?_;exact h.v)):g:=s ⟨h⟩
theorem QA (s:Bx n -> g:=by (intro h;refine DN rfl rfl (Adh ..) ?_;exact h.v)):g:=s ⟨h⟩
theorem Aab (s:Bx n -> g:=by (intro h;refine DN rfl rfl (Abq ..) ?_;exact h.v)):g:=s ⟨h⟩
theorem S5 (s:Bx n -> g:=by (intro h;refine S_m (v:=.str _) rfl ?_;exact h.v)):g:=s ⟨h⟩
theorem XP (s:Bx n -> g:=by (intro h;refine Ah7 rfl rfl ?_;exact h.v)):g:=s ⟨h⟩
theorem Ajq (s:Bx n -> g:=by (intro h;refine YK ?_;exact h.v)):g:=s ⟨h⟩
theorem Akb (s:Bx n -> g:=by (intro h;simp only [Exit.sel,Exit.blk,Exit.jmp,if_true,if_false,reduceIte,Nat.reduceEqDiff,Nat.succ_ne_zero,Nat.zero_ne_one,Nat.one_ne_zero];exact h.v)):g:=s ⟨h⟩
theorem UX (s:Bx n -> g:=by (intro h;refine Aip rfl (Adz _) ?_;exact h.v)):g:=s ⟨h⟩
theorem Xw (s:Bx n -> g:=by (intro h;refine DH rfl Mj Ax ?_;exact h.v)):g:=s ⟨h⟩
theorem SV (s:Bx n -> g:=by (intro h;refine Cr (j:=0) ok rfl rfl rfl (by assumption) (AK (v:=.int _ _) B3 Ax rfl) ?_;exact h.v)):g:=s ⟨h⟩
theorem Tf (s:Bx n -> g:=by (intro h;refine DN rfl rfl (Abs ..) ?_;exact h.v)):g:=s ⟨h⟩
theorem V1 (s:Bx n -> g:=by (intro h;refine DN rfl rfl (Ae7 ..) ?_;exact h.v)):g:=s ⟨h⟩
theorem R3 (s:Bx n -> g:=by (intro h;refine Cr (j:=0) ok rfl rfl rfl (by assumption) (AK (v:=.str _) By Ay rfl) ?_;exact h.v)):g:=s ⟨h⟩
theorem Yo (s:Bx n -> g:=by (intro h;refine S_a (v:=.sl _ _ _) rfl ?_;exact h.v)):g:=s ⟨h⟩
theorem TP (s:Bx n -> g:=by (intro h;refine DN rfl rfl (Aca ..) ?_;exact h.v)):g:=s ⟨h⟩
theorem UA (s:Bx n -> g:=by (intro h;refine Afh rfl AS ?_;exact h.v)):g:=s ⟨h⟩
theorem Na (s:Bx n -> g:=by (intro h;refine DN rfl rfl (Acp ..) ?_;exact h.v)):g:=s ⟨h⟩
theorem Lu (s:Bx n -> g:=by (intro h;refine DN rfl rfl Ach ?_;exact h.v)):g:=s ⟨h⟩
theorem RB (s:Bx n -> g:=by (intro h;refine AE rfl (AK By Ay rfl) ?_;exact h.v)):g:=s ⟨h⟩
theorem Ajz (s:Bx n -> g:=by (intro h;refine S_m (v:=.tup _) rfl ?_;exact h.v)):g:=s ⟨h⟩
theorem W6 (s:Bx n -> g:=by (intro h;refine DN rfl rfl (Adp ..) ?_;exact h.v)):g:=s ⟨h⟩
theorem Aa6 (s:Bx n -> g:=by (intro h;refine AE rfl (AK Su H7 rfl) ?_;exact h.v)):g:=s ⟨h⟩
theorem Aau (s:Bx n -> g:=by (intro h;refine FA rfl Dt ?_;exact h.v)):g:=s ⟨h⟩
theorem V3 (s:Bx n -> g:=by (intro h;refine FA rfl Fo ?_;exact h.v)):g:=s ⟨h⟩
theorem Ajo (s:Bx n -> g:=by (intro h;refine DH rfl NO EH ?_;exact h.v)):g:=s ⟨h⟩
theorem X5 (s:Bx n -> g:=by (intro h;refine FA rfl Fp ?_;exact h.v)):g:=s ⟨h⟩
theorem Aeb (s:Bx n -> g:=by (intro h;refine DH rfl QM Ay ?_;exact h.v)):g:=s ⟨h⟩
theorem TO (s:Bx n -> g:=by (intro h;refine DH rfl Jt Ay ?_;exact h.v)):g:=s ⟨h⟩
theorem Ae5 (s:Bx n -> g:=by (intro h;refine A2 rfl Jt Ay rfl ?_;exact h.v)):g:=s ⟨h⟩
theorem VL (s:Bx n -> g:=by (intro h;refine Cr (j:=1) ok rfl rfl rfl (by assumption) (AK (v:=.int _ _) B3 Ax rfl) ?_;exact h.v)):g:=s ⟨h⟩
theorem Akj (s:Bx n -> g:=by (intro h;refine Cr (j:=2) ok rfl rfl rfl (by assumption) (AK (v:=.sl _ _ _) RT EH rfl) ?_;exact h.v)):g:=s ⟨h⟩
theorem VT (s:Bx n -> g:=by (intro h;refine DH rfl QG Ay ?_;exact h.v)):g:=s ⟨h⟩
theorem Yu (s:Bx n -> g:=by (intro h;refine A2 rfl NM H7 rfl ?_;exact h.v)):g:=s ⟨h⟩
theorem X9 (s:Bx n -> g:=by (intro h;refine AE rfl (AK B3 Ax rfl) ?_;exact h.v)):g:=s ⟨h⟩
theorem WY (s:Bx n -> g:=by (intro h;refine Cr (j:=1) ok rfl rfl rfl (by assumption) (AK (v:=.str _) By Ay rfl) ?_;exact h.v)):g:=s ⟨h⟩
theorem Xn (s:Bx n -> g:=by (intro h;refine S_m (v:=.fn (.func _) _ _) rfl ?_;exact h.v)):g:=s ⟨h⟩
theorem Xf (s:Bx n -> g:=by (intro h;refine DH rfl RA Jh ?_;exact h.v)):g:=s ⟨h⟩
theorem XN (s:Bx n -> g:=by (intro h;refine S_a (v:=.str _) rfl ?_;exact h.v)):g:=s ⟨h⟩
theorem XZ (s:Bx n -> g:=by (intro h;refine A2 rfl N5 AA rfl ?_;exact h.v)):g:=s ⟨h⟩
theorem Ag8 (s:Bx n -> g:=by (intro h;refine Cr (j:=5) ok rfl rfl rfl (by assumption) (AK (v:=.sl _ _ _) Hb Eh rfl) ?_;exact h.v)):g:=s ⟨h⟩
theorem Aho (s:Bx n -> g:=by (intro h;refine A2 rfl Tv H7 rfl ?_;exact h.v)):g:=s ⟨h⟩
theorem Z9 (s:Bx n -> g:=by (intro h;refine DH rfl Hz Ay ?_;exact h.v)):g:=s ⟨h⟩
theorem Zq (s:Bx n -> g:=by (intro h;refine DH rfl Re Dk ?_;exact h.v)):g:=s ⟨h⟩
theorem ZX (s:Bx n -> g:=by (intro h;refine DH rfl QL Kv ?_;exact h.v)):g:=s ⟨h⟩
theorem ZG (s:Bx n -> g:=by (intro h;refine AE rfl (AK MN BN rfl) ?_;exact h.v)):g:=s ⟨h⟩
theorem YQ (s:Bx n -> g:=by (intro h;refine DN rfl rfl Acm ?_;exact h.v)):g:=s ⟨h⟩
theorem Zc (s:Bx n -> g:=by (intro h;refine FA rfl Jc ?_;exact h.v)):g:=s ⟨h⟩
theorem Aal (s:Bx n -> g:=by (intro h;refine A2 rfl Hz Ay rfl ?_;exact h.v)):g:=s ⟨h⟩
theorem YO (s:Bx n -> g:=by (intro h;refine DH rfl Br Ax ?_;exact h.v)):g:=s ⟨h⟩
theorem YP (s:Bx n -> g:=by (intro h;refine DH rfl N5 AA ?_;exact h.v)):g:=s ⟨h⟩
theorem Ajd (s:Bx n -> g:=by (intro h;refine Cr (j:=1) ok rfl rfl rfl (by assumption) (AK (v:=.bool _) MN BN rfl) ?_;exact h.v)):g:=s ⟨h⟩
theorem Ah4 (s:Bx n -> g:=by (intro h;refine Cr (j:=0) ok rfl rfl rfl (by assumption) (AK (v:=.sl _ _ _) MZ Jh rfl) ?_;exact h.v)):g:=s ⟨h⟩
theorem Abd (s:Bx n -> g:=by (intro h;refine FA rfl GB ?_;exact h.v)):g:=s ⟨h⟩
theorem Aba (s:Bx n -> g:=by (intro h;refine A2 rfl SQ BN rfl ?_;exact h.v)):g:=s ⟨h⟩
theorem Ad4 (s:Bx n -> g:=by (intro h;refine S_a (v:=D0 _ _ _) rfl ?_;exact h.v)):g:=s ⟨h⟩
theorem Ad7 (s:Bx n -> g:=by (intro h;refine AE rfl (AK HJ Dk rfl) ?_;exact h.v)):g:=s ⟨h⟩
theorem Adu (s:Bx n -> g:=by (intro h;refine S_m (v:=D0 _ _ _) rfl ?_;exact h.v)):g:=s ⟨h⟩
theorem Afl (s:Bx n -> g:=by (intro h;refine DH rfl Ra Ax ?_;exact h.v)):g:=s ⟨h⟩
theorem Afo (s:Bx n -> g:=by (intro h;refine DH rfl MV Hh ?_;exact h.v)):g:=s ⟨h⟩
theorem Afw (s:Bx n -> g:=by (intro h;refine DH rfl SX BN ?_;exact h.v)):g:=s ⟨h⟩
theorem Afs (s:Bx n -> g:=by (intro h;refine Cr (j:=0) ok rfl rfl rfl (by assumption) (AK (v:=D0 _ _ _) Qt Kv rfl) ?_;exact h.v)):g:=s ⟨h⟩
theorem Af2 (s:Bx n -> g:=by (intro h;refine A2 rfl Tr Aw rfl ?_;exact h.v)):g:=s ⟨h⟩
theorem Afx (s:Bx n -> g:=by (intro h;refine A2 rfl TA AA rfl ?_;exact h.v)):g:=s ⟨h⟩
theorem Ah1 (s:Bx n -> g:=by (intro h;refine Cr (j:=0) ok rfl rfl rfl (by assumption) (AK (v:=.bool _) MN BN rfl) ?_;exact h.v)):g:=s ⟨h⟩
theorem Aii (s:Bx n -> g:=by (intro h;refine AE rfl (AK Ui Hh rfl) ?_;exact h.v)):g:=s ⟨h⟩
theorem Agp (s:Bx n -> g:=by (intro h;refine Acs rfl rfl Jc AS YM ?_;exact h.v)):g:=s ⟨h⟩
theorem Ai7 (s:Bx n -> g:=by (intro h;refine Cr (j:=2) ok rfl rfl rfl (by assumption) (AK (v:=.bool _) MN BN rfl) ?_;exact h.v)):g:=s ⟨h⟩
theorem Aje (s:Bx n -> g:=by (intro h;refine Cr (j:=1) ok rfl rfl rfl (by assumption) (AK (v:=D0 _ _ _) Qt Kv rfl) ?_;exact h.v)):g:=s ⟨h⟩
theorem Ai4 (s:Bx n -> g:=by (intro h;refine Cr (j:=0) ok rfl rfl rfl (by assumption) (AK (v:=.ptr _ _) MA KP rfl) ?_;exact h.v)):g:=s ⟨h⟩
theorem Aiv (s:Bx n -> g:=by (intro h;refine Cr (j:=1) ok rfl rfl rfl (by assumption) (AK (v:=.ptr _ _) MA KP rfl) ?_;exact h.v)):g:=s ⟨h⟩
theorem Ai5 (s:Bx n -> g:=by (intro h;refine Cr (j:=3) ok rfl rfl rfl (by assumption) (AK (v:=.sl _ _ _) Hb Eh rfl) ?_;exact h.v)):g:=s ⟨h⟩
theorem Aiw (s:Bx n -> g:=by (intro h;refine Cr (j:=1) ok rfl rfl rfl (by assumption) (AK (v:=D0 _ _ _) Dv Bj rfl) ?_;exact h.v)):g:=s ⟨h⟩
theorem DY (s:Bx n -> g:=by (intro h;refine Ajw ?_;refine Ajx ?_;exact h.v)):g:=s ⟨h⟩
theorem SO (s:Bx n -> g:=by (intro h;refine Aj8 ?_;refine Aif ?_;exact h.v)):g:=s ⟨h⟩
theorem Bw (s:Bx n -> g:=by (intro h;refine Hs ?_;refine Nf ?_;exact h.v)):g:=s ⟨h⟩
theorem Bi (s:Bx n -> g:=by (intro h;refine A9 ?_;refine DY ?_;exact h.v)):g:=s ⟨h⟩
theorem M9 (s:Bx n -> g:=by (intro h;refine SO ?_;refine SO ?_;exact h.v)):g:=s ⟨h⟩
theorem Fg (s:Bx n -> g:=by (intro h;refine Aav ?_;refine A9 ?_;exact h.v)):g:=s ⟨h⟩
theorem IS (s:Bx n -> g:=by (intro h;refine JZ ?_;refine A9 ?_;exact h.v)):g:=s ⟨h⟩
theorem SD (s:Bx n -> g:=by (intro h;refine VP ?_;refine A9 ?_;exact h.v)):g:=s ⟨h⟩
theorem M7 (s:Bx n -> g:=by (intro h;refine VV ?_;refine A9 ?_;exact h.v)):g:=s ⟨h⟩
theorem Gz (s:Bx n -> g:=by (intro h;refine Bw ?_;refine Fy ?_;exact h.v)):g:=s ⟨h⟩
theorem Aac (s:Bx n -> g:=by (intro h;refine Aj7 ?_;refine Aif ?_;exact h.v)):g:=s ⟨h⟩
theorem Fu (s:Bx n -> g:=by (intro h;refine Fg ?_;refine Aby ?_;exact h.v)):g:=s ⟨h⟩
theorem X6 (s:Bx n -> g:=by (intro h;refine Fy ?_;refine Bi ?_;exact h.v)):g:=s ⟨h⟩
theorem Ii (s:Bx n -> g:=by (intro h;refine M9 ?_;refine M9 ?_;exact h.v)):g:=s ⟨h⟩
theorem Af0 (s:Bx n -> g:=by (intro h;refine Ajv ?_;refine Aif ?_;exact h.v)):g:=s ⟨h⟩
theorem W8 (s:Bx n -> g:=by (intro h;refine IS ?_;refine Aby ?_;exact h.v)):g:=s ⟨h⟩
theorem Lx (s:Bx n -> g:=by (intro h;refine DY ?_;refine X6 ?_;exact h.v)):g:=s ⟨h⟩
theorem Gp (s:Bx n -> g:=by (intro h;refine A9 ?_;refine SD ?_;exact h.v)):g:=s ⟨h⟩
theorem Jk (s:Bx n -> g:=by (intro h;refine A9 ?_;refine Hs ?_;exact h.v)):g:=s ⟨h⟩
theorem Ai6 (s:Bx n -> g:=by (intro h;refine Fy ?_;refine A9 ?_;exact h.v)):g:=s ⟨h⟩
theorem Sw (s:Bx n -> g:=by (intro h;refine M9 ?_;refine SO ?_;exact h.v)):g:=s ⟨h⟩
theorem Fh (s:Bx n -> g:=by (intro h;refine Ajq ?_;refine Akb ?_;exact h.v)):g:=s ⟨h⟩
theorem V5 (s:Bx n -> g:=by (intro h;refine Aac ?_;refine Aac ?_;exact h.v)):g:=s ⟨h⟩
theorem Kh (s:Bx n -> g:=by (intro h;refine A9 ?_;refine M7 ?_;exact h.v)):g:=s ⟨h⟩
theorem Pd (s:Bx n -> g:=by (intro h;refine TS ?_;refine TM ?_;exact h.v)):g:=s ⟨h⟩
theorem F0 (s:Bx n -> g:=by (intro h;refine A9 ?_;refine Bw ?_;exact h.v)):g:=s ⟨h⟩
theorem Hg (s:Bx n -> g:=by (intro h;refine Bw ?_;refine Fu ?_;exact h.v)):g:=s ⟨h⟩
theorem Pb (s:Bx n -> g:=by (intro h;refine Dq ?_;refine Hs ?_;exact h.v)):g:=s ⟨h⟩
theorem Ki (s:Bx n -> g:=by (intro h;refine Bw ?_;refine Kl ?_;exact h.v)):g:=s ⟨h⟩
theorem Ht (s:Bx n -> g:=by (intro h;refine M9 ?_;refine M7 ?_;exact h.v)):g:=s ⟨h⟩
theorem VW (s:Bx n -> g:=by (intro h;refine Af0 ?_;refine Af0 ?_;exact h.v)):g:=s ⟨h⟩
theorem Lq (s:Bx n -> g:=by (intro h;refine Hs ?_;refine Gz ?_;exact h.v)):g:=s ⟨h⟩
theorem Aj3 (s:Bx n -> g:=by (intro h;refine Bw ?_;refine Aab ?_;exact h.v)):g:=s ⟨h⟩
theorem Im (s:Bx n -> g:=by (intro h;refine Aj3 ?_;refine Jk ?_;exact h.v)):g:=s ⟨h⟩
theorem Aj0 (s:Bx n -> g:=by (intro h;refine Nf ?_;refine QA ?_;exact h.v)):g:=s ⟨h⟩
theorem Nb (s:Bx n -> g:=by (intro h;refine Aj0 ?_;refine Ai6 ?_;exact h.v)):g:=s ⟨h⟩
theorem Ow (s:Bx n -> g:=by (intro h;refine Ai6 ?_;refine MQ ?_;exact h.v)):g:=s ⟨h⟩
theorem LJ (s:Bx n -> g:=by (intro h;refine JZ ?_;refine IS ?_;exact h.v)):g:=s ⟨h⟩
theorem Va (s:Bx n -> g:=by (intro h;refine C3 ?_;refine A9 ?_;exact h.v)):g:=s ⟨h⟩
theorem Lr (s:Bx n -> g:=by (intro h;refine Bw ?_;refine W8 ?_;exact h.v)):g:=s ⟨h⟩
theorem Jz (s:Bx n -> g:=by (intro h;refine TS ?_;refine A9 ?_;exact h.v)):g:=s ⟨h⟩
theorem M8 (s:Bx n -> g:=by (intro h;refine Bw ?_;refine Fg ?_;exact h.v)):g:=s ⟨h⟩
theorem Nw (s:Bx n -> g:=by (intro h;refine Bw ?_;refine S5 ?_;exact h.v)):g:=s ⟨h⟩
theorem Xv (s:Bx n -> g:=by (intro h;refine Pb ?_;refine MQ ?_;exact h.v)):g:=s ⟨h⟩
theorem Ai8 (s:Bx n -> g:=by (intro h;refine SD ?_;refine A9 ?_;exact h.v)):g:=s ⟨h⟩
theorem Ai3 (s:Bx n -> g:=by (intro h;refine M7 ?_;refine A9 ?_;exact h.v)):g:=s ⟨h⟩
theorem TQ (s:Bx n -> g:=by (intro h;refine Nf ?_;refine Fy ?_;exact h.v)):g:=s ⟨h⟩
theorem LA (s:Bx n -> g:=by (intro h;refine JZ ?_;refine W8 ?_;exact h.v)):g:=s ⟨h⟩
theorem Yl (s:Bx n -> g:=by (intro h;refine Bi ?_;refine Aaa ?_;exact h.v)):g:=s ⟨h⟩
theorem Mv (s:Bx n -> g:=by (intro h;refine A9 ?_;refine Aby ?_;exact h.v)):g:=s ⟨h⟩
theorem QV (s:Bx n -> g:=by (intro h;refine Bi ?_;refine Va ?_;exact h.v)):g:=s ⟨h⟩
theorem Ac9 (s:Bx n -> g:=by (intro h;refine Aaa ?_;refine Fg ?_;exact h.v)):g:=s ⟨h⟩
theorem Z1 (s:Bx n -> g:=by (intro h;refine S5 ?_;refine Bi ?_;exact h.v)):g:=s ⟨h⟩
theorem Qp (s:Bx n -> g:=by (intro h;refine Aaa ?_;refine C3 ?_;exact h.v)):g:=s ⟨h⟩
theorem LC (s:Bx n -> g:=by (intro h;refine M9 ?_;refine SD ?_;exact h.v)):g:=s ⟨h⟩
theorem Ai2 (s:Bx n -> g:=by (intro h;refine XP ?_;refine XP ?_;exact h.v)):g:=s ⟨h⟩
theorem ZS (s:Bx n -> g:=by (intro h;refine Pd ?_;refine Xw ?_;exact h.v)):g:=s ⟨h⟩
theorem Ym (s:Bx n -> g:=by (intro h;refine Lx ?_;refine Aaa ?_;exact h.v)):g:=s ⟨h⟩
theorem Abn (s:Bx n -> g:=by (intro h;refine Ajz ?_;refine Ai2 ?_;exact h.v)):g:=s ⟨h⟩
theorem Qw (s:Bx n -> g:=by (intro h;refine Bw ?_;refine Ac9 ?_;exact h.v)):g:=s ⟨h⟩
theorem Nc (s:Bx n -> g:=by (intro h;refine Bw ?_;refine TS ?_;exact h.v)):g:=s ⟨h⟩
theorem Ajf (s:Bx n -> g:=by (intro h;refine Lx ?_;refine TP ?_;exact h.v)):g:=s ⟨h⟩
theorem Nz (s:Bx n -> g:=by (intro h;refine Sw ?_;refine SD ?_;exact h.v)):g:=s ⟨h⟩
theorem Tt (s:Bx n -> g:=by (intro h;refine Bw ?_;refine IS ?_;exact h.v)):g:=s ⟨h⟩
theorem YS (s:Bx n -> g:=by (intro h;refine QA ?_;refine IS ?_;exact h.v)):g:=s ⟨h⟩
theorem Ns (s:Bx n -> g:=by (intro h;refine DY ?_;refine Z1 ?_;exact h.v)):g:=s ⟨h⟩
theorem Z3 (s:Bx n -> g:=by (intro h;refine V5 ?_;refine V5 ?_;exact h.v)):g:=s ⟨h⟩
theorem RM (s:Bx n -> g:=by (intro h;refine Bi ?_;refine X6 ?_;exact h.v)):g:=s ⟨h⟩
theorem Ob (s:Bx n -> g:=by (intro h;refine Aab ?_;refine A9 ?_;exact h.v)):g:=s ⟨h⟩
theorem TN (s:Bx n -> g:=by (intro h;refine DY ?_;refine Ai3 ?_;exact h.v)):g:=s ⟨h⟩
theorem Ok (s:Bx n -> g:=by (intro h;refine Gz ?_;refine Fy ?_;exact h.v)):g:=s ⟨h⟩
theorem TJ (s:Bx n -> g:=by (intro h;refine ZS ?_;refine SV ?_;exact h.v)):g:=s ⟨h⟩
theorem Aih (s:Bx n -> g:=by (intro h;refine TS ?_;refine Bi ?_;exact h.v)):g:=s ⟨h⟩
theorem Qv (s:Bx n -> g:=by (intro h;refine Dq ?_;refine Nb ?_;exact h.v)):g:=s ⟨h⟩
theorem Pc (s:Bx n -> g:=by (intro h;refine Sw ?_;refine M7 ?_;exact h.v)):g:=s ⟨h⟩
theorem Tg (s:Bx n -> g:=by (intro h;refine V1 ?_;refine A9 ?_;exact h.v)):g:=s ⟨h⟩
theorem Ajb (s:Bx n -> g:=by (intro h;refine TM ?_;refine Bi ?_;exact h.v)):g:=s ⟨h⟩
theorem Aa8 (s:Bx n -> g:=by (intro h;refine Tf ?_;refine C3 ?_;exact h.v)):g:=s ⟨h⟩
theorem Px (s:Bx n -> g:=by (intro h;refine Ym ?_;refine Kh ?_;exact h.v)):g:=s ⟨h⟩
theorem Abg (s:Bx n -> g:=by (intro h;refine Bi ?_;refine UX ?_;exact h.v)):g:=s ⟨h⟩
theorem Afv (s:Bx n -> g:=by (intro h;refine VW ?_;refine VW ?_;exact h.v)):g:=s ⟨h⟩
theorem PX (s:Bx n -> g:=by (intro h;refine Fg ?_;refine Bw ?_;exact h.v)):g:=s ⟨h⟩
theorem Aex (s:Bx n -> g:=by (intro h;refine Aih ?_;refine Ajb ?_;exact h.v)):g:=s ⟨h⟩
theorem Qz (s:Bx n -> g:=by (intro h;refine Ii ?_;refine Ii ?_;exact h.v)):g:=s ⟨h⟩
theorem XA (s:Bx n -> g:=by (intro h;refine SO ?_;refine SD ?_;exact h.v)):g:=s ⟨h⟩
theorem Qy (s:Bx n -> g:=by (intro h;refine MQ ?_;refine Hs ?_;exact h.v)):g:=s ⟨h⟩
theorem VY (s:Bx n -> g:=by (intro h;refine DY ?_;refine Ai8 ?_;exact h.v)):g:=s ⟨h⟩
theorem VQ (s:Bx n -> g:=by (intro h;refine Hs ?_;refine Bw ?_;exact h.v)):g:=s ⟨h⟩
theorem Q8 (s:Bx n -> g:=by (intro h;refine Aaa ?_;refine A9 ?_;exact h.v)):g:=s ⟨h⟩
theorem Yk (s:Bx n -> g:=by (intro h;refine Bi ?_;refine Ai8 ?_;exact h.v)):g:=s ⟨h⟩
theorem Rn (s:Bx n -> g:=by (intro h;refine TQ ?_;refine YS ?_;exact h.v)):g:=s ⟨h⟩
theorem Rz (s:Bx n -> g:=by (intro h;refine Yo ?_;refine A9 ?_;exact h.v)):g:=s ⟨h⟩
theorem Acu (s:Bx n -> g:=by (intro h;refine Bi ?_;refine R3 ?_;exact h.v)):g:=s ⟨h⟩
theorem R5 (s:Bx n -> g:=by (intro h;refine Xv ?_;refine Hs ?_;exact h.v)):g:=s ⟨h⟩
theorem Sq (s:Bx n -> g:=by (intro h;refine SO ?_;refine M7 ?_;exact h.v)):g:=s ⟨h⟩
theorem RN (s:Bx n -> g:=by (intro h;refine Ajo ?_;refine A9 ?_;exact h.v)):g:=s ⟨h⟩
theorem SA (s:Bx n -> g:=by (intro h;refine Ii ?_;refine SD ?_;exact h.v)):g:=s ⟨h⟩
theorem Yc (s:Bx n -> g:=by (intro h;refine Abn ?_;refine XP ?_;exact h.v)):g:=s ⟨h⟩
theorem Tl (s:Bx n -> g:=by (intro h;refine Ajf ?_;refine Gp ?_;exact h.v)):g:=s ⟨h⟩
theorem Abm (s:Bx n -> g:=by (intro h;refine A9 ?_;refine MQ ?_;exact h.v)):g:=s ⟨h⟩
theorem Tc (s:Bx n -> g:=by (intro h;refine Aau ?_;refine Ow ?_;exact h.v)):g:=s ⟨h⟩
theorem Abi (s:Bx n -> g:=by (intro h;refine DY ?_;refine Kl ?_;exact h.v)):g:=s ⟨h⟩
theorem TL (s:Bx n -> g:=by (intro h;refine DY ?_;refine Aex ?_;exact h.v)):g:=s ⟨h⟩
theorem TV (s:Bx n -> g:=by (intro h;refine Gz ?_;refine Aa8 ?_;exact h.v)):g:=s ⟨h⟩
theorem TR (s:Bx n -> g:=by (intro h;refine Dq ?_;refine Bw ?_;exact h.v)):g:=s ⟨h⟩
theorem TK (s:Bx n -> g:=by (intro h;refine Yl ?_;refine Gp ?_;exact h.v)):g:=s ⟨h⟩
theorem UJ (s:Bx n -> g:=by (intro h;refine UX ?_;refine A9 ?_;exact h.v)):g:=s ⟨h⟩
theorem Uz (s:Bx n -> g:=by (intro h;refine TM ?_;refine Xw ?_;exact h.v)):g:=s ⟨h⟩
theorem Afq (s:Bx n -> g:=by (intro h;refine Sw ?_;refine V5 ?_;exact h.v)):g:=s ⟨h⟩
theorem UH (s:Bx n -> g:=by (intro h;refine Bi ?_;refine Ai3 ?_;exact h.v)):g:=s ⟨h⟩
theorem Ago (s:Bx n -> g:=by (intro h;refine Gz ?_;refine IS ?_;exact h.v)):g:=s ⟨h⟩
theorem Aj4 (s:Bx n -> g:=by (intro h;refine Bi ?_;refine RB ?_;exact h.v)):g:=s ⟨h⟩
theorem Afm (s:Bx n -> g:=by (intro h;refine Aj4 ?_;refine Bi ?_;exact h.v)):g:=s ⟨h⟩
theorem VK (s:Bx n -> g:=by (intro h;refine Acu ?_;refine Bi ?_;exact h.v)):g:=s ⟨h⟩
theorem VX (s:Bx n -> g:=by (intro h;refine Bi ?_;refine SV ?_;exact h.v)):g:=s ⟨h⟩
theorem VS (s:Bx n -> g:=by (intro h;refine Dq ?_;refine Hg ?_;exact h.v)):g:=s ⟨h⟩
theorem Wg (s:Bx n -> g:=by (intro h;refine LJ ?_;refine Lq ?_;exact h.v)):g:=s ⟨h⟩
theorem We (s:Bx n -> g:=by (intro h;refine Gz ?_;refine W8 ?_;exact h.v)):g:=s ⟨h⟩
theorem V0 (s:Bx n -> g:=by (intro h;refine UX ?_;refine C3 ?_;exact h.v)):g:=s ⟨h⟩
theorem VM (s:Bx n -> g:=by (intro h;refine Dq ?_;refine MQ ?_;exact h.v)):g:=s ⟨h⟩
theorem VU (s:Bx n -> g:=by (intro h;refine Akj ?_;refine A9 ?_;exact h.v)):g:=s ⟨h⟩
theorem VN (s:Bx n -> g:=by (intro h;refine Gz ?_;refine Qp ?_;exact h.v)):g:=s ⟨h⟩
theorem Aft (s:Bx n -> g:=by (intro h;refine Na ?_;refine Bi ?_;exact h.v)):g:=s ⟨h⟩
theorem VZ (s:Bx n -> g:=by (intro h;refine Ii ?_;refine M7 ?_;exact h.v)):g:=s ⟨h⟩
theorem W3 (s:Bx n -> g:=by (intro h;refine Pd ?_;refine Aeb ?_;exact h.v)):g:=s ⟨h⟩
theorem Xu (s:Bx n -> g:=by (intro h;refine Aab ?_;refine C3 ?_;exact h.v)):g:=s ⟨h⟩
theorem Aiu (s:Bx n -> g:=by (intro h;refine Lx ?_;refine Tf ?_;exact h.v)):g:=s ⟨h⟩
theorem Xa (s:Bx n -> g:=by (intro h;refine M9 ?_;refine TN ?_;exact h.v)):g:=s ⟨h⟩
theorem V4 (s:Bx n -> g:=by (intro h;refine V5 ?_;refine Aac ?_;exact h.v)):g:=s ⟨h⟩
theorem WR (s:Bx n -> g:=by (intro h;refine Xv ?_;refine Ago ?_;exact h.v)):g:=s ⟨h⟩
theorem WZ (s:Bx n -> g:=by (intro h;refine JZ ?_;refine Fu ?_;exact h.v)):g:=s ⟨h⟩
theorem Xg (s:Bx n -> g:=by (intro h;refine UA ?_;refine Bi ?_;exact h.v)):g:=s ⟨h⟩
theorem XT (s:Bx n -> g:=by (intro h;refine Afq ?_;refine XA ?_;exact h.v)):g:=s ⟨h⟩
theorem YD (s:Bx n -> g:=by (intro h;refine Aiu ?_;refine QV ?_;exact h.v)):g:=s ⟨h⟩
theorem XD (s:Bx n -> g:=by (intro h;refine Ajf ?_;refine Yk ?_;exact h.v)):g:=s ⟨h⟩
theorem X1 (s:Bx n -> g:=by (intro h;refine Fy ?_;refine QA ?_;exact h.v)):g:=s ⟨h⟩
theorem Ai9 (s:Bx n -> g:=by (intro h;refine C3 ?_;refine Afv ?_;exact h.v)):g:=s ⟨h⟩
theorem YC (s:Bx n -> g:=by (intro h;refine Kl ?_;refine Fy ?_;exact h.v)):g:=s ⟨h⟩
theorem Yp (s:Bx n -> g:=by (intro h;refine Bw ?_;refine JZ ?_;exact h.v)):g:=s ⟨h⟩
theorem Yv (s:Bx n -> g:=by (intro h;refine Abm ?_;refine Qw ?_;exact h.v)):g:=s ⟨h⟩
theorem Yt (s:Bx n -> g:=by (intro h;refine Tt ?_;refine MQ ?_;exact h.v)):g:=s ⟨h⟩
theorem Ait (s:Bx n -> g:=by (intro h;refine Ae5 ?_;refine Afm ?_;exact h.v)):g:=s ⟨h⟩
theorem YT (s:Bx n -> g:=by (intro h;refine Dq ?_;refine Lr ?_;exact h.v)):g:=s ⟨h⟩
theorem Yh (s:Bx n -> g:=by (intro h;refine Abi ?_;refine Bi ?_;exact h.v)):g:=s ⟨h⟩
theorem Ajp (s:Bx n -> g:=by (intro h;refine Bi ?_;refine Aa6 ?_;exact h.v)):g:=s ⟨h⟩
theorem Yi (s:Bx n -> g:=by (intro h;refine Ajp ?_;refine Bi ?_;exact h.v)):g:=s ⟨h⟩
theorem Ye (s:Bx n -> g:=by (intro h;refine Z3 ?_;refine Z3 ?_;exact h.v)):g:=s ⟨h⟩
theorem Ze (s:Bx n -> g:=by (intro h;refine R3 ?_;refine UA ?_;exact h.v)):g:=s ⟨h⟩
theorem Aai (s:Bx n -> g:=by (intro h;refine Bw ?_;refine TJ ?_;exact h.v)):g:=s ⟨h⟩
theorem Zg (s:Bx n -> g:=by (intro h;refine Abg ?_;refine Kh ?_;exact h.v)):g:=s ⟨h⟩
theorem YW (s:Bx n -> g:=by (intro h;refine Ai9 ?_;refine Afv ?_;exact h.v)):g:=s ⟨h⟩
theorem ZJ (s:Bx n -> g:=by (intro h;refine Sw ?_;refine VY ?_;exact h.v)):g:=s ⟨h⟩
theorem Aam (s:Bx n -> g:=by (intro h;refine X5 ?_;refine Ow ?_;exact h.v)):g:=s ⟨h⟩
theorem Zj (s:Bx n -> g:=by (intro h;refine Bw ?_;refine Pd ?_;exact h.v)):g:=s ⟨h⟩
theorem Y1 (s:Bx n -> g:=by (intro h;refine Lq ?_;refine Fy ?_;exact h.v)):g:=s ⟨h⟩
theorem Zv (s:Bx n -> g:=by (intro h;refine W6 ?_;refine Kh ?_;exact h.v)):g:=s ⟨h⟩
theorem Y6 (s:Bx n -> g:=by (intro h;refine Fg ?_;refine VQ ?_;exact h.v)):g:=s ⟨h⟩
theorem Z7 (s:Bx n -> g:=by (intro h;refine Bw ?_;refine LA ?_;exact h.v)):g:=s ⟨h⟩
theorem Z8 (s:Bx n -> g:=by (intro h;refine C3 ?_;refine C3 ?_;exact h.v)):g:=s ⟨h⟩
theorem YJ (s:Bx n -> g:=by (intro h;refine Nw ?_;refine Fy ?_;exact h.v)):g:=s ⟨h⟩
theorem Za (s:Bx n -> g:=by (intro h;refine V1 ?_;refine C3 ?_;exact h.v)):g:=s ⟨h⟩
theorem ZO (s:Bx n -> g:=by (intro h;refine Jk ?_;refine Bw ?_;exact h.v)):g:=s ⟨h⟩
theorem YU (s:Bx n -> g:=by (intro h;refine Yc ?_;refine Yo ?_;exact h.v)):g:=s ⟨h⟩
theorem Aao (s:Bx n -> g:=by (intro h;refine Ki ?_;refine Fy ?_;exact h.v)):g:=s ⟨h⟩
theorem Zd (s:Bx n -> g:=by (intro h;refine DY ?_;refine Ait ?_;exact h.v)):g:=s ⟨h⟩
theorem Zb (s:Bx n -> g:=by (intro h;refine S5 ?_;refine UA ?_;exact h.v)):g:=s ⟨h⟩
theorem Ad5 (s:Bx n -> g:=by (intro h;refine Ki ?_;refine V3 ?_;exact h.v)):g:=s ⟨h⟩
theorem Zf (s:Bx n -> g:=by (intro h;refine RM ?_;refine Aft ?_;exact h.v)):g:=s ⟨h⟩
theorem Af1 (s:Bx n -> g:=by (intro h;refine Ah4 ?_;refine FA rfl HG ?_;exact h.v)):g:=s ⟨h⟩
theorem Afj (s:Bx n -> g:=by (intro h;refine Ki ?_;refine FA rfl Ds ?_;exact h.v)):g:=s ⟨h⟩
theorem Aas (s:Bx n -> g:=by (intro h;refine M8 ?_;refine Hs ?_;exact h.v)):g:=s ⟨h⟩
theorem Aa4 (s:Bx n -> g:=by (intro h;refine Lx ?_;refine Aab ?_;exact h.v)):g:=s ⟨h⟩
theorem Abj (s:Bx n -> g:=by (intro h;refine Lu ?_;refine A9 ?_;exact h.v)):g:=s ⟨h⟩
theorem Aay (s:Bx n -> g:=by (intro h;refine Abg ?_;refine Gp ?_;exact h.v)):g:=s ⟨h⟩
theorem Abl (s:Bx n -> g:=by (intro h;refine Yl ?_;refine Kh ?_;exact h.v)):g:=s ⟨h⟩
theorem Afc (s:Bx n -> g:=by (intro h;refine Gz ?_;refine Tg ?_;exact h.v)):g:=s ⟨h⟩
theorem Aaq (s:Bx n -> g:=by (intro h;refine Abn ?_;refine LJ ?_;exact h.v)):g:=s ⟨h⟩
theorem Aa9 (s:Bx n -> g:=by (intro h;refine Dq ?_;refine TQ ?_;exact h.v)):g:=s ⟨h⟩
theorem Aar (s:Bx n -> g:=by (intro h;refine Bi ?_;refine V1 ?_;exact h.v)):g:=s ⟨h⟩
theorem Aa7 (s:Bx n -> g:=by (intro h;refine Aaa ?_;refine Fu ?_;exact h.v)):g:=s ⟨h⟩
theorem Aaw (s:Bx n -> g:=by (intro h;refine W6 ?_;refine A9 ?_;exact h.v)):g:=s ⟨h⟩
theorem Abc (s:Bx n -> g:=by (intro h;refine Ag8 ?_;refine A9 ?_;exact h.v)):g:=s ⟨h⟩
theorem Aa5 (s:Bx n -> g:=by (intro h;refine Yo ?_;refine Mv ?_;exact h.v)):g:=s ⟨h⟩
theorem Abb (s:Bx n -> g:=by (intro h;refine M8 ?_;refine Nw ?_;exact h.v)):g:=s ⟨h⟩
theorem Aa2 (s:Bx n -> g:=by (intro h;refine Yl ?_;refine QV ?_;exact h.v)):g:=s ⟨h⟩
theorem Abk (s:Bx n -> g:=by (intro h;refine Ajd ?_;refine C3 ?_;exact h.v)):g:=s ⟨h⟩
theorem Aap (s:Bx n -> g:=by (intro h;refine Aho ?_;refine Aa6 ?_;exact h.v)):g:=s ⟨h⟩
end
end Go.Proofs.YtmnbjcpikllknaaGreatDoor
