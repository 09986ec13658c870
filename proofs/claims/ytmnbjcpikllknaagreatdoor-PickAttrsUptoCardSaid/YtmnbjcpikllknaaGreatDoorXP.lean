/- The reader's panic; a clone onto which something may be appended. No condition. -/
import Derived.Tactics2
import Derived.Test.YtmnbjcpikllknaaGreatDoorPf
import Derived.Test.YtmnbjcpikllknaaGreatDoorTy
set_option linter.unusedSimpArgs false
set_option linter.unusedVariables false
set_option maxHeartbeats 1000000
namespace Go.Proofs.YtmnbjcpikllknaaGreatDoor
open Go.Proofs.Tryz
open Go.RowKit
def PV:Value:=.iface 108 (.agg #[])
theorem Ts (v:Value) (w:World):Calls prog 65 #[v] w fun e w'=>e=.panicked (Hk PV) /\ w'=w:=by
 go_enter func65,ntmps65
 go_wp2
 simp [Instr.panic,Sem.run_pure,Oper.upon];exact ⟨rfl,rfl,rfl⟩
section
variable {β:Type} {G:β -> Prop} {R:D -> Heap -> Prop}
theorem Bk {fA f0:Unit -> Option β} {Rp:Heap -> Prop} {p0:Af} {q0:Nat} (h:Heap) (O:List (Nat × AObj)) (hq0:q0 ≠ 0) (ok:OK h ((q0,.cells [.str p0.q,.int .i64 p0.at_]) :: O)) (hF:OptP ((Bg p0).bind fun x=>pnc x fA f0) G)
  (hk:∀ r,Bg p0=some (.inr r) -> OK h ((q0,.cells [.str p0.q,.int .i64 p0.at_]) :: O) -> OptP (f0 r) G -> R (.tup []) (Hp h ((q0,.cells [.str p0.q,.int .i64 p0.at_]) :: O)))
  (hp:∀ sp,Bg p0=some (.inl sp) -> OK h ((q0,.cells [.str p0.q,.int .i64 p0.at_]) :: O) -> OptP (fA sp) G -> Rp (Hp h ((q0,.cells [.str p0.q,.int .i64 p0.at_]) :: O))) :
  CallsP prog PV 65 [.ptr q0 0] (Hp h ((q0,.cells [.str p0.q,.int .i64 p0.at_]) :: O)) R Rp:=by
 refine ⟨by kernel_rfl,fun K w vs H hl hv=>?_⟩;rw [PE hl];exact (Ts _ w).mono fun e w' ⟨he,hw⟩=>.inr ⟨K,_,he,Ext.refl K,by rw [hw];exact H,hp () rfl ok hF⟩
theorem CloneR_ok {f:List Int -> Option β} {p0:List Int} (h:Heap) (O:List (Nat × AObj)) (ok:OK h O) (hF:OptP ((app 8 [] p0).bind f) G)
  (hk:∀ r i,i ≠ 0 -> OK h ((i,.room) :: O) -> OptP (f r) G -> R (.sl 1 (List.map B1 r) i) (Hp h ((i,.room) :: O))):CallsA prog 76 [.sl 1 (List.map B1 p0) 0] (Hp h O) R:=by
 refine CallsA.ret ?_;refine Hj func76 rfl Ahn ntmps76 rfl ?_;refine L5 ?_;refine Cy (mdl []) ?_;by_cases hp:p0=[]
 ·have hv:∀ n:Nat,G3 (TI n [.sl 1 (List.map B1 p0) 0]) n=.sl 1 [] 0:=fun n=>by rw [hp];simp [TI,G3]
  refine Aez (q:=1) 0 rfl (hv 0) ?_ ?_
  ·refine S_a (v:=.snil) rfl ?_;refine Ls ?_;refine L5 ?_;refine L5 ?_;refine Cy (mdl []) ?_;refine S_m (v:=.snil) rfl ?_;refine DN rfl rfl (Aim (by rw [Fo];rfl)) ?_;refine Ls ?_;refine Afk rfl rfl ?_;refine L5 ?_;refine Cy (mdl []) ?_;refine S_a (v:=.snil) rfl ?_;refine Kc 2 1 ok rfl rfl ?_;intro r hr ok;refine Ls ?_;refine R6 ?_
   repeat (first | with_reducible refine Exit.sel_ret ?_ | with_reducible refine Exit.blk_ret ?_ | with_reducible refine Exit.jmp_ret ?_)
   refine KH (fn:=Tryz.f76) rfl (.tmp (v:=.sl 1 (List.map B1 []) r) rfl .nil) ?_;subst hp
   exact ⟨_,_,.refl _,WH.refl _,hk [] r hr ok (by
    obtain ⟨v,hv,hF⟩:=A8 hF;unfold app at hv;split at hv
    all_goals first | (have e:=Option.some.inj hv;subst e;exact hF) | (simp at hv;done))⟩
  ·subst hp;refine S_a (v:=.snil) rfl ?_;refine Ls ?_;refine L5 ?_;refine L5 ?_;refine Cy (mdl []) ?_;refine S_m (v:=.slx _ _ _) rfl ?_;refine DN rfl rfl (Agb (by rw [Fo];rfl)) ?_;refine Ls ?_;refine Afn rfl rfl ?_;refine Of ?_;refine L5 ?_;refine Cy (mdl [(5,2),(7,2)]) ?_;refine Aem (q:=1) (es:=[]) (sp:=[]) 0 rfl ?_;refine PQ (cs:=[]) (es:=List.map B1 []) ok rfl Fa rfl (by kernel_rfl) rfl ?_;intro g hg ok;refine S_m (v:=.sl _ _ _) rfl ?_;refine Gq (j:=0) (L:=[]) (M:=([]:List Int)) (c:=B1) (r2:=0) ok rfl rfl rfl rfl hg Fa KM hF ?_;intro g2 hg2 ok hF;refine S_a (v:=.sl _ _ _) rfl ?_;refine Ls ?_;refine R6 ?_
   repeat (first | with_reducible refine Exit.sel_ret ?_ | with_reducible refine Exit.blk_ret ?_ | with_reducible refine Exit.jmp_ret ?_)
   refine KH (fn:=Tryz.f76) rfl (.tmp (v:=.sl 1 (List.map B1 ([] ++ ([]:List Int))) g2) rfl .nil) ?_;exact ⟨_,_,.refl _,WH.refl _,hk _ g2 hg2 ok hF⟩
 ·
  refine S_a (v:=.snil) rfl ?_;refine Ls ?_;refine L5 ?_;refine L5 ?_;refine Cy (mdl []) ?_;refine S_m (v:=.sl _ _ _) rfl ?_;refine DN rfl rfl (Ahx (by rw [Fo];rfl) (by simpa using hp)) ?_;refine Ls ?_;refine Afn rfl rfl ?_;refine Of ?_;refine L5 ?_;refine Cy (mdl [(5,2),(7,2)]) ?_;refine PQ (cs:=[]) (es:=List.map B1 []) ok rfl Fa rfl (by kernel_rfl) rfl ?_;intro g hg ok;refine S_m (v:=.sl _ _ _) rfl ?_;refine Gq (j:=0) (L:=[]) (M:=p0) (c:=B1) (r2:=0) ok rfl rfl rfl rfl hg Fa KM hF ?_;intro g2 hg2 ok hF;refine S_a (v:=.sl _ _ _) rfl ?_;refine Ls ?_;refine R6 ?_
  repeat (first | with_reducible refine Exit.sel_ret ?_ | with_reducible refine Exit.blk_ret ?_ | with_reducible refine Exit.jmp_ret ?_)
  refine KH (fn:=Tryz.f76) rfl (.tmp (v:=.sl 1 (List.map B1 ([] ++ p0)) g2) rfl .nil) ?_;exact ⟨_,_,.refl _,WH.refl _,hk _ g2 hg2 ok hF⟩
end

set_option linter.unusedSimpArgs false
set_option linter.unusedVariables false
set_option maxHeartbeats 1000000
open Go.RowKit
theorem CallsDA.pre {P:Program} {pv:Value} {g:FuncId} {cap:List D} {b:Bool} {h h2:Heap} {R:Heap -> Prop} (hw:WH h h2) (c:CallsDA P pv g cap b h2 R):CallsDA P pv g cap b h R:=
 fun K w vs H hl hv=>c K w vs (H.weaken hw) hl hv
theorem Aiz {vs:Array Value} (h:vs.size=4):∃ a b c d,vs=#[a,b,c,d]:=by
 obtain ⟨l⟩:=vs
 match l,h with
 | [a,b,c,d],_=>exact ⟨a,b,c,d,rfl⟩
theorem XV {x0 x1 x2 x3:D} {h:Heap} {R:Heap -> Prop} (hR:R h):CallsDA prog PV 64 [x0,x1,x2,x3] false h R:=by
 intro K w vs H hl hv;obtain ⟨v0,v1,v2,v3,rfl⟩:=Aiz hl;refine callsD_of_wpS func64 rfl fun c₀ cs hu=>?_;have hu':({ c₀ with mode:=.returning }:Frame)=c₀:=by cases c₀;simp only [Tw] at hu;subst hu;rfl
 apply wpS_seq;apply wpS_region;simp [wpOpsS,go_sem,recoverD,hu,Tw,ntmps64,Exit.thenS,Array.replicate];apply wpS_seq;apply wpS_seq;apply wpS_region;simp [wpOpsS,go_sem,Exit.thenS,Array.getD];refine wpS_cond (t:=true) (by simp [Act.eval,Array.replicate]) ?_;simp only [if_true];refine wpS_of_wp (wp_ret ?_);simp only [Exit.thenS];exact ⟨rfl,.returning,by rw [hu'],.tuple #[],by simp [results,show Tryz.f64.results=#[] from rfl],⟨_,rfl⟩,rfl,K,Ext.refl K,h,H,hR⟩
theorem Wt {h:Heap} {i1 i3 i4 i5 i6:Nat} {q:List By8} {n:Int} {x4 x3 x1:D} {R:Heap -> Prop} (hi1:i1 ≠ 0) (hi3:i3 ≠ 0) (hi4:i4 ≠ 0) (hi5:i5 ≠ 0) (hi6:i6 ≠ 0)
  (ok:OK h [(i5,.cells [.str q,.int .i64 n]),(i6,.cells [.ptr i5 0]),(i4,.cells [x4]),(i3,.cells [x3]),(i1,.cells [x1])])
  (hR:OK h [(i5,.cells [.str q,.int .i64 n]),(i6,.cells [.ptr i5 0]),(i4,.cells [.int .i64 (36:Int)]),(i3,.cells [.int .i64 n]),(i1,.cells [.snil])] -> R (Hp h [(i5,.cells [.str q,.int .i64 n]),(i6,.cells [.ptr i5 0]),(i4,.cells [.int .i64 (36:Int)]),(i3,.cells [.int .i64 n]),(i1,.cells [.snil])])) :
  CallsDA prog PV 64 [.ptr i6 0,.ptr i1 0,.ptr i3 0,.ptr i4 0] true (Hp h [(i5,.cells [.str q,.int .i64 n]),(i6,.cells [.ptr i5 0]),(i4,.cells [x4]),(i3,.cells [x3]),(i1,.cells [x1])]) R:=by
 intro K w vs H hl hv;obtain ⟨v0,v1,v2,v3,rfl⟩:=Aiz hl;refine callsD_of_wpS func64 rfl fun c₀ cs hu=>?_;apply wpS_seq;apply wpS_region;simp [wpOpsS,go_sem,recoverD,hu,Tw,Hk,PV,ntmps64,Exit.thenS,Array.replicate];refine wpS_of_wp ?_;have hta:∀ w:World,(Instr.typeAssert (Value.iface 108 (.agg #[])) 20 108 true).run prog w=.ok (.tuple #[.agg #[],.bool true]) w:=by
  intro w;kernel_rfl
 refine wp_seq (Code.wp_mono (Q:=fun e a' w'=>e=.normal /\ a'={ tmps:=#[v0,v1,v2,v3,.iface 108 (.agg #[]),undef,undef,.iface 108 (.agg #[]),.iface 108 (.agg #[]),.bool false,undef,undef,undef,undef,undef,undef,undef,undef,undef,undef,undef,undef],defers:=[] } /\ w'=w) ?_ ?_)
 rotate_left
 ·go_wp2
 rintro e a' w' ⟨rfl,rfl,rfl⟩;refine wp_seq (Code.wp_mono (Q:=fun e a' w''=>e=.normal /\ a'.defers=[] /\ a'.tmps.size=22 /\ a'.tmps.getD 0 undef=v0 /\ a'.tmps.getD 1 undef=v1 /\ a'.tmps.getD 2 undef=v2 /\ a'.tmps.getD 3 undef=v3 /\ Below w'.heap.size w' w'') ?_ ?_)
 rotate_left
 ·go_wp2
  exact (Below.refl _ _).alloc (Nat.le_refl _) _
 rintro e a' w'' ⟨rfl,hd,hn,h0,h1,h2,h3,hb⟩;simp only [Exit.then];have S:Sim [] K ⟨AI 22 [(0,.ptr i6 0),(1,.ptr i1 0),(2,.ptr i3 0),(3,.ptr i4 0)],Hp h [(i5,.cells [.str q,.int .i64 n]),(i6,.cells [.ptr i5 0]),(i4,.cells [x4]),(i3,.cells [x3]),(i1,.cells [x1])]⟩ a' w'':=by
  refine ⟨H.under hb,hd,by rw [hn,DC],fun i=>?_⟩;rw [DA];split
  ·match i with
   | 0=>rw [h0];exact hv 0
   | 1=>rw [h1];exact hv 1
   | 2=>rw [h2];exact hv 2
   | 3=>rw [h3];exact hv 3
   | j + 4=>exact .any _
  ·exact .any _
 refine Code.wp_mono ?_ ((?_:WP prog _ (fun e s=>e=.normal /\ R s.h) _) [] K a' w'' S)
 ·rintro e a3 w3 ⟨K3,s3,E3,S3,rfl,hr⟩;exact ⟨S3.d,_,rfl,.tuple #[],by simp [results,show Tryz.f64.results=#[] from rfl],⟨_,rfl⟩,rfl,K3,E3,s3.h,S3.h,hr⟩
 refine Cy (mdl []) ?_;refine Cr (j:=1) ok rfl rfl rfl hi6 (AK (v:=.ptr i5 0) MA KP rfl) ?_;refine Yz (v:=.ptr _ _) rfl rfl ?_;refine DH rfl Mj Ax ?_;refine Cr (j:=0) ok rfl rfl rfl hi5 (AK (v:=.int .i64 n) B3 Ax rfl) ?_;refine F3 (j:=4) (cs':=[.snil]) ok rfl rfl rfl hi1 rfl Eh rfl rfl (fun ok=>?_);refine F3 (j:=3) (cs':=[.int .i64 n]) ok rfl rfl rfl hi3 rfl Ax rfl rfl (fun ok=>?_);refine F3 (j:=2) (cs':=[.int .i64 (36:Int)]) ok rfl rfl rfl hi4 rfl Gw rfl rfl (fun ok=>?_);refine Ls ?_;exact ⟨rfl,hR ok⟩
end Go.Proofs.YtmnbjcpikllknaaGreatDoor
