/- The walks. No condition. -/
import Derived.Test.YtmnbjcpikllknaaGreatDoorXR
import Derived.Test.YtmnbjcpikllknaaGreatDoorWkA
set_option linter.unusedVariables false
set_option linter.unusedSimpArgs false
set_option maxRecDepth 20000
set_option maxHeartbeats 8000000
namespace Go.Proofs.YtmnbjcpikllknaaGreatDoor
open Go.Proofs.Tryz
theorem FC {G:Ac -> Prop} (h:Heap) (hF:OptP (DR) G):CallsA prog 30 [] h fun d h'=>∃ r,G r /\ d=.agg (Ad r) /\ h'=h:=by
 refine CallsA.ret ?_;refine AQ func30 rfl Ahy ntmps30 rfl (fun ok=>?_);rw [DR] at hF;refine Hs ?_;refine Cy (mdl [(0,1)]) ?_;refine Ca ok rfl DI ?_;intro i1 hi1 ok;refine Jk ?_;refine Cy (mdl [(1,1)]) ?_;refine Dz (v:=.agg (Ar (⟨[],[98]⟩:Aa))) (GY C4 EG rfl) ?_;refine Dz (v:=.agg [.int .i64 2,.str (⟨[],[98]⟩:Aa).URI,.str (⟨[],[98]⟩:Aa).Local,.snil,.snil,.str []]) (GY DI OH rfl) ?_;refine Ca ok rfl DI ?_;intro i2 hi2 ok;refine PC Ad ok (fun ok=>?_);refine F3 (j:=1) (cs':=[.int .i64 2,.str (⟨[],[98]⟩:Aa).URI,.str (⟨[],[98]⟩:Aa).Local,.snil,.snil,.str []]) ok rfl rfl rfl hi2 rfl Aw rfl rfl (fun ok=>?_);refine PC Ad ok (fun ok=>?_);refine Jk ?_;refine Cy (mdl [(8,1),(2,1)]) ?_;refine Dz (v:=.agg (Ar (⟨[],[97]⟩:Aa))) (GY C4 EG rfl) ?_;refine Cr (j:=2) ok rfl rfl rfl hi2 (AX (vs:=[.int .i64 2,.str (⟨[],[98]⟩:Aa).URI,.str (⟨[],[98]⟩:Aa).Local,.snil,D0 6 0 ([]:List Ac),.str []]) A6 Aw rfl rfl) ?_;refine Em 6 (v:=.agg (Ad (⟨2,(⟨[],[98]⟩:Aa),[],[],[]⟩:Ac))) (Wd.toE (.aggC (.cons (.refl _) (.cons (.refl _) (.cons (.refl _) (.cons (.nil _) (.cons (.nil _) (.cons (.refl _) (.nil)))))))) (Ab _)) ?_;refine Cr (j:=2) ok rfl rfl rfl hi2 (AX (vs:=[.int .i64 2,.str (⟨[],[98]⟩:Aa).URI,.str (⟨[],[98]⟩:Aa).Local,.snil,D0 6 0 ([]:List Ac),.str []]) A6 Aw rfl rfl) ?_;refine Em 7 (v:=.agg (Ad (⟨2,(⟨[],[98]⟩:Aa),[],[],[]⟩:Ac))) (Wd.toE (.aggC (.cons (.refl _) (.cons (.refl _) (.cons (.refl _) (.cons (.nil _) (.cons (.nil _) (.cons (.refl _) (.nil)))))))) (Ab _)) ?_;refine Pg (d:=6) (v:=.agg [.int .i64 (⟨2,(⟨[],[98]⟩:Aa),[],[],[]⟩:Ac).Kind,.str (⟨2,(⟨[],[98]⟩:Aa),[],[],[]⟩:Ac).Name.URI,.str (⟨2,(⟨[],[98]⟩:Aa),[],[],[]⟩:Ac).Name.Local,.sl 3 (List.map Ao (⟨2,(⟨[],[98]⟩:Aa),[],[],[]⟩:Ac).Attrs) 0,.sl 6 (List.map Ad (⟨2,(⟨[],[98]⟩:Aa),[],[],[]⟩:Ac).Kids) 0,.str (⟨2,(⟨[],[98]⟩:Aa),[],[],[]⟩:Ac).Text]) (congrArg D.agg (Ab (⟨2,(⟨[],[98]⟩:Aa),[],[],[]⟩:Ac))) ?_;refine Pg (d:=7) (v:=.agg [.int .i64 (⟨2,(⟨[],[98]⟩:Aa),[],[],[]⟩:Ac).Kind,.str (⟨2,(⟨[],[98]⟩:Aa),[],[],[]⟩:Ac).Name.URI,.str (⟨2,(⟨[],[98]⟩:Aa),[],[],[]⟩:Ac).Name.Local,.sl 3 (List.map Ao (⟨2,(⟨[],[98]⟩:Aa),[],[],[]⟩:Ac).Attrs) 0,.sl 6 (List.map Ad (⟨2,(⟨[],[98]⟩:Aa),[],[],[]⟩:Ac).Kids) 0,.str (⟨2,(⟨[],[98]⟩:Aa),[],[],[]⟩:Ac).Text]) (congrArg D.agg (Ab (⟨2,(⟨[],[98]⟩:Aa),[],[],[]⟩:Ac))) ?_
 refine YV (cs:=[.int .i64 (⟨2,(⟨[],[98]⟩:Aa),[],[],[]⟩:Ac).Kind,.str (⟨2,(⟨[],[98]⟩:Aa),[],[],[]⟩:Ac).Name.URI,.str (⟨2,(⟨[],[98]⟩:Aa),[],[],[]⟩:Ac).Name.Local,.sl 3 (List.map Ao (⟨2,(⟨[],[98]⟩:Aa),[],[],[]⟩:Ac).Attrs) 0,.sl 6 (List.map Ad (⟨2,(⟨[],[98]⟩:Aa),[],[],[]⟩:Ac).Kids) 0,.str (⟨2,(⟨[],[98]⟩:Aa),[],[],[]⟩:Ac).Text,.int .i64 (⟨2,(⟨[],[98]⟩:Aa),[],[],[]⟩:Ac).Kind,.str (⟨2,(⟨[],[98]⟩:Aa),[],[],[]⟩:Ac).Name.URI,.str (⟨2,(⟨[],[98]⟩:Aa),[],[],[]⟩:Ac).Name.Local,.sl 3 (List.map Ao (⟨2,(⟨[],[98]⟩:Aa),[],[],[]⟩:Ac).Attrs) 0,.sl 6 (List.map Ad (⟨2,(⟨[],[98]⟩:Aa),[],[],[]⟩:Ac).Kids) 0,.str (⟨2,(⟨[],[98]⟩:Aa),[],[],[]⟩:Ac).Text]) (c:=Ad) (e:=[(⟨2,(⟨[],[98]⟩:Aa),[],[],[]⟩:Ac),(⟨2,(⟨[],[98]⟩:Aa),[],[],[]⟩:Ac)]) ok rfl Ju rfl (by kernel_rfl) (by kernel_rfl) ?_;intro u5 zu5 ok;refine Dz (v:=.agg [.int .i64 2,.str (⟨[],[97]⟩:Aa).URI,.str (⟨[],[97]⟩:Aa).Local,.snil,D0 6 u5 ([(⟨2,(⟨[],[98]⟩:Aa),[],[],[]⟩:Ac),(⟨2,(⟨[],[98]⟩:Aa),[],[],[]⟩:Ac)]),.str []]) (GY DI OH (by cases u5 <;> rfl)) ?_;refine Em 9 (v:=.agg [.int .i64 2,.str (⟨[],[97]⟩:Aa).URI,.str (⟨[],[97]⟩:Aa).Local,.sl 3 (List.map Ao []) 0,D0 6 u5 ([(⟨2,(⟨[],[98]⟩:Aa),[],[],[]⟩:Ac),(⟨2,(⟨[],[98]⟩:Aa),[],[],[]⟩:Ac)]),.str []]) (.aggC (.cons (.refl _) (.cons (.refl _) (.cons (.refl _) (.cons (.nil _) (.cons (.refl _) (.cons (.refl _) (.nil)))))))) ?_;refine Ca ok rfl DI ?_;intro i6 hi6 ok;refine PC Ad ok (fun ok=>?_);refine F3 (j:=1) (cs':=[.int .i64 2,.str (⟨[],[97]⟩:Aa).URI,.str (⟨[],[97]⟩:Aa).Local,.sl 3 (List.map Ao []) 0,D0 6 u5 ([(⟨2,(⟨[],[98]⟩:Aa),[],[],[]⟩:Ac),(⟨2,(⟨[],[98]⟩:Aa),[],[],[]⟩:Ac)]),.str []]) ok rfl rfl rfl hi6 rfl Aw rfl rfl (fun ok=>?_);refine F0 ?_;refine DH rfl B0 Bj ?_;refine Aiw ?_;refine Dz (v:=.agg (Ar (⟨[],[120]⟩:Aa))) (GY C4 EG rfl) ?_
 refine Dz (v:=.agg (Ao (⟨(⟨[],[120]⟩:Aa),[49]⟩:Ak))) (GY Id RO rfl) ?_;refine Dh (cs:=[.str (⟨(⟨[],[120]⟩:Aa),[49]⟩:Ak).Name.URI,.str (⟨(⟨[],[120]⟩:Aa),[49]⟩:Ak).Name.Local,.str (⟨(⟨[],[120]⟩:Aa),[49]⟩:Ak).Value]) (es:=(List.map Ao [(⟨(⟨[],[120]⟩:Aa),[49]⟩:Ak)])) rfl R9 rfl (by kernel_rfl) (by kernel_rfl) ?_;refine Zy zu5 rfl rfl Dt Aw hF (fun x8 hx8 hF=>?_);refine DH rfl Bz AW ?_;refine Zr (q:=6) (j:=2) (f0:=3) (b:=(⟨x8.Kind,x8.Name,[(⟨(⟨[],[120]⟩:Aa),[49]⟩:Ak)],x8.Kids,x8.Text⟩:Ac)) ok zu5 rfl rfl rfl Gt hx8 rfl rfl AW rfl (by rw [Ab x8,Ab (⟨x8.Kind,x8.Name,[(⟨(⟨[],[120]⟩:Aa),[49]⟩:Ak)],x8.Kids,x8.Text⟩:Ac)];rfl) (fun za9 ok=>?_);obtain ⟨a9,ha9,hF⟩:=Ol hF;rw [<- ha9] at ok za9;rw [<- ha9];have hms:D0 6 u5 ([(⟨2,(⟨[],[98]⟩:Aa),[],[],[]⟩:Ac),(⟨2,(⟨[],[98]⟩:Aa),[],[],[]⟩:Ac)])=D0 6 u5 a9:=KG (by rw [ha9,List.length_set])
 try rw [hms] at ok
 try rw [hms]
 clear hms;refine F0 ?_;refine DH rfl B0 Bj ?_;refine Aiw ?_;refine Dz (v:=.agg (Ar (⟨[],[100]⟩:Aa))) (GY C4 EG rfl) ?_;refine Dz (v:=.agg (Ao (⟨(⟨[],[100]⟩:Aa),[77,48,32,48,32,52,32,48,32,52,32,52,90]⟩:Ak))) (GY Id RO rfl) ?_;refine Dh (cs:=[.str (⟨(⟨[],[100]⟩:Aa),[77,48,32,48,32,52,32,48,32,52,32,52,90]⟩:Ak).Name.URI,.str (⟨(⟨[],[100]⟩:Aa),[77,48,32,48,32,52,32,48,32,52,32,52,90]⟩:Ak).Name.Local,.str (⟨(⟨[],[100]⟩:Aa),[77,48,32,48,32,52,32,48,32,52,32,52,90]⟩:Ak).Value]) (es:=(List.map Ao [(⟨(⟨[],[100]⟩:Aa),[77,48,32,48,32,52,32,48,32,52,32,52,90]⟩:Ak)])) rfl R9 rfl (by kernel_rfl) (by kernel_rfl) ?_;refine Zy za9 rfl rfl Dt Aw hF (fun x10 hx10 hF=>?_);refine DH rfl Bz AW ?_;refine Zr (q:=6) (j:=2) (f0:=3) (b:=(⟨x10.Kind,x10.Name,[(⟨(⟨[],[100]⟩:Aa),[77,48,32,48,32,52,32,48,32,52,32,52,90]⟩:Ak)],x10.Kids,x10.Text⟩:Ac)) ok za9 rfl rfl rfl Gt hx10 rfl rfl AW rfl (by rw [Ab x10,Ab (⟨x10.Kind,x10.Name,[(⟨(⟨[],[100]⟩:Aa),[77,48,32,48,32,52,32,48,32,52,32,52,90]⟩:Ak)],x10.Kids,x10.Text⟩:Ac)];rfl) (fun za11 ok=>?_);obtain ⟨a11,ha11,hF⟩:=Ol hF;rw [<- ha11] at ok za11;rw [<- ha11];have hms:D0 6 u5 a9=D0 6 u5 a11:=KG (by rw [ha11,List.length_set])
 try rw [hms] at ok
 try rw [hms]
 clear hms;refine F0 ?_;refine Ael (c:=Ad) (e:=a11) (cs':=[.int .i64 2,.str (⟨[],[97]⟩:Aa).URI,.str (⟨[],[97]⟩:Aa).Local,.sl 3 (List.map Ao []) 0,.sl 6 (List.map Ad a11) 0,.str []]) 1 2 4 ok za11 rfl hi6 rfl (by decide) Gt rfl rfl (fun ok=>?_);refine Ln 1 2 ok rfl rfl hi6 (fun ok=>?_);refine AE rfl (AX (vs:=Ad (⟨2,(⟨[],[97]⟩:Aa),[],a11,[]⟩:Ac)) A6 Aw rfl (by rw [Ab];rfl)) ?_;refine Pg (d:=24) (v:=.agg [.int .i64 (⟨2,(⟨[],[97]⟩:Aa),[],a11,[]⟩:Ac).Kind,.str (⟨2,(⟨[],[97]⟩:Aa),[],a11,[]⟩:Ac).Name.URI,.str (⟨2,(⟨[],[97]⟩:Aa),[],a11,[]⟩:Ac).Name.Local,.sl 3 (List.map Ao (⟨2,(⟨[],[97]⟩:Aa),[],a11,[]⟩:Ac).Attrs) 0,.sl 6 (List.map Ad (⟨2,(⟨[],[97]⟩:Aa),[],a11,[]⟩:Ac).Kids) 0,.str (⟨2,(⟨[],[97]⟩:Aa),[],a11,[]⟩:Ac).Text]) (congrArg D.agg (Ab (⟨2,(⟨[],[97]⟩:Aa),[],a11,[]⟩:Ac))) ?_;refine Dh (cs:=[.int .i64 (⟨2,(⟨[],[97]⟩:Aa),[],a11,[]⟩:Ac).Kind,.str (⟨2,(⟨[],[97]⟩:Aa),[],a11,[]⟩:Ac).Name.URI,.str (⟨2,(⟨[],[97]⟩:Aa),[],a11,[]⟩:Ac).Name.Local,.sl 3 (List.map Ao (⟨2,(⟨[],[97]⟩:Aa),[],a11,[]⟩:Ac).Attrs) 0,.sl 6 (List.map Ad (⟨2,(⟨[],[97]⟩:Aa),[],a11,[]⟩:Ac).Kids) 0,.str (⟨2,(⟨[],[97]⟩:Aa),[],a11,[]⟩:Ac).Text]) (es:=(List.map Ad [(⟨2,(⟨[],[97]⟩:Aa),[],a11,[]⟩:Ac)])) rfl Ju rfl (by kernel_rfl) (by simp only [List.map_cons,List.map_nil,Ab];rfl) ?_;refine Dz (v:=.agg [.int .i64 1,.str [],.str [],.snil,.sl 6 (List.map Ad [(⟨2,(⟨[],[97]⟩:Aa),[],a11,[]⟩:Ac)]) 0,.str []]) (GY DI OH rfl) ?_;refine Em 26 (v:=.agg [.int .i64 1,.str [],.str [],.sl 3 (List.map Ao []) 0,.sl 6 (List.map Ad [(⟨2,(⟨[],[97]⟩:Aa),[],a11,[]⟩:Ac)]) 0,.str []]) (.aggC (.cons (.refl _) (.cons (.refl _) (.cons (.refl _) (.cons (.nil _) (.cons (.refl _) (.cons (.refl _) (.nil)))))))) ?_;refine F3 (j:=6) (cs':=[.int .i64 1,.str [],.str [],.sl 3 (List.map Ao []) 0,.sl 6 (List.map Ad [(⟨2,(⟨[],[97]⟩:Aa),[],a11,[]⟩:Ac)]) 0,.str []]) ok rfl rfl rfl hi1 rfl Aw rfl rfl (fun ok=>?_);refine Mv ?_;refine xr ?_;refine KH (fn:=Tryz.f30) rfl (.cell rfl (DW (j:=6) ok rfl hi1 (AX (vs:=[.int .i64 1,.str [],.str [],.sl 3 (List.map Ao []) 0,.sl 6 (List.map Ad [(⟨2,(⟨[],[97]⟩:Aa),[],a11,[]⟩:Ac)]) 0,.str []]) A6 Aw rfl rfl)) .nil) ?_
 exact ⟨_,_,(Wd.toE (.aggC (.cons (.refl _) (.cons (.refl _) (.cons (.refl _) (.cons (.refl _) (.cons (.refl _) (.cons (.refl _) (.nil)))))))) (Ab _)),ok.wh,_,Ap hF,rfl,rfl⟩
theorem OD:∀ (N:Nat) {p0:Ac} {p1:List Ac} {rp1:Nat} {G:(List Ac) -> Prop} (h:Heap) (O:List (Nat × AObj)) (hrp1:rp1 ≠ 0) (ok:OK h ((rp1,.room) :: O)) (hF:OptP (iter C6 N (p0,p1)) G),CallsA prog 67 [.agg (Ad p0),.sl 6 (List.map Ad p1) rp1] (Hp h ((rp1,.room) :: O)) fun d h'=>∃ r,G r /\ ∃ rp1':Nat,d=.sl 6 (List.map Ad r) rp1' /\ rp1' ≠ 0 /\ OK h ((rp1',.room) :: O) /\ h'=Hp h ((rp1',.room) :: O):=by
 intro N
 induction N with
 | zero=>intro p0 p1 rp1 G h O hrp1 ok hF;exact Lj hF
 | succ N ih0=>
 have self_ok:∀ {β:Type} {f0:(List Ac) -> Option β} {G:β -> Prop} {R:D -> Heap -> Prop} {p0:Ac} {p1:List Ac} {rp1:Nat} (h:Heap) (O:List (Nat × AObj)) (hrp1:rp1 ≠ 0) (ok:OK h ((rp1,.room) :: O)) (hF:OptP ((iter C6 N (p0,p1)).bind f0) G) (hk:∀ r rp1',iter C6 N (p0,p1)=some r -> rp1' ≠ 0 -> OK h ((rp1',.room) :: O) -> OptP (f0 r) G -> R (.sl 6 (List.map Ad r) rp1') (Hp h ((rp1',.room) :: O))),CallsA prog 67 [.agg (Ad p0),.sl 6 (List.map Ad p1) rp1] (Hp h ((rp1,.room) :: O)) R:=by
  intro β f0 G R p0 p1 rp1 h O hrp1 ok hF hk;obtain ⟨r0,hr,hF⟩:=A8 hF;refine (ih0 (G:=fun r=>r=r0) h O hrp1 ok ⟨r0,hr,rfl⟩).mono ?_;rintro _ _ ⟨r,rfl,rp,rfl,y0,ok',rfl⟩;exact hk _ _ hr y0 ok' hF
 clear ih0;intro p0 p1 rp1 G h O hrp1 ok hF;replace hF:OptP (C6 (iter C6 N) (p0,p1)) G:=hF;refine CallsA.ret ?_;refine Hj func67 rfl Ace ntmps67 rfl ?_;rw [C6] at hF;refine Bw ?_;refine Cc (v:=.agg (Ad p0)) (cs:=Ad p0) rfl rfl rfl rfl ?_;refine S_a (v:=.snil) rfl ?_;refine Kc 4 6 ok rfl rfl ?_;intro r1 hr1 ok;refine Jk ?_;refine Cy (mdl [(10,2)]) ?_;refine Kl ?_;refine AE rfl (AX (vs:=Ad p0) A6 Aw (by rw [Ab];rfl) (by rw [Ab];rfl)) ?_;refine Pg (d:=8) (v:=.agg [.int .i64 p0.Kind,.str p0.Name.URI,.str p0.Name.Local,.sl 3 (List.map Ao p0.Attrs) 0,.sl 6 (List.map Ad p0.Kids) 0,.str p0.Text]) (congrArg D.agg (Ab p0)) ?_;refine Dh (cs:=[.int .i64 p0.Kind,.str p0.Name.URI,.str p0.Name.Local,.sl 3 (List.map Ao p0.Attrs) 0,.sl 6 (List.map Ad p0.Kids) 0,.str p0.Text]) (es:=(List.map Ad [p0])) rfl Ju rfl (by kernel_rfl) (by simp only [List.map_cons,List.map_nil,Ab];rfl) ?_;refine Gq (j:=1) ok rfl rfl rfl rfl hrp1 Ju R1 hF ?_;intro r2 hr2 ok hF;refine Rz ?_;refine AG hF (fun (a11:(List Ac)) s'=>∃ g12:Nat,g12 ≠ 0 /\ Zs h ((g12,.room) :: O) 23 [(1,.sl 6 (List.map Ad a11) g12)] s') (fun J13 hF=>?_) ?_
 ·refine Bw ?_;refine A2 rfl B0 Bj (by rw [Ab];rfl) ?_;refine AE rfl (AK Dv Bj (congrArg (List.drop 4) (Ab p0))) ?_;refine Tc ?_;refine BA (σ:=(List Ac) × Int) hF (fun (v:(List Ac) × Int) s'=>match v with | (a14,a16)=>∃ g15:Nat,g15 ≠ 0 /\ Zs h ((g15,.room) :: O) 23 [(1,.sl 6 (List.map Ad a14) g15),(12,.sl 6 (List.map Ad p0.Kids) 0),(13,.int .i64 (p0.Kids.length:Int)),(14,.int .i64 a16)] s') ?_ ?_
  ·exact ⟨r2,hr2,oy ok,wy ok⟩
  ·rintro G17 hG18 rec19 ⟨a14,a16⟩ s' ih20 hF ⟨g15,hg15,ok,hws⟩;refine AD hws ?_;rw [Fl] at hF;refine Im ?_;refine AU rfl hF (fun hb21 hF=>?_) fun hb21 hF=>?_
   ·refine R5 ?_;refine Cy (mdl [(6,1)]) ?_;refine Fr rfl rfl Dt Aw hF (fun x22 _ hF=>?_);refine AE rfl (AX (vs:=Ad x22) A6 Aw (by rw [Ab];rfl) (by rw [Ab];rfl)) ?_;refine Ca ok rfl DI ?_;intro i23 hi23 ok;refine F3 (j:=0) (cs':=[.int .i64 x22.Kind,.str x22.Name.URI,.str x22.Name.Local,.sl 3 (List.map Ao x22.Attrs) 0,.sl 6 (List.map Ad x22.Kids) 0,.str x22.Text]) ok rfl (congrArg D.agg (Ab x22)) rfl hi23 rfl Aw rfl rfl (fun ok=>?_);refine A9 ?_;refine Nf ?_;refine Cr (j:=0) ok rfl rfl rfl hi23 (AX (vs:=Ad x22) A6 Aw rfl (Ab x22).symm) ?_;refine Kl ?_;obtain ⟨hpe,ok⟩:=Hp_pull 1 ok rfl;rw [hpe];clear hpe;refine cl (self_ok (p0:=x22) (p1:=a14) (rp1:=g15) h ((i23,.cells [.int .i64 x22.Kind,.str x22.Name.URI,.str x22.Name.Local,.sl 3 (List.map Ao x22.Attrs) 0,.sl 6 (List.map Ad x22.Kids) 0,.str x22.Text]) :: O) hg15 ok hF fun x24 r25 _ hr25 ok hF=>?_);refine Rz ?_;refine Nb ?_;refine ih20 (x24,(IntKind.wrap .i64 (a16 + 1))) _ hF ?_;exact ⟨r25,hr25,oy ok,wy ok⟩
   ·refine Fh ?_;replace hF:=hG18 _ (Ap hF);exact ⟨a14,hF,g15,hg15,oy ok,wy ok⟩
 ·rintro a11 s' hF ⟨g12,hg12,ok,hws⟩;refine AD hws ?_;refine Ki ?_;refine Aa5 ?_;refine rr ?_;exact ⟨_,_,(.refl _),hy ok,_,Ap hF,g12,rfl,hg12,oy ok,rfl⟩
theorem OI (p0:Ac) (p1:List Ac) (rp1:Nat) {G:(List Ac) -> Prop} (h:Heap) (O:List (Nat × AObj)) (hrp1:rp1 ≠ 0) (ok:OK h ((rp1,.room) :: O)) (hF:OptP (FX p0 p1) G):CallsA prog 67 [.agg (Ad p0),.sl 6 (List.map Ad p1) rp1] (Hp h ((rp1,.room) :: O)) fun d h'=>∃ r,G r /\ ∃ rp1':Nat,d=.sl 6 (List.map Ad r) rp1' /\ rp1' ≠ 0 /\ OK h ((rp1',.room) :: O) /\ h'=Hp h ((rp1',.room) :: O):=OD FUEL h O hrp1 ok hF
theorem Nk {β:Type} {f0:(List Ac) -> Option β} {G:β -> Prop} {R:D -> Heap -> Prop} {p0:Ac} {p1:List Ac} {rp1:Nat} (h:Heap) (O:List (Nat × AObj)) (hrp1:rp1 ≠ 0) (ok:OK h ((rp1,.room) :: O)) (hF:OptP ((FX p0 p1).bind f0) G) (hk:∀ r rp1',FX p0 p1=some r -> rp1' ≠ 0 -> OK h ((rp1',.room) :: O) -> OptP (f0 r) G -> R (.sl 6 (List.map Ad r) rp1') (Hp h ((rp1',.room) :: O))):CallsA prog 67 [.agg (Ad p0),.sl 6 (List.map Ad p1) rp1] (Hp h ((rp1,.room) :: O)) R:=by
 obtain ⟨r0,hr,hF⟩:=A8 hF;refine (OI (G:=fun r=>r=r0) p0 p1 rp1 h O hrp1 ok ⟨r0,hr,rfl⟩).mono ?_;rintro _ _ ⟨r,rfl,rp,rfl,y0,ok',rfl⟩;exact hk _ _ hr y0 ok' hF
theorem E8 (p0:List Ac) (p1:Ac -> Option Bool) (f1:FuncId) (fi1 ca1:List D) (hf1:∀ (x0:Ac) (G:Bool -> Prop) (h:Heap),OptP (p1 x0) G -> CallsA prog f1 (fi1 ++ [.agg (Ad x0)] ++ ca1) h fun d h'=>∃ r,G r /\ d=.bool r /\ h'=h) {G:Int -> Prop} (h:Heap) (hF:OptP (A5 p0 p1) G):CallsA prog 104 [.sl 6 (List.map Ad p0) 0,.fn (.func f1) fi1 ca1] h fun d h'=>∃ r,G r /\ d=.int .i64 r /\ h'=h:=by
 refine CallsA.ret ?_;refine AQ func104 rfl Aev ntmps104 rfl (fun ok=>?_);rw [A5] at hF;refine Tt ?_;refine AG hF (fun (_:Unit) s'=>Zs h [] 19 [] s') (fun J6 hF=>?_) ?_
 ·refine Ki ?_;refine Tc ?_;refine BA (σ:=Int) hF (fun (a7:Int) s'=>Zs h [] 19 [(0,.sl 6 (List.map Ad p0) 0),(1,.fn (.func f1) fi1 ca1),(7,.int .i64 (p0.length:Int)),(8,.int .i64 a7)] s') ?_ ?_
  ·exact ⟨oy ok,wy ok⟩
  ·rintro G8 hG9 rec10 a7 s' ih11 hF ⟨ok,hws⟩;refine AD hws ?_;rw [Bd] at hF;refine Im ?_;refine AU rfl hF (fun hb12 hF=>?_) fun hb12 hF=>?_
   ·refine WR ?_;refine Bw ?_;refine Xn ?_;refine YC ?_;refine Fr rfl rfl Dt Aw hF (fun x13 _ hF=>?_);refine AE rfl (AX (vs:=Ad x13) A6 Aw (by rw [Ab];rfl) (by rw [Ab];rfl)) ?_;refine M1 rfl (BX (enc:=fun r=>.bool r) (fun G h hF=>hf1 x13 G h hF) _ hF fun x14 _ hF=>?_) (.app (.app (.refl _) (.cons (.refl _) (.nil))) (.refl _));refine A9 ?_;refine AU rfl hF (fun hb15 hF=>?_) fun hb15 hF=>?_
    ·refine We ?_;replace hF:=hG9 _ (Ap hF);exact rt
    ·refine Qv ?_;refine ih11 (IntKind.wrap .i64 (a7 + 1)) _ hF ?_;exact ⟨oy ok,wy ok⟩
   ·refine Fh ?_;replace hF:=hG9 _ (Ap hF);exact ⟨(),hF,oy ok,wy ok⟩
 ·rintro ⟨⟩ s' hF ⟨ok,hws⟩;refine AD hws ?_;refine Lr ?_;exact rt
theorem EO {β:Type} {f:Int -> Option β} {G:β -> Prop} {R:D -> Heap -> Prop} {p0:List Ac} {p1:Ac -> Option Bool} {f1:FuncId} {fi1 ca1:List D} (hf1:∀ (x0:Ac) (G:Bool -> Prop) (h:Heap),OptP (p1 x0) G -> CallsA prog f1 (fi1 ++ [.agg (Ad x0)] ++ ca1) h fun d h'=>∃ r,G r /\ d=.bool r /\ h'=h) (h:Heap) (hF:OptP ((A5 p0 p1).bind f) G) (hk:∀ r,A5 p0 p1=some r -> OptP (f r) G -> R (.int .i64 r) h):CallsA prog 104 [.sl 6 (List.map Ad p0) 0,.fn (.func f1) fi1 ca1] h R:=by
 obtain ⟨r0,hr,hF⟩:=A8 hF;refine (E8 (G:=fun r=>r=r0) p0 p1 f1 fi1 ca1 hf1 h ⟨r0,hr,rfl⟩).mono ?_;rintro _ _ ⟨r,rfl,rfl,rfl⟩;exact hk _ hr hF
theorem EF (p0:List Ac) (p1:Ac -> Option Bool) (f1:FuncId) (fi1 ca1:List D) (hf1:∀ (x0:Ac) (G:Bool -> Prop) (h:Heap),OptP (p1 x0) G -> CallsA prog f1 (fi1 ++ [.agg (Ad x0)] ++ ca1) h fun d h'=>∃ r,G r /\ d=.bool r /\ h'=h) {G:Bool -> Prop} (h:Heap) (hF:OptP (An p0 p1) G):CallsA prog 68 [.sl 6 (List.map Ad p0) 0,.fn (.func f1) fi1 ca1] h fun d h'=>∃ r,G r /\ d=.bool r /\ h'=h:=by
 refine CallsA.ret ?_;refine AQ func68 rfl Ahs ntmps68 rfl (fun ok=>?_);rw [An] at hF;refine M8 ?_;refine Ki ?_;refine Xn ?_;refine cl (EO (f1:=f1) (fi1:=fi1) (ca1:=ca1) hf1 _ hF fun x1 _ hF=>?_);refine Tf ?_;refine Fu ?_;exact rt
theorem AB {β:Type} {f:Bool -> Option β} {G:β -> Prop} {R:D -> Heap -> Prop} {p0:List Ac} {p1:Ac -> Option Bool} {f1:FuncId} {fi1 ca1:List D} (hf1:∀ (x0:Ac) (G:Bool -> Prop) (h:Heap),OptP (p1 x0) G -> CallsA prog f1 (fi1 ++ [.agg (Ad x0)] ++ ca1) h fun d h'=>∃ r,G r /\ d=.bool r /\ h'=h) (h:Heap) (hF:OptP ((An p0 p1).bind f) G) (hk:∀ r,An p0 p1=some r -> OptP (f r) G -> R (.bool r) h):CallsA prog 68 [.sl 6 (List.map Ad p0) 0,.fn (.func f1) fi1 ca1] h R:=by
 obtain ⟨r0,hr,hF⟩:=A8 hF;refine (EF (G:=fun r=>r=r0) p0 p1 f1 fi1 ca1 hf1 h ⟨r0,hr,rfl⟩).mono ?_;rintro _ _ ⟨r,rfl,rfl,rfl⟩;exact hk _ hr hF
theorem Qc (p0:Int) (p1:Int) {G:Bool -> Prop} (h:Heap) (hF:OptP (FY p0 p1) G):CallsA prog 106 [.int .i64 p0,.int .i64 p1] h fun d h'=>∃ r,G r /\ d=.bool r /\ h'=h:=by
 refine CallsA.ret ?_;refine AQ func106 rfl Aeh ntmps106 rfl (fun ok=>?_);rw [FY] at hF;refine M8 ?_;refine Lq ?_;refine Yv ?_;refine AU rfl hF (fun hb1 hF=>?_) fun hb1 hF=>?_
 ·refine VN ?_;refine A3 (b:=(p1 == 2)) 3 13 (.bool ((p1 == 2) || (p1 == 4))) (fun hb2=>?_) (fun hb2=>?_) ?_
  ·refine LC ?_;exact th
  ·refine Px ?_;exact th
  refine C3 ?_;refine A3 (b:=((p1 == 2) || (p1 == 4))) 3 17 (.bool (((p1 == 2) || (p1 == 4)) || (p1 == 5))) (fun hb3=>?_) (fun hb3=>?_) ?_
  ·refine LC ?_;exact th
  ·refine Px ?_;exact th
  refine Fu ?_;exact rt
 ·refine Qw ?_;refine AU rfl hF (fun hb4 hF=>?_) fun hb4 hF=>?_
  ·refine TV ?_;refine A3 (b:=(decide (2 <= p1))) 3 25 (.bool ((decide (2 <= p1)) && (decide (p1 <= 5)))) (fun hb5=>?_) (fun hb5=>?_) ?_
   ·refine Tl ?_;exact th
   ·refine Ht ?_;exact th
   refine Fu ?_;exact rt
  ·refine VS ?_;exact rt
theorem Nj (p0:Ac) (p1:Ac) {G:Bool -> Prop} (h:Heap) (hF:OptP (Dx p0 p1) G):CallsA prog 105 [.agg (Ad p0),.iptr (Ad p1)] h fun d h'=>∃ r,G r /\ d=.bool r /\ h'=h:=by
 refine CallsA.ret ?_;refine AQ func105 rfl Ab6 ntmps105 rfl (fun ok=>?_);rw [Dx] at hF;refine Bw ?_;refine Cc (v:=.agg (Ad p0)) (cs:=Ad p0) rfl rfl rfl rfl ?_;refine PX ?_;refine A2 rfl Br Ax (by rw [Ab];rfl) ?_;refine AE rfl (AK B3 Ax (congrArg (List.drop 0) (Ab p1))) ?_;refine A2 rfl Br Ax (by rw [Ab];rfl) ?_;refine AE rfl (AK B3 Ax (congrArg (List.drop 0) (Ab p0))) ?_;refine cl (BX (fun _ h hF=>Qc _ _ h hF) _ hF fun x1 _ hF=>?_);refine UX ?_;refine Fu ?_;exact rt
theorem PR (p0:Ac) {G:Bool -> Prop} (h:Heap) (hF:OptP (D8 p0) G):CallsA prog 69 [.agg (Ad p0)] h fun d h'=>∃ r,G r /\ d=.bool r /\ h'=h:=by
 refine CallsA.ret ?_;refine AQ func69 rfl Ahz ntmps69 rfl (fun ok=>?_);rw [D8] at hF;refine Bw ?_;refine Cc (v:=.agg (Ad p0)) (cs:=Ad p0) rfl rfl rfl rfl ?_;refine PX ?_;refine A2 rfl Br Ax (by rw [Ab];rfl) ?_;refine AE rfl (AK B3 Ax (congrArg (List.drop 0) (Ab p0))) ?_;refine Za ?_;refine A3 (b:=(p0.Kind != 2)) 5 12 (.bool ((p0.Kind != 2) && (decide (0 < (p0.Attrs.length:Int))))) (fun hb1=>?_) (fun hb1=>?_) ?_
 ·refine DY ?_;refine A2 rfl Bz AW (by rw [Ab];rfl) ?_;refine Bi ?_;refine AE rfl (AK CR AW (congrArg (List.drop 3) (Ab p0))) ?_;refine Bi ?_;refine X5 ?_;refine Bi ?_;refine W6 ?_;refine Gp ?_;exact th
 ·refine VZ ?_;exact th
 refine Fg ?_;refine AG hF (fun (a9:Bool) s'=>Zs h [] 57 [(1,.iptr (Ad p0)),(3,.bool a9)] s') (fun J10 hF=>?_) ?_
 ·refine Bw ?_;refine A2 rfl Br Ax (by rw [Ab];rfl) ?_;refine AE rfl (AK B3 Ax (congrArg (List.drop 0) (Ab p0))) ?_;refine Yv ?_;refine AU rfl hF (fun hb11 hF=>?_) fun hb11 hF=>?_
  ·refine Nf ?_;refine Z8 ?_;refine A3 (b:=((p0.Kind != 2) && (decide (0 < (p0.Attrs.length:Int))))) 5 30 (.bool (((p0.Kind != 2) && (decide (0 < (p0.Attrs.length:Int)))) || (!((p0.Name.URI == (⟨[],[]⟩:Aa).URI) && ((p0.Name.Local == (⟨[],[]⟩:Aa).Local) && true))))) (fun hb12=>?_) (fun hb12=>?_) ?_
   ·refine SA ?_;exact th
   ·refine DY ?_;refine A2 rfl D4 AA (by rw [Ab];rfl) ?_;refine Bi ?_;refine AE rfl (AX (vs:=Ar p0.Name) Bv AA (by rw [Ab];rfl) (by rw [Ab];rfl)) ?_;refine Bi ?_;refine Dz (v:=.agg (Ar (⟨[],[]⟩:Aa))) (GY C4 EG rfl) ?_;refine Bi ?_;refine DN rfl rfl (UG (b:=((p0.Name.URI == (⟨[],[]⟩:Aa).URI) && ((p0.Name.Local == (⟨[],[]⟩:Aa).Local) && true))) DL DK (by simp only [Ar,El,E6,HZ,DK,DL,By,Ay,AS,By,Ay,AS,FN,FB,EX,FD,E7,EY,Es,List.drop_zero,List.drop_succ_cons,bi,bj,List.take_succ_cons,List.take_zero,Option.isSome_some,if_true,ba,Option.map_some,Nat.reduceAdd,Nat.reduceLeDiff])) ?_;refine Kh ?_;exact th
   refine C3 ?_;refine A3 (b:=(((p0.Kind != 2) && (decide (0 < (p0.Attrs.length:Int)))) || (!((p0.Name.URI == (⟨[],[]⟩:Aa).URI) && ((p0.Name.Local == (⟨[],[]⟩:Aa).Local) && true))))) 4 35 (.bool ((((p0.Kind != 2) && (decide (0 < (p0.Attrs.length:Int)))) || (!((p0.Name.URI == (⟨[],[]⟩:Aa).URI) && ((p0.Name.Local == (⟨[],[]⟩:Aa).Local) && true)))) || (!(p0.Text == [])))) (fun hb13=>?_) (fun hb13=>?_) ?_
   ·refine Nz ?_;exact th
   ·refine DY ?_;refine A2 rfl Ct Ay (by rw [Ab];rfl) ?_;refine Bi ?_;refine AE rfl (AK By Ay (congrArg (List.drop 5) (Ab p0))) ?_;refine Bi ?_;refine YQ ?_;refine Kh ?_;exact th
   refine Fg ?_;exact ⟨((((p0.Kind != 2) && (decide (0 < (p0.Attrs.length:Int)))) || (!((p0.Name.URI == (⟨[],[]⟩:Aa).URI) && ((p0.Name.Local == (⟨[],[]⟩:Aa).Local) && true)))) || (!(p0.Text == []))),hF,oy ok,wy ok⟩
  ·refine Qw ?_;refine AU rfl hF (fun hb14 hF=>?_) fun hb14 hF=>?_
   ·refine Nf ?_;refine A2 rfl Ct Ay (by rw [Ab];rfl) ?_;refine AE rfl (AK By Ay (congrArg (List.drop 5) (Ab p0))) ?_;refine YQ ?_;refine Fg ?_;exact ⟨(!(p0.Text == [])),hF,oy ok,wy ok⟩
   ·refine Qw ?_;refine AU rfl hF (fun hb15 hF=>?_) fun hb15 hF=>?_
    ·refine Nf ?_;refine Z8 ?_;refine A3 (b:=((p0.Kind != 2) && (decide (0 < (p0.Attrs.length:Int))))) 5 49 (.bool (((p0.Kind != 2) && (decide (0 < (p0.Attrs.length:Int)))) || (!(p0.Name.URI == [])))) (fun hb16=>?_) (fun hb16=>?_) ?_
     ·refine SA ?_;exact th
     ·refine DY ?_;refine A2 rfl D4 AA (by rw [Ab];rfl) ?_;refine Bi ?_;refine A2 rfl Jt Ay (by rw [Ab];rfl) ?_;refine Bi ?_;refine AE rfl (AK By Ay (congrArg (List.drop 0) (congrArg (List.drop 1) (Ab p0)))) ?_;refine Bi ?_;refine YQ ?_;refine Kh ?_;exact th
     refine Fg ?_;exact ⟨(((p0.Kind != 2) && (decide (0 < (p0.Attrs.length:Int)))) || (!(p0.Name.URI == []))),hF,oy ok,wy ok⟩
    ·refine Nf ?_;refine Z8 ?_;refine A3 (b:=((p0.Kind != 2) && (decide (0 < (p0.Attrs.length:Int))))) 5 21 (.bool (((p0.Kind != 2) && (decide (0 < (p0.Attrs.length:Int)))) || (!((p0.Name.URI == (⟨[],[]⟩:Aa).URI) && ((p0.Name.Local == (⟨[],[]⟩:Aa).Local) && true))))) (fun hb17=>?_) (fun hb17=>?_) ?_
     ·refine SA ?_;exact th
     ·refine DY ?_;refine A2 rfl D4 AA (by rw [Ab];rfl) ?_;refine Bi ?_;refine AE rfl (AX (vs:=Ar p0.Name) Bv AA (by rw [Ab];rfl) (by rw [Ab];rfl)) ?_;refine Bi ?_;refine Dz (v:=.agg (Ar (⟨[],[]⟩:Aa))) (GY C4 EG rfl) ?_;refine Bi ?_;refine DN rfl rfl (UG (b:=((p0.Name.URI == (⟨[],[]⟩:Aa).URI) && ((p0.Name.Local == (⟨[],[]⟩:Aa).Local) && true))) DL DK (by simp only [Ar,El,E6,HZ,DK,DL,By,Ay,AS,By,Ay,AS,FN,FB,EX,FD,E7,EY,Es,List.drop_zero,List.drop_succ_cons,bi,bj,List.take_succ_cons,List.take_zero,Option.isSome_some,if_true,ba,Option.map_some,Nat.reduceAdd,Nat.reduceLeDiff])) ?_;refine Kh ?_;exact th
     refine Fg ?_;exact ⟨(((p0.Kind != 2) && (decide (0 < (p0.Attrs.length:Int)))) || (!((p0.Name.URI == (⟨[],[]⟩:Aa).URI) && ((p0.Name.Local == (⟨[],[]⟩:Aa).Local) && true)))),hF,oy ok,wy ok⟩
 ·rintro a9 s' hF ⟨ok,hws⟩;refine AD hws ?_;refine Bw ?_;refine Z8 ?_;refine Bf 5 56 hF (fun J19 hb18 hF=>?_) (fun J19 hb18 hF=>?_) (fun v20 hF=>?_)
  ·refine SA ?_;exact tw
  ·refine DY ?_;refine A2 rfl B0 Bj (by rw [Ab];rfl) ?_;refine Bi ?_;refine AE rfl (AK Dv Bj (congrArg (List.drop 4) (Ab p0))) ?_;refine Bi ?_;refine WJ (ca:=[.iptr (Ad p0)]) rfl ?_;refine Bi ?_;refine cl (AB (f1:=105) (fi1:=[]) (ca1:=[.iptr (Ad p0)]) (fun z0 G h hF=>Nj z0 p0 h hF) _ hF fun x21 _ hF=>?_);refine Kh ?_;exact tw
  ·refine Fu ?_;exact rt
theorem L3 (rec0:Ac × Int -> Option Bool) (hrec:∀ (v:Ac × Int) (G:Bool -> Prop) (h:Heap),OptP (rec0 v) G -> CallsA prog 70 [.agg (Ad v.1),.int .i64 v.2] h fun d h'=>∃ r,G r /\ d=.bool r /\ h'=h) (p0:Ac) (p1:Int) {G:Bool -> Prop} (h:Heap) (hF:OptP (C5 rec0 p0 p1) G):CallsA prog 107 [.agg (Ad p0),.iptr [.int .i64 p1]] h fun d h'=>∃ r,G r /\ d=.bool r /\ h'=h:=by
 refine CallsA.ret ?_;refine AQ func107 rfl Ac3 ntmps107 rfl (fun ok=>?_);rw [C5] at hF;refine Bw ?_;refine Cc (v:=.agg (Ad p0)) (cs:=Ad p0) rfl rfl rfl rfl ?_;refine PX ?_;refine AE rfl (AX (vs:=Ad p0) A6 Aw (by rw [Ab];rfl) (by rw [Ab];rfl)) ?_;refine X9 ?_;refine cl (BX (enc:=fun r=>.bool r) (fun G h hF=>hrec (p0,p1) G h hF) _ hF fun x1 _ hF=>?_);refine Fu ?_;exact rt
theorem O4:∀ (N:Nat) (v:Ac × Int) (G:Bool -> Prop) (h:Heap),OptP (iter Ci N v) G -> CallsA prog 70 [.agg (Ad v.1),.int .i64 v.2] h fun d h'=>∃ r,G r /\ d=.bool r /\ h'=h:=by
 intro N
 induction N with
 | zero=>intro v G h hF;exact Lj hF
 | succ N ih0=>
 rintro ⟨p0,p1⟩ G h hF;show CallsA prog 70 [.agg (Ad p0),.int .i64 p1] h fun d h'=>∃ r,G r /\ d=.bool r /\ h'=h;replace hF:OptP (Ci (iter Ci N) (p0,p1)) G:=hF;refine CallsA.ret ?_;refine AQ func70 rfl Ag4 ntmps70 rfl (fun ok=>?_);rw [Ci] at hF;refine Hs ?_;refine Cy (mdl [(3,1)]) ?_;refine Cc (v:=.agg (Ad p0)) (cs:=Ad p0) rfl rfl rfl rfl ?_;refine Up (cs:=[.int .i64 p1]) ok rfl rfl rfl rfl ?_;intro i1 hi1 ok;refine Fg ?_;refine AG hF (fun (a4:Int) s'=>Zs h [(i1,.cells [.int .i64 a4])] 16 [(2,.iptr (Ad p0)),(3,.ptr i1 0)] s') (fun J5 hF=>?_) ?_
 ·refine Bw ?_;refine A2 rfl Br Ax (by rw [Ab];rfl) ?_;refine AE rfl (AK B3 Ax (congrArg (List.drop 0) (Ab p0))) ?_;refine Q8 ?_;refine AU rfl hF (fun hb6 hF=>?_) fun hb6 hF=>?_
  ·refine VQ ?_;refine SV ?_;refine Aaw ?_;refine AU rfl hF (fun hb7 hF=>?_) fun hb7 hF=>?_
   ·refine Hg ?_;exact rt
   ·refine Dq ?_;refine Nf ?_;refine SV ?_;refine QA ?_;refine st_ 0 ok hi1 Ax (fun ok=>?_);refine A9 ?_;exact ⟨(IntKind.wrap .i64 (p1 + 1)),hF,oy ok,wy ok⟩
  ·refine Dq ?_;exact ⟨p1,hF,oy ok,wy ok⟩
 ·rintro a4 s' hF ⟨ok,hws⟩;refine AD hws ?_;refine Bw ?_;refine Ln 0 3 ok rfl rfl hi1 (fun ok=>?_);refine A2 rfl B0 Bj (by rw [Ab];rfl) ?_;refine AE rfl (AK Dv Bj (congrArg (List.drop 4) (Ab p0))) ?_;refine WJ (ca:=[.iptr (B1 a4)]) rfl ?_;refine cl (AB (f1:=107) (fi1:=[]) (ca1:=[.iptr (B1 a4)]) (fun z0 G h hF=>L3 (iter Ci N) ih0 z0 a4 h hF) _ hF fun x10 _ hF=>?_);refine Fu ?_;exact rt
theorem OB (p0:Ac) (p1:Int) {G:Bool -> Prop} (h:Heap) (hF:OptP (Ib p0 p1) G):CallsA prog 70 [.agg (Ad p0),.int .i64 p1] h fun d h'=>∃ r,G r /\ d=.bool r /\ h'=h:=O4 FUEL (p0,p1) G h hF
theorem LE (p0:Ak) {G:Bool -> Prop} (h:Heap) (hF:OptP (Ey p0) G):CallsA prog 108 [.agg (Ao p0)] h fun d h'=>∃ r,G r /\ d=.bool r /\ h'=h:=by
 refine CallsA.ret ?_;refine AQ func108 rfl Adj ntmps108 rfl (fun ok=>?_);rw [Ey] at hF;refine Bw ?_;refine Cc rfl rfl rfl rfl ?_;refine PX ?_;refine A2 rfl HH Ay rfl ?_;refine RB ?_;refine UA ?_;refine W6 ?_;refine Fu ?_;exact rt
theorem EC (p0:List Ak) (p1:Ak -> Option Bool) (f1:FuncId) (fi1 ca1:List D) (hf1:∀ (x0:Ak) (G:Bool -> Prop) (h:Heap),OptP (p1 x0) G -> CallsA prog f1 (fi1 ++ [.agg (Ao x0)] ++ ca1) h fun d h'=>∃ r,G r /\ d=.bool r /\ h'=h) {G:Bool -> Prop} (h:Heap) (hF:OptP (Az p0 p1) G):CallsA prog 109 [.sl 3 (List.map Ao p0) 0,.fn (.func f1) fi1 ca1] h fun d h'=>∃ r,G r /\ d=.bool r /\ h'=h:=by
 refine CallsA.ret ?_;refine AQ func109 rfl Acl ntmps109 rfl (fun ok=>?_);rw [Az] at hF;refine M8 ?_;refine Ki ?_;refine Xn ?_;refine cl (Da (f1:=f1) (fi1:=fi1) (ca1:=ca1) hf1 _ hF fun x1 _ hF=>?_);refine Tf ?_;refine Fu ?_;exact rt
theorem BV {β:Type} {f:Bool -> Option β} {G:β -> Prop} {R:D -> Heap -> Prop} {p0:List Ak} {p1:Ak -> Option Bool} {f1:FuncId} {fi1 ca1:List D} (hf1:∀ (x0:Ak) (G:Bool -> Prop) (h:Heap),OptP (p1 x0) G -> CallsA prog f1 (fi1 ++ [.agg (Ao x0)] ++ ca1) h fun d h'=>∃ r,G r /\ d=.bool r /\ h'=h) (h:Heap) (hF:OptP ((Az p0 p1).bind f) G) (hk:∀ r,Az p0 p1=some r -> OptP (f r) G -> R (.bool r) h):CallsA prog 109 [.sl 3 (List.map Ao p0) 0,.fn (.func f1) fi1 ca1] h R:=by
 obtain ⟨r0,hr,hF⟩:=A8 hF;refine (EC (G:=fun r=>r=r0) p0 p1 f1 fi1 ca1 hf1 h ⟨r0,hr,rfl⟩).mono ?_;rintro _ _ ⟨r,rfl,rfl,rfl⟩;exact hk _ hr hF
theorem Ny (p0:Ac) {G:Bool -> Prop} (h:Heap) (hF:OptP (DQ p0) G):CallsA prog 71 [.agg (Ad p0)] h fun d h'=>∃ r,G r /\ d=.bool r /\ h'=h:=by
 refine CallsA.ret ?_;refine AQ func71 rfl Ahq ntmps71 rfl (fun ok=>?_);rw [DQ] at hF;refine Bw ?_;refine Cc (v:=.agg (Ad p0)) (cs:=Ad p0) rfl rfl rfl rfl ?_;refine PX ?_;refine S_a (v:=.fn (.func 108) [] []) rfl ?_;refine F0 ?_;refine A2 rfl Bz AW (by rw [Ab];rfl) ?_;refine AE rfl (AK CR AW (congrArg (List.drop 3) (Ab p0))) ?_;refine X5 ?_;refine W6 ?_;refine C3 ?_;refine A3 (b:=(decide (64 < (p0.Attrs.length:Int)))) 5 13 (.bool ((decide (64 < (p0.Attrs.length:Int))) || (decide (8192 < (p0.Text.length:Int))))) (fun hb1=>?_) (fun hb1=>?_) ?_
 ·refine SA ?_;exact th
 ·refine DY ?_;refine A2 rfl Ct Ay (by rw [Ab];rfl) ?_;refine Bi ?_;refine AE rfl (AK By Ay (congrArg (List.drop 5) (Ab p0))) ?_;refine Bi ?_;refine Xg ?_;refine Zv ?_;exact th
 refine C3 ?_;refine Bf 5 19 hF (fun J3 hb2 hF=>?_) (fun J3 hb2 hF=>?_) (fun v4 hF=>?_)
 ·refine SA ?_;exact tw
 ·refine DY ?_;refine A2 rfl Bz AW (by rw [Ab];rfl) ?_;refine Bi ?_;refine AE rfl (AK CR AW (congrArg (List.drop 3) (Ab p0))) ?_;refine Bi ?_;refine S_m (v:=.fn (.func 108) [] []) rfl ?_;refine Bi ?_;refine cl (BV (f1:=108) (fi1:=[]) (ca1:=[]) (fun z0 G h hF=>LE z0 h hF) _ hF fun x5 _ hF=>?_);refine Kh ?_;exact tw
 ·refine Fu ?_;exact rt
theorem KC (p0 : List By8) {G : Bool -> Prop} (h : Heap) (hF : OptP (EN p0) G) : CallsA prog 112 [.str p0] h fun d h' => ∃ r, G r /\ d = .bool r /\ h' = h := by
 refine CallsA.ret ?_;refine AQ func112 rfl Adr ntmps112 rfl (fun ok=>?_);rw [EN] at hF;refine Aas ?_;refine Nw ?_;refine Lu ?_;refine C3 ?_;refine A3 (b:=(p0 == [])) 4 11 (.bool ((p0 == []) || (decide (100 < (p0.length:Int))))) (fun hb1=>?_) (fun hb1=>?_) ?_
 ·refine Nz ?_;exact th
 ·refine Ns ?_;refine Xg ?_;refine Zv ?_;exact th
 refine C3 ?_;refine Bf 4 16 hF (fun J3 hb2 hF=>?_) (fun J3 hb2 hF=>?_) (fun v4 hF=>?_)
 ·refine Nz ?_;exact tw
 ·refine Ns ?_;refine cl (L_ValidString_ok _ hF fun x5 _ hF=>?_);refine Zg ?_;exact tw
 ·refine A9 ?_;refine AU rfl hF (fun hb6 hF=>?_) fun hb6 hF=>?_
  ·refine Hg ?_;exact rt
  ·refine Dq ?_;refine AG hF (fun (_:Unit) s'=>Zs h [] 35 [] s') (fun J18 hF=>?_) ?_
   ·refine Nw ?_;refine Aen ok rfl AS ?_;intro i19 hi19 ok;refine Abm ?_;refine BA (σ:=Nat) hF (fun (a20:Nat) s'=>Zs h [(i19,.iter p0 a20)] 35 [(18,.ptr i19 0)] s') ?_ ?_
    ·exact ⟨oy ok,wy ok⟩
    ·rintro G21 hG22 rec23 a20 s' ih24 hF ⟨ok,hws⟩;refine AD hws ?_;rw [C8] at hF;refine Bw ?_;refine Ac6 (j:=0) ok rfl rfl hi19 hF (fun _ ok hF=>?_) (fun hF=>?_)
     ·refine XP ?_;refine Jk ?_;refine Afk rfl rfl ?_;refine VM ?_;refine Bw ?_;refine Ai2 ?_;refine LJ ?_;refine VN ?_;refine Bf 4 29 hF (fun J26 hb25 hF=>?_) (fun J26 hb25 hF=>?_) (fun v27 hF=>?_)
      ·refine Lx ?_;refine cl (BX (fun _ h hF=>Gs _ h hF) _ hF fun x28 _ hF=>?_);refine Aay ?_;exact tw
      ·refine Pc ?_;exact tw
      ·refine C3 ?_;refine Bf 4 34 hF (fun J30 hb29 hF=>?_) (fun J30 hb29 hF=>?_) (fun v31 hF=>?_)
       ·refine Nz ?_;exact tw
       ·refine Lx ?_;refine cl (BX (fun _ h hF=>IL _ h hF) _ hF fun x32 _ hF=>?_);refine Zg ?_;exact tw
       ·refine A9 ?_;refine AU rfl hF (fun hb33 hF=>?_) fun hb33 hF=>?_
        ·refine Hg ?_;replace hF:=hG22 _ (Ap hF);exact rt
        ·refine Dq ?_;refine ih24 (a20 + wdS p0 a20) _ hF ?_;exact ⟨oy ok,wy ok⟩
     ·refine XP ?_;refine Jk ?_;refine Afn rfl rfl ?_;refine Fh ?_;replace hF:=hG22 _ (Ap hF);exact ⟨(),hF,oy ok,wy ok⟩
   ·rintro ⟨⟩ s' hF ⟨ok,hws⟩;refine AD hws ?_;refine Hg ?_;exact rt
theorem L2 (p0:Int) {G:Bool -> Prop} (h:Heap) (hF:OptP (Eo p0) G):CallsA prog 187 [.int .i32 p0] h fun d h'=>∃ r,G r /\ d=.bool r /\ h'=h:=by
 refine CallsA.ret ?_;refine AQ func187 rfl Adw ntmps187 rfl (fun ok=>?_);rw [Eo] at hF;refine M8 ?_;refine VN ?_;refine A3 (b:=(p0 == 9)) 3 8 (.bool ((p0 == 9) || (p0 == 10))) (fun hb1=>?_) (fun hb1=>?_) ?_
 ·refine LC ?_;exact th
 ·refine Px ?_;exact th
 refine C3 ?_;refine A3 (b:=((p0 == 9) || (p0 == 10))) 3 12 (.bool (((p0 == 9) || (p0 == 10)) || (p0 == 13))) (fun hb2=>?_) (fun hb2=>?_) ?_
 ·refine LC ?_;exact th
 ·refine Px ?_;exact th
 refine C3 ?_;refine Bf 7 20 hF (fun J4 hb3 hF=>?_) (fun J4 hb3 hF=>?_) (fun v5 hF=>?_)
 ·refine Ii ?_;refine LC ?_;exact tw
 ·refine Lx ?_;refine Dz (v:=.agg (A1 (⟨32,55295⟩:Am))) (GY CV Db rfl) ?_;refine Bi ?_;refine Dz (v:=.agg (A1 (⟨57344,65533⟩:Am))) (GY CV Db rfl) ?_;refine Bi ?_;refine Dz (v:=.agg (A1 (⟨65536,1114111⟩:Am))) (GY CV Db rfl) ?_;refine Bi ?_;refine Dh (cs:=[.int .i32 (⟨32,55295⟩:Am).lo,.int .i32 (⟨32,55295⟩:Am).hi,.int .i32 (⟨57344,65533⟩:Am).lo,.int .i32 (⟨57344,65533⟩:Am).hi,.int .i32 (⟨65536,1114111⟩:Am).lo,.int .i32 (⟨65536,1114111⟩:Am).hi]) (es:=(List.map A1 [(⟨32,55295⟩:Am),(⟨57344,65533⟩:Am),(⟨65536,1114111⟩:Am)])) rfl Mq rfl (by kernel_rfl) (by kernel_rfl) ?_;refine Bi ?_;refine cl (BX (fun _ h hF=>Kb _ _ h hF) _ hF fun x6 _ hF=>?_);refine Kh ?_;exact tw
 ·refine Fu ?_;exact rt
theorem OQ (p0:List By8) (p1:Int) {G:Int × Int × Int -> Prop} (h:Heap) (hF:OptP (Fv p0 p1) G):CallsA prog 176 [.sl 1 (List.map R2 p0) 0,.int .i64 p1] h fun d h'=>∃ r,G r /\ d=.tup [.int .i32 r.1,.int .i64 r.2.1,.int .i64 r.2.2] /\ h'=h:=by
 refine CallsA.ret ?_;refine AQ func176 rfl Ab1 ntmps176 rfl (fun ok=>?_);rw [Fv] at hF;refine Yp ?_;refine Wg ?_;refine Xu ?_;refine A3 (b:=(decide (p1 < 0))) 5 16 (.bool ((decide (p1 < 0)) || (decide ((p0.length:Int) <= p1)))) (fun hb1=>?_) (fun hb1=>?_) ?_
 ·refine SA ?_;exact th
 ·refine Lx ?_;refine Kl ?_;refine Bi ?_;refine Zc ?_;refine Bi ?_;refine Tf ?_;refine Kh ?_;exact th
 refine A9 ?_;refine AU rfl hF (fun hb2 hF=>?_) fun hb2 hF=>?_
 ·refine Yp ?_;refine LA ?_;exact rt
 ·refine Dq ?_;refine Aao ?_;refine Adg rfl Jc Hh (F4 rfl) Ad6 hF (fun x3 _ hF=>?_);refine cl (L_DecodeRune_ok _ hF fun x4 _ hF=>?_);refine Aaq ?_;refine Hs ?_;refine MQ ?_;refine VN ?_;refine A3 (b:=(x4.1 == 65533)) 3 30 (.bool ((x4.1 == 65533) && (decide (x4.2 < 3)))) (fun hb5=>?_) (fun hb5=>?_) ?_
  ·refine Aa4 ?_;refine Gp ?_;exact th
  ·refine Ht ?_;exact th
  refine Fg ?_;refine AU rfl hF (fun hb6 hF=>?_) fun hb6 hF=>?_
  ·refine Yp ?_;refine LA ?_;exact rt
  ·refine Gz ?_;refine cl (BX (fun _ h hF=>L2 _ h hF) _ hF fun x7 _ hF=>?_);refine UX ?_;refine Fg ?_;refine AU rfl hF (fun hb8 hF=>?_) fun hb8 hF=>?_
   ·refine Yp ?_;refine LA ?_;exact rt
   ·refine Dq ?_;refine Ok ?_;refine X1 ?_;refine JZ ?_;refine LA ?_;exact rt
theorem Nq (p0:List By8) {G:Int × Int -> Prop} (h:Heap) (hF:OptP (Ee p0) G):CallsA prog 148 [.sl 1 (List.map R2 p0) 0] h fun d h'=>∃ r,G r /\ d=.tup [.int .i64 r.1,.int .i64 r.2] /\ h'=h:=by
 refine CallsA.ret ?_;refine AQ func148 rfl Adv ntmps148 rfl (fun ok=>?_);rw [Ee] at hF;refine Bw ?_;refine LJ ?_;refine AG hF (fun (_:Unit) s'=>Zs h [] 24 [] s') (fun J5 hF=>?_) ?_
 ·refine Yt ?_;refine BA (σ:=Int) hF (fun (a6:Int) s'=>Zs h [] 24 [(0,.sl 1 (List.map R2 p0) 0),(4,.int .i64 a6)] s') ?_ ?_
  ·exact ⟨oy ok,wy ok⟩
  ·rintro G7 hG8 rec9 a6 s' ih10 hF ⟨ok,hws⟩;refine AD hws ?_;rw [DG] at hF;refine Lq ?_;refine Kl ?_;refine Zc ?_;refine Ob ?_;refine AU rfl hF (fun hb11 hF=>?_) fun hb11 hF=>?_
   ·refine VM ?_;refine Aao ?_;refine cl (BX (fun _ h hF=>OQ _ _ h hF) _ hF fun x12 _ hF=>?_);refine Yc ?_;refine JZ ?_;refine Wg ?_;refine Tg ?_;refine AU rfl hF (fun hb13 hF=>?_) fun hb13 hF=>?_
    ·refine Ok ?_;refine LA ?_;replace hF:=hG8 _ (Ap hF);exact rt
    ·refine Aa9 ?_;refine IS ?_;refine ih10 x12.2.1 _ hF ?_;exact ⟨oy ok,wy ok⟩
   ·refine Fh ?_;replace hF:=hG8 _ (Ap hF);exact ⟨(),hF,oy ok,wy ok⟩
 ·rintro ⟨⟩ s' hF ⟨ok,hws⟩;refine AD hws ?_;refine Z7 ?_;exact rt
theorem Ja (p0:List By8) {G:Bool -> Prop} (h:Heap) (hF:OptP (EZ p0) G):CallsA prog 114 [.str p0] h fun d h'=>∃ r,G r /\ d=.bool r /\ h'=h:=by
 refine CallsA.ret ?_;refine AQ func114 rfl Ad0 ntmps114 rfl (fun ok=>?_);rw [EZ] at hF;refine Abb ?_;refine Agp ?_;refine cl (BX (fun _ h hF=>Nq _ h hF) _ hF fun x1 _ hF=>?_);refine Aaq ?_;refine Gz ?_;refine V1 ?_;refine Fu ?_;exact rt
theorem Ha (p0:Aa) {G:Bool -> Prop} (h:Heap) (hF:OptP (CN p0) G):CallsA prog 111 [.agg (Ar p0)] h fun d h'=>∃ r,G r /\ d=.bool r /\ h'=h:=by
 refine CallsA.ret ?_;refine AQ func111 rfl Afd ntmps111 rfl (fun ok=>?_);rw [CN] at hF;refine Bw ?_;refine Cc rfl rfl rfl rfl ?_;refine PX ?_;refine Aal ?_;refine RB ?_;refine cl (BX (fun _ h hF=>KC _ h hF) _ hF fun x1 _ hF=>?_);refine V0 ?_;refine A3 (b:=(!x1)) 5 12 (.bool ((!x1) || (decide (100 < (p0.URI.length:Int))))) (fun hb2=>?_) (fun hb2=>?_) ?_
 ·refine SA ?_;exact th
 ·refine Zd ?_;refine Xg ?_;refine Zv ?_;exact th
 refine C3 ?_;refine Bf 4 17 hF (fun J4 hb3 hF=>?_) (fun J4 hb3 hF=>?_) (fun v5 hF=>?_)
 ·refine Nz ?_;exact tw
 ·refine Zd ?_;refine cl (BX (fun _ h hF=>Ja _ h hF) _ hF fun x6 _ hF=>?_);refine Kh ?_;exact tw
 ·refine C3 ?_;refine A3 (b:=v5) 4 22 (.bool (v5 || (p0.URI == [104,116,116,112,58,47,47,119,119,119,46,119,51,46,111,114,103,47,50,48,48,48,47,120,109,108,110,115,47]))) (fun hb7=>?_) (fun hb7=>?_) ?_
  ·refine Nz ?_;exact th
  ·refine Zd ?_;refine Lu ?_;refine Kh ?_;exact th
  refine Fu ?_;exact rt
theorem JX (p0:Ak) {G:Bool -> Prop} (h:Heap) (hF:OptP (Dy p0) G):CallsA prog 110 [.agg (Ao p0)] h fun d h'=>∃ r,G r /\ d=.bool r /\ h'=h:=by
 refine CallsA.ret ?_;refine AQ func110 rfl Aej ntmps110 rfl (fun ok=>?_);rw [Dy] at hF;refine Bw ?_;refine Cc rfl rfl rfl rfl ?_;refine PX ?_;refine XZ ?_;refine AE rfl (AX (vs:=Ar p0.Name) Bv AA rfl rfl) ?_;refine cl (BX (fun _ h hF=>Ha _ h hF) _ hF fun x1 _ hF=>?_);refine C3 ?_;refine A3 (b:=x1) 5 11 (.bool (x1 || ((p0.Name.URI == (⟨[],[120,109,108,110,115]⟩:Aa).URI) && ((p0.Name.Local == (⟨[],[120,109,108,110,115]⟩:Aa).Local) && true)))) (fun hb2=>?_) (fun hb2=>?_) ?_
 ·refine SA ?_;exact th
 ·refine DY ?_;refine XZ ?_;refine Bi ?_;refine AE rfl (AX (vs:=Ar p0.Name) Bv AA rfl rfl) ?_;refine Bi ?_;refine Dz (v:=.agg (Ar (⟨[],[120,109,108,110,115]⟩:Aa))) (GY C4 EG rfl) ?_;refine Bi ?_;refine DN rfl rfl (SL (b:=((p0.Name.URI == (⟨[],[120,109,108,110,115]⟩:Aa).URI) && ((p0.Name.Local == (⟨[],[120,109,108,110,115]⟩:Aa).Local) && true))) DL DK (by simp only [Ar,El,E6,HZ,DK,DL,By,Ay,AS,By,Ay,AS,FN,FB,EX,FD,E7,EY,Es,List.drop_zero,List.drop_succ_cons,bi,bj,List.take_succ_cons,List.take_zero,Option.isSome_some,if_true,ba,Option.map_some,Nat.reduceAdd,Nat.reduceLeDiff])) ?_;refine Kh ?_;exact th
 refine Fu ?_;exact rt
theorem IM (p0 : List By8) (p1 : List By8) {G : Bool -> Prop} (h : Heap) (hF : OptP (Ck p0 p1) G) : CallsA prog 113 [.str p0, .str p1] h fun d h' => ∃ r, G r /\ d = .bool r /\ h' = h := by
 refine CallsA.ret ?_;refine AQ func113 rfl Acg ntmps113 rfl (fun ok=>?_);rw [Ck] at hF;refine M8 ?_;refine Oz ?_;refine JW_step ?_;refine ZA 0 rfl hF (fun (a49:Int) s'=>Zs h [] 123 [(0,.str p0),(1,.str p1),(5,.int .i64 a49)] s') ?_ ?_
 ·rintro a49 s' hF ⟨ok, hws⟩;refine AD hws ?_;refine YJ ?_;refine Km rfl AS (F4 rfl) Qg hF (fun x52 _ hF => ?_);refine XN ?_;refine F0 ?_;refine S5 ?_;refine Fy ?_;refine Km rfl AS (F4 rfl) Qg hF (fun x53 _ hF => ?_);refine XN ?_;refine A9 ?_;refine AG hF (fun (a80 : (List By8)) s' => Zs h [] 123 [(1, .str a80)] s') (fun J81 hF => ?_) ?_
  ·refine Nw ?_;refine Aen ok rfl AS ?_;intro i82 hi82 ok;refine Abm ?_;refine BA (σ := (List By8) × Nat) hF (fun (v : (List By8) × Nat) s' => match v with | (a83, a84) => Zs h [(i82, .iter x52 a84)] 123 [(1, .str a83), (67, .ptr i82 0)] s') ?_ ?_
   ·exact ⟨oy ok,wy ok⟩
   ·rintro G85 hG86 rec87 ⟨a83, a84⟩ s' ih88 hF ⟨ok, hws⟩;refine AD hws ?_;rw [AL] at hF;refine Bw ?_;refine Ac6 (j := 0) ok rfl rfl hi82 hF (fun _ ok hF => ?_) (fun hF => ?_)
    ·refine XP ?_;refine Jk ?_;refine Afk rfl rfl ?_;refine VM ?_;refine Bw ?_;refine XP ?_;refine IS ?_;refine Hs ?_;refine Nw ?_;refine UA ?_;refine Q8 ?_;refine AU rfl hF (fun hb89 hF=>?_) fun hb89 hF=>?_
     ·refine Hg ?_;replace hF:=hG86 _ (Ap hF);exact rt
     ·refine Dq ?_;refine Nw ?_;refine cl (L_DecodeRuneInString_ok _ hF fun x90 _ hF=>?_);refine Aaq ?_;refine YJ ?_;refine Km rfl AS (F4 rfl) Qg hF (fun x91 _ hF=>?_);refine XN ?_;refine Jk ?_;refine Ok ?_;refine Q8 ?_;refine AU rfl hF (fun hb92 hF=>?_) fun hb92 hF=>?_
      ·refine Fh ?_;refine ih88 (x91,(a84 + wdS x52 a84)) _ hF ?_;exact ⟨oy ok,wy ok⟩
      ·refine Dq ?_;refine AG hF (fun (v:Int × Int) s'=>match v with | (a94,a95)=>Zs h [(i82,.iter x52 (a84 + wdS x52 a84))] 123 [(1,.str x91),(10,.int .i32 a94),(11,.int .i32 a95),(67,.ptr i82 0)] s') (fun J96 hF=>?_) ?_
       ·refine Ok ?_;refine Ob ?_;refine AU rfl hF (fun hb97 hF=>?_) fun hb97 hF=>?_
        ·refine TQ ?_;refine Fy ?_;refine LJ ?_;exact ⟨(x90.1,(rnS x52 a84)),hF,oy ok,wy ok⟩
        ·refine Dq ?_;exact ⟨((rnS x52 a84),x90.1),hF,oy ok,wy ok⟩
       ·rintro ⟨a94,a95⟩ s' hF ⟨ok,hws⟩;refine AD hws ?_;refine Lq ?_;refine Ob ?_;refine AU rfl hF (fun hb98 hF=>?_) fun hb98 hF=>?_
        ·refine Lq ?_;refine TP ?_;refine C3 ?_;refine A3 (b:=(decide (65 <= a94))) 3 97 (.bool ((decide (65 <= a94)) && (decide (a94 <= 90)))) (fun hb99=>?_) (fun hb99=>?_) ?_
         ·refine Tl ?_;exact th
         ·refine Ht ?_;exact th
         refine C3 ?_;refine A3 (b:=((decide (65 <= a94)) && (decide (a94 <= 90)))) 6 104 (.bool (((decide (65 <= a94)) && (decide (a94 <= 90))) && (a95 == (IntKind.wrap .i32 ((IntKind.wrap .i32 (a94 + 97)) - 65))))) (fun hb100=>?_) (fun hb100=>?_) ?_
         ·refine Lx ?_;refine X6 ?_;refine QA ?_;refine Bi ?_;refine Na ?_;refine TK ?_;exact th
         ·refine Ii ?_;refine Sq ?_;exact th
         refine A9 ?_;refine AU rfl hF (fun hb101 hF=>?_) fun hb101 hF=>?_
         ·refine Fh ?_;refine ih88 (x91,(a84 + wdS x52 a84)) _ hF ?_;exact ⟨oy ok,wy ok⟩
         ·refine VS ?_;replace hF:=hG86 _ (Ap hF);exact rt
        ·refine Dq ?_;refine Gz ?_;refine cl (L_SimpleFold_ok _ hF fun x102 _ hF=>?_);refine IS ?_;refine AG hF (fun (a107:Int) s'=>Zs h [(i82,.iter x52 (a84 + wdS x52 a84))] 123 [(1,.str x91),(11,.int .i32 a95),(13,.int .i32 a107),(67,.ptr i82 0)] s') (fun J108 hF=>?_) ?_
         ·refine MQ ?_;refine BA (σ:=Int) hF (fun (a109:Int) s'=>Zs h [(i82,.iter x52 (a84 + wdS x52 a84))] 123 [(1,.str x91),(10,.int .i32 a94),(11,.int .i32 a95),(13,.int .i32 a109),(67,.ptr i82 0)] s') ?_ ?_
          ·exact ⟨oy ok,wy ok⟩
          ·rintro G110 hG111 rec112 a109 s' ih113 hF ⟨ok,hws⟩;refine AD hws ?_;rw [BC] at hF;refine Y1 ?_;refine Za ?_;refine A3 (b:=(a109 != a94)) 4 114 (.bool ((a109 != a94) && (decide (a109 < a95)))) (fun hb114=>?_) (fun hb114=>?_) ?_
           ·refine Lx ?_;refine X6 ?_;refine Aab ?_;refine Gp ?_;exact th
           ·refine Pc ?_;exact th
           refine A9 ?_;refine AU rfl hF (fun hb115 hF=>?_) fun hb115 hF=>?_
           ·refine VM ?_;refine TQ ?_;refine cl (L_SimpleFold_ok _ hF fun x116 _ hF=>?_);refine IS ?_;refine ih113 x116 _ hF ?_;exact ⟨oy ok,wy ok⟩
           ·refine Fh ?_;replace hF:=hG111 _ (Ap hF);exact ⟨a109,hF,oy ok,wy ok⟩
         ·rintro a107 s' hF ⟨ok,hws⟩;refine AD hws ?_;refine Y1 ?_;refine Q8 ?_;refine AU rfl hF (fun hb117 hF=>?_) fun hb117 hF=>?_
          ·refine Fh ?_;refine ih88 (x91,(a84 + wdS x52 a84)) _ hF ?_;exact ⟨oy ok,wy ok⟩
          ·refine VS ?_;replace hF:=hG86 _ (Ap hF);exact rt
    ·refine XP ?_;refine Jk ?_;refine Afn rfl rfl ?_;refine Fh ?_;replace hF:=hG86 _ (Ap hF);exact ⟨a83,hF,oy ok,wy ok⟩
  ·rintro a80 s' hF ⟨ok,hws⟩;refine AD hws ?_;refine Nw ?_;refine UA ?_;refine Aa7 ?_;exact rt
 ·intro J50 hJ51 hF;refine Tt ?_;refine AG hF (fun (_ : Unit) s' => Zs h [] 123 [(0, .str p0), (1, .str p1)] s') (fun J142 hF => ?_) ?_
  ·refine Nw ?_;refine UA ?_;refine Zb ?_;refine Aei rfl rfl ?_;refine IS ?_;refine MQ ?_;refine BA (σ:=Int) hF (fun (a143:Int) s'=>Zs h [] 123 [(0,.str p0),(1,.str p1),(5,.int .i64 a143),(6,.int .i64 (if (p1.length:Int) < (p0.length:Int) then (p1.length:Int) else (p0.length:Int)))] s') ?_ ?_
   ·exact ⟨oy ok,wy ok⟩
   ·rintro G144 hG145 rec146 a143 s' ih147 hF ⟨ok,hws⟩;refine AD hws ?_;rw [AM] at hF;refine Y1 ?_;refine Ob ?_;refine AU rfl hF (fun hb148 hF=>?_) fun hb148 hF=>?_
    ·refine Dq ?_;refine AG hF (fun (_:Unit) s'=>Zs h [] 123 [(0,.str p0),(1,.str p1),(5,.int .i64 a143),(6,.int .i64 (if (p1.length:Int) < (p0.length:Int) then (p1.length:Int) else (p0.length:Int)))] s') (fun J160 hF=>?_) ?_
     ·refine MQ ?_;refine YJ ?_;refine Gj rfl rfl AS hF (fun x161 _ hF=>?_);refine IS ?_;refine YJ ?_;refine Gj rfl rfl AS hF (fun x162 _ hF=>?_);refine IS ?_;refine Y1 ?_;refine DN rfl rfl (Aj1 ..) ?_;refine Tf ?_;refine A9 ?_;refine AU rfl hF (fun hb163 hF=>?_) fun hb163 hF=>?_
      ·refine OC ?_
       repeat (first | with_reducible refine Exit.sel_goto ?_ | with_reducible refine Exit.blk_goto ?_)
       refine LK rfl ?_;replace hF:=hG145 _ (Ap hF);refine hJ51 a143 _ hF ?_;exact ⟨oy ok,wy ok⟩
      ·refine Pb ?_;refine Ok ?_;refine Q8 ?_;refine AU rfl hF (fun hb164 hF=>?_) fun hb164 hF=>?_
       ·refine Fh ?_;exact ⟨(),hF,oy ok,wy ok⟩
       ·refine Dq ?_;refine AG hF (fun (v:Int × Int) s'=>match v with | (a166,a167)=>Zs h [] 123 [(0,.str p0),(1,.str p1),(5,.int .i64 a143),(6,.int .i64 (if (p1.length:Int) < (p0.length:Int) then (p1.length:Int) else (p0.length:Int))),(7,.int .u8 a166),(8,.int .u8 a167)] s') (fun J168 hF=>?_) ?_
        ·refine Ok ?_;refine Ob ?_;refine AU rfl hF (fun hb169 hF=>?_) fun hb169 hF=>?_
         ·refine TQ ?_;refine Fy ?_;refine LJ ?_;exact ⟨((x162.toNat:Int),(x161.toNat:Int)),hF,oy ok,wy ok⟩
         ·refine Dq ?_;exact ⟨((x161.toNat:Int),(x162.toNat:Int)),hF,oy ok,wy ok⟩
        ·rintro ⟨a166,a167⟩ s' hF ⟨ok,hws⟩;refine AD hws ?_;refine Lq ?_;refine TP ?_;refine C3 ?_;refine A3 (b:=(decide (65 <= a166))) 3 47 (.bool ((decide (65 <= a166)) && (decide (a166 <= 90)))) (fun hb170=>?_) (fun hb170=>?_) ?_
         ·refine Tl ?_;exact th
         ·refine Ht ?_;exact th
         refine C3 ?_;refine A3 (b:=((decide (65 <= a166)) && (decide (a166 <= 90)))) 6 54 (.bool (((decide (65 <= a166)) && (decide (a166 <= 90))) && (a167 == (IntKind.wrap .u8 ((IntKind.wrap .u8 (a166 + 97)) - 65))))) (fun hb171=>?_) (fun hb171=>?_) ?_
         ·refine Lx ?_;refine X6 ?_;refine QA ?_;refine Bi ?_;refine Na ?_;refine TK ?_;exact th
         ·refine Ii ?_;refine Sq ?_;exact th
         refine A9 ?_;refine AU rfl hF (fun hb172 hF=>?_) fun hb172 hF=>?_
         ·refine Fh ?_;exact ⟨(),hF,oy ok,wy ok⟩
         ·refine VS ?_;replace hF:=hG145 _ (Ap hF);exact rt
     ·rintro ⟨⟩ s' hF ⟨ok,hws⟩;refine AD hws ?_;refine Rn ?_;refine ih147 (IntKind.wrap .i64 (a143 + 1)) _ hF ?_;exact ⟨oy ok,wy ok⟩
    ·refine Fh ?_;replace hF:=hG145 _ (Ap hF);exact ⟨(),hF,oy ok,wy ok⟩
  ·rintro ⟨⟩ s' hF ⟨ok,hws⟩;refine AD hws ?_;refine Hs ?_;refine Nw ?_;refine UA ?_;refine Zb ?_;refine Aa7 ?_;exact rt
theorem K5 (p0:Ac) {G:Bool -> Prop} (h:Heap) (hF:OptP (B7 p0) G):CallsA prog 72 [.agg (Ad p0)] h fun d h'=>∃ r,G r /\ d=.bool r /\ h'=h:=by
 refine CallsA.ret ?_;refine AQ func72 rfl Ahv ntmps72 rfl (fun ok=>?_);rw [B7] at hF;refine Bw ?_;refine Cc (v:=.agg (Ad p0)) (cs:=Ad p0) rfl rfl rfl rfl ?_;refine PX ?_;refine S_a (v:=.fn (.func 110) [] []) rfl ?_;refine ZO ?_;refine A2 rfl Br Ax (by rw [Ab];rfl) ?_;refine AE rfl (AK B3 Ax (congrArg (List.drop 0) (Ab p0))) ?_;refine Yv ?_;refine AU rfl hF (fun hb1 hF=>?_) fun hb1 hF=>?_
 ·refine Bw ?_;refine A2 rfl D4 AA (by rw [Ab];rfl) ?_;refine AE rfl (AX (vs:=Ar p0.Name) Bv AA (by rw [Ab];rfl) (by rw [Ab];rfl)) ?_;refine cl (BX (fun _ h hF=>Ha _ h hF) _ hF fun x2 _ hF=>?_);refine C3 ?_;refine Bf 5 16 hF (fun J4 hb3 hF=>?_) (fun J4 hb3 hF=>?_) (fun v5 hF=>?_)
  ·refine SA ?_;exact tw
  ·refine DY ?_;refine A2 rfl Bz AW (by rw [Ab];rfl) ?_;refine Bi ?_;refine AE rfl (AK CR AW (congrArg (List.drop 3) (Ab p0))) ?_;refine Bi ?_;refine S_m (v:=.fn (.func 110) [] []) rfl ?_;refine Bi ?_;refine cl (BV (f1:=110) (fi1:=[]) (ca1:=[]) (fun z0 G h hF=>JX z0 h hF) _ hF fun x6 _ hF=>?_);refine Kh ?_;exact tw
  ·refine Fu ?_;exact rt
 ·refine Qw ?_;refine AU rfl hF (fun hb7 hF=>?_) fun hb7 hF=>?_
  ·refine Bw ?_;refine A2 rfl D4 AA (by rw [Ab];rfl) ?_;refine A2 rfl Hz Ay (by rw [Ab];rfl) ?_;refine AE rfl (AK By Ay (congrArg (List.drop 1) (congrArg (List.drop 1) (Ab p0)))) ?_;refine cl (BX (fun _ h hF=>KC _ h hF) _ hF fun x8 _ hF=>?_);refine V0 ?_;refine Bf 5 29 hF (fun J10 hb9 hF=>?_) (fun J10 hb9 hF=>?_) (fun v11 hF=>?_)
   ·refine SA ?_;exact tw
   ·refine DY ?_;refine A2 rfl D4 AA (by rw [Ab];rfl) ?_;refine Bi ?_;refine A2 rfl Hz Ay (by rw [Ab];rfl) ?_;refine Bi ?_;refine AE rfl (AK By Ay (congrArg (List.drop 1) (congrArg (List.drop 1) (Ab p0)))) ?_;refine Bi ?_;refine cl (BX (fun _ h hF=>IM _ _ h hF) _ hF fun x12 _ hF=>?_);refine Kh ?_;exact tw
   ·refine Fu ?_;exact rt
  ·refine VS ?_;exact rt
theorem KU (p0:Ak) {G:Bool -> Prop} (h:Heap) (hF:OptP (Ea p0) G):CallsA prog 115 [.agg (Ao p0)] h fun d h'=>∃ r,G r /\ d=.bool r /\ h'=h:=by
 refine CallsA.ret ?_;refine AQ func115 rfl Aek ntmps115 rfl (fun ok=>?_);rw [Ea] at hF;refine Bw ?_;refine Cc rfl rfl rfl rfl ?_;refine PX ?_;refine A2 rfl HH Ay rfl ?_;refine RB ?_;refine cl (BX (fun _ h hF=>Ja _ h hF) _ hF fun x1 _ hF=>?_);refine Fu ?_;exact rt
theorem MD (p0:Ac) {G:Bool -> Prop} (h:Heap) (hF:OptP (CH p0) G):CallsA prog 73 [.agg (Ad p0)] h fun d h'=>∃ r,G r /\ d=.bool r /\ h'=h:=by
 refine CallsA.ret ?_;refine AQ func73 rfl Agy ntmps73 rfl (fun ok=>?_);rw [CH] at hF;refine Bw ?_;refine Cc (v:=.agg (Ad p0)) (cs:=Ad p0) rfl rfl rfl rfl ?_;refine PX ?_;refine A2 rfl Ct Ay (by rw [Ab];rfl) ?_;refine AE rfl (AK By Ay (congrArg (List.drop 5) (Ab p0))) ?_;refine cl (BX (fun _ h hF=>Ja _ h hF) _ hF fun x1 _ hF=>?_);refine C3 ?_;refine Bf 4 10 hF (fun J3 hb2 hF=>?_) (fun J3 hb2 hF=>?_) (fun v4 hF=>?_)
 ·refine Nz ?_;exact tw
 ·refine DY ?_;refine A2 rfl Bz AW (by rw [Ab];rfl) ?_;refine Bi ?_;refine AE rfl (AK CR AW (congrArg (List.drop 3) (Ab p0))) ?_;refine Bi ?_;refine cl (BV (f1:=115) (fi1:=[]) (ca1:=[]) (fun z0 G h hF=>KU z0 h hF) _ hF fun x5 _ hF=>?_);refine Kh ?_;exact tw
 ·refine Fu ?_;exact rt
theorem Gu (p0:List By8) {G:Bool -> Prop} (h:Heap) (hF:OptP (DU p0) G):CallsA prog 139 [.str p0] h fun d h'=>∃ r,G r /\ d=.bool r /\ h'=h:=by
 refine CallsA.ret ?_;refine AQ func139 rfl Acw ntmps139 rfl (fun ok=>?_);rw [DU] at hF;refine Abb ?_;refine S5 ?_;refine YQ ?_;refine Fu ?_;exact rt
theorem FP (p0:List By8) (p1:List By8) {G:Int -> Prop} (h:Heap) (hF:OptP (CM p0 p1) G):CallsA prog 97 [.str p0,.str p1] h fun d h'=>∃ r,G r /\ d=.int .i64 r /\ h'=h:=by
 refine CallsA.ret ?_;refine AQ func97 rfl Agd ntmps97 rfl (fun ok=>?_);rw [CM] at hF;refine Tt ?_;refine Nw ?_;refine cl (BX (fun _ h hF=>Gu _ h hF) _ hF fun x1 _ hF=>?_);refine Fg ?_;refine Nw ?_;refine cl (BX (fun _ h hF=>Gu _ h hF) _ hF fun x2 _ hF=>?_);refine Y6 ?_;refine Va ?_;refine AU rfl hF (fun hb3 hF=>?_) fun hb3 hF=>?_
 ·refine VQ ?_;refine Va ?_;refine AU rfl hF (fun hb4 hF=>?_) fun hb4 hF=>?_
  ·refine Lr ?_;exact rt
  ·refine YT ?_;exact rt
 ·refine Pb ?_;refine Bw ?_;refine Va ?_;refine AU rfl hF (fun hb5 hF=>?_) fun hb5 hF=>?_
  ·refine Lr ?_;exact rt
  ·refine Pb ?_;refine Nw ?_;refine S5 ?_;refine DN rfl rfl Vb ?_;refine A9 ?_;refine AU rfl hF (fun hb6 hF=>?_) fun hb6 hF=>?_
   ·refine Lr ?_;exact rt
   ·refine Pb ?_;refine Nw ?_;refine S5 ?_;refine DN rfl rfl Acy ?_;refine A9 ?_;refine AU rfl hF (fun hb7 hF=>?_) fun hb7 hF=>?_
    ·refine Lr ?_;exact rt
    ·refine YT ?_;exact rt
theorem Nt (p0:List Int) {G:Int -> Prop} (h:Heap) (hF:OptP (Gg p0) G):CallsA prog 96 [.sl 1 (List.map B1 p0) 0] h fun d h'=>∃ r,G r /\ d=.int .i64 r /\ h'=h:=by
 refine CallsA.ret ?_;refine AQ func96 rfl Aic ntmps96 rfl (fun ok=>?_);rw [Gg] at hF;refine Tt ?_;refine Tt ?_;refine AG hF (fun (_:Unit) s'=>Zs h [] 18 [(3,.int .i64 0)] s') (fun J5 hF=>?_) ?_
 ·refine Ad5 ?_;refine Ow ?_;refine BA (σ:=Int) hF (fun (a6:Int) s'=>Zs h [] 18 [(3,.int .i64 0),(6,.sl 1 (List.map B1 p0) 0),(7,.int .i64 (p0.length:Int)),(8,.int .i64 a6)] s') ?_ ?_
  ·exact ⟨oy ok,wy ok⟩
  ·rintro G7 hG8 rec9 a6 s' ih10 hF ⟨ok,hws⟩;refine AD hws ?_;rw [B5] at hF;refine Im ?_;refine AU rfl hF (fun hb11 hF=>?_) fun hb11 hF=>?_
   ·refine Xv ?_;refine Bw ?_;refine Fr rfl rfl Fo Ax hF (fun x12 _ hF=>?_);refine X9 ?_;refine IS ?_;refine Ok ?_;refine Tg ?_;refine AU rfl hF (fun hb13 hF=>?_) fun hb13 hF=>?_
    ·refine We ?_;replace hF:=hG8 _ (Ap hF);exact rt
    ·refine Qv ?_;refine ih10 (IntKind.wrap .i64 (a6 + 1)) _ hF ?_;exact ⟨oy ok,wy ok⟩
   ·refine Fh ?_;replace hF:=hG8 _ (Ap hF);exact ⟨(),hF,oy ok,wy ok⟩
 ·rintro ⟨⟩ s' hF ⟨ok,hws⟩;refine AD hws ?_;refine We ?_;exact rt
theorem JP (p0:Aa) (p1:Aa) {G:Int -> Prop} (h:Heap) (hF:OptP (Fx p0 p1) G):CallsA prog 58 [.agg (Ar p0),.agg (Ar p1)] h fun d h'=>∃ r,G r /\ d=.int .i64 r /\ h'=h:=by
 refine CallsA.ret ?_;refine AQ func58 rfl Agk ntmps58 rfl (fun ok=>?_);rw [Fx] at hF;refine Bw ?_;refine Cc rfl rfl rfl rfl ?_;refine Cc rfl rfl rfl rfl ?_;refine IS ?_;refine Hs ?_;refine RJ (mdl [(6,3),(8,3),(11,3),(13,3)]) [0,1,2,3,5,6,7,8,4,9,10,11,12] [_,_,_,_,_,_,_,_,_,_,_,_,_] (by kernel_rfl) rfl rfl (by kernel_rfl) ?_;refine Ae5 ?_;refine RB ?_;refine Ae5 ?_;refine RB ?_;refine Aal ?_;refine RB ?_;refine Aal ?_;refine RB ?_;refine cl (BX (fun _ h hF=>FP _ _ h hF) _ hF fun x1 _ hF=>?_);refine cl (BX (fun _ h hF=>FP _ _ h hF) _ hF fun x2 _ hF=>?_);refine Dh (cs:=[.int .i64 x1,.int .i64 x2]) (es:=(List.map B1 [x1,x2])) rfl Fa rfl (by kernel_rfl) (by kernel_rfl) ?_;refine cl (BX (fun _ h hF=>Nt _ h hF) _ hF fun x3 _ hF=>?_);refine W8 ?_;exact rt
theorem Kr (p0:Ac) {G:Bool -> Prop} (h:Heap) (hF:OptP (BF p0) G):CallsA prog 74 [.agg (Ad p0)] h fun d h'=>∃ r,G r /\ d=.bool r /\ h'=h:=by
 refine CallsA.ret ?_;refine AQ func74 rfl Agm ntmps74 rfl (fun ok=>?_);rw [BF] at hF;refine Bw ?_;refine Cc (v:=.agg (Ad p0)) (cs:=Ad p0) rfl rfl rfl rfl ?_;refine Fg ?_;refine AG hF (fun (_:Unit) s'=>Zs h [] 30 [] s') (fun J15 hF=>?_) ?_
 ·refine Bw ?_;refine A2 rfl Bz AW (by rw [Ab];rfl) ?_;refine AE rfl (AK CR AW (congrArg (List.drop 3) (Ab p0))) ?_;refine Aam ?_;refine BA (σ:=Int) hF (fun (a16:Int) s'=>Zs h [] 30 [(1,.iptr (Ad p0)),(6,.int .i64 (p0.Attrs.length:Int)),(7,.int .i64 a16)] s') ?_ ?_
  ·exact ⟨oy ok,wy ok⟩
  ·rintro G17 hG18 rec19 a16 s' ih20 hF ⟨ok,hws⟩;refine AD hws ?_;rw [B6] at hF;refine Im ?_;refine AU rfl hF (fun hb21 hF=>?_) fun hb21 hF=>?_
   ·refine WR ?_;refine AG hF (fun (a27:Bool) s'=>Zs h [] 30 [(1,.iptr (Ad p0)),(6,.int .i64 (p0.Attrs.length:Int)),(7,.int .i64 a16),(28,.bool a27)] s') (fun J28 hF=>?_) ?_
    ·refine Ho (mdl [(14,3),(19,3),(21,3),(25,3)]) (by kernel_rfl) (by kernel_rfl) ?_;refine Fy ?_;refine W6 ?_;refine C3 ?_;refine QB (b:=(decide (0 < a16))) hF (fun hb29 hF=>?_) (fun hb30 hF=>?_)
     ·refine DY ?_;refine A2 rfl Bz AW (by rw [Ab];rfl) ?_;refine Bi ?_;refine AE rfl (AK CR AW (congrArg (List.drop 3) (Ab p0))) ?_;refine Zf ?_;refine Fr rfl rfl Fp CQ hF (fun x31 _ hF=>?_);refine Bi ?_;refine XZ ?_;refine Bi ?_;refine AE rfl (AX (vs:=Ar x31.Name) Bv AA rfl rfl) ?_;refine Bi ?_;refine A2 rfl Bz AW (by rw [Ab];rfl) ?_;refine Bi ?_;refine AE rfl (AK CR AW (congrArg (List.drop 3) (Ab p0))) ?_;refine RM ?_;refine Fr rfl rfl Fp CQ hF (fun x32 _ hF=>?_);refine Bi ?_;refine XZ ?_;refine Bi ?_;refine AE rfl (AX (vs:=Ar x32.Name) Bv AA rfl rfl) ?_;refine Bi ?_;refine cl (BX (fun _ h hF=>JP _ _ h hF) _ hF fun x33 _ hF=>?_);refine Bi ?_;refine Tf ?_;refine Gp ?_;exact ⟨(decide (0 <= x33)),hF,oy ok,wy ok⟩
     ·refine Qz ?_;refine Ii ?_;refine Pc ?_;exact ⟨false,hF,oy ok,wy ok⟩
    ·rintro a27 s' hF ⟨ok,hws⟩;refine AD hws ?_;refine AU rfl hF (fun hb34 hF=>?_) fun hb34 hF=>?_
     ·refine Hg ?_;replace hF:=hG18 _ (Ap hF);exact rt
     ·refine Qv ?_;refine ih20 (IntKind.wrap .i64 (a16 + 1)) _ hF ?_;exact ⟨oy ok,wy ok⟩
   ·refine Fh ?_;replace hF:=hG18 _ (Ap hF);exact ⟨(),hF,oy ok,wy ok⟩
 ·rintro ⟨⟩ s' hF ⟨ok,hws⟩;refine AD hws ?_;refine Hg ?_;exact rt
theorem Hn (p0:List By8) (p1:List By8) {G:Bool -> Prop} (h:Heap) (hF:OptP (CJ p0 p1) G):CallsA prog 150 [.str p0,.str p1] h fun d h'=>∃ r,G r /\ d=.bool r /\ h'=h:=by
 refine CallsA.ret ?_;refine AQ func150 rfl Aee ntmps150 rfl (fun ok=>?_);rw [CJ] at hF;refine Abb ?_;refine UA ?_;refine Zb ?_;refine Aa8 ?_;refine Bf 10 20 hF (fun J2 hb1 hF=>?_) (fun J2 hb1 hF=>?_) (fun v3 hF=>?_)
 ·refine Ns ?_;refine Z1 ?_;refine Xg ?_;refine Z1 ?_;refine Xg ?_;refine Aft ?_;refine Km rfl AS (F4 rfl) Qg hF (fun x4 _ hF=>?_);refine Bi ?_;refine Z1 ?_;refine Lu ?_;refine Gp ?_;exact tw
 ·refine Qz ?_;refine Sq ?_;exact tw
 ·refine Fu ?_;exact rt
theorem IG (p0:List By8) (p1:List By8) {G:Bool -> Prop} (h:Heap) (hF:OptP (Co p0 p1) G):CallsA prog 117 [.str p0,.str p1] h fun d h'=>∃ r,G r /\ d=.bool r /\ h'=h:=by
 refine CallsA.ret ?_;refine AQ func117 rfl Ac7 ntmps117 rfl (fun ok=>?_);rw [Co] at hF;refine Abb ?_;refine S5 ?_;refine cl (BX (fun _ h hF=>Hn _ _ h hF) _ hF fun x1 _ hF=>?_);refine Fu ?_;exact rt
theorem Kq (p0:Ac) {G:Bool -> Prop} (h:Heap) (hF:OptP (BW p0) G):CallsA prog 75 [.agg (Ad p0)] h fun d h'=>∃ r,G r /\ d=.bool r /\ h'=h:=by
 refine CallsA.ret ?_;refine AQ func75 rfl Agc ntmps75 rfl (fun ok=>?_);rw [BW] at hF;refine Bw ?_;refine Cc (v:=.agg (Ad p0)) (cs:=Ad p0) rfl rfl rfl rfl ?_;refine Fg ?_;refine AG hF (fun (_:Unit) s'=>Zs h [] 71 [(1,.iptr (Ad p0))] s') (fun J11 hF=>?_) ?_
 ·refine Bw ?_;refine A2 rfl B0 Bj (by rw [Ab];rfl) ?_;refine AE rfl (AK Dv Bj (congrArg (List.drop 4) (Ab p0))) ?_;refine Tc ?_;refine BA (σ:=Int) hF (fun (a12:Int) s'=>Zs h [] 71 [(1,.iptr (Ad p0)),(6,.sl 6 (List.map Ad p0.Kids) 0),(7,.int .i64 (p0.Kids.length:Int)),(8,.int .i64 a12)] s') ?_ ?_
  ·exact ⟨oy ok,wy ok⟩
  ·rintro G13 hG14 rec15 a12 s' ih16 hF ⟨ok,hws⟩;refine AD hws ?_;rw [B8] at hF;refine Im ?_;refine AU rfl hF (fun hb17 hF=>?_) fun hb17 hF=>?_
   ·refine R5 ?_;refine Cy (mdl [(4,1)]) ?_;refine Fy ?_;refine Fr rfl rfl Dt Aw hF (fun x18 _ hF=>?_);refine AE rfl (AX (vs:=Ad x18) A6 Aw (by rw [Ab];rfl) (by rw [Ab];rfl)) ?_;refine Ca ok rfl DI ?_;intro i19 hi19 ok;refine JZ ?_;refine F3 (j:=0) (cs':=[.int .i64 x18.Kind,.str x18.Name.URI,.str x18.Name.Local,.sl 3 (List.map Ao x18.Attrs) 0,.sl 6 (List.map Ad x18.Kids) 0,.str x18.Text]) ok rfl (congrArg D.agg (Ab x18)) rfl hi19 rfl Aw rfl rfl (fun ok=>?_);refine A9 ?_;refine Gz ?_;refine W6 ?_;refine C3 ?_;refine A3 (b:=(decide (0 < a12))) 4 19 (.bool ((decide (0 < a12)) && (x18.Kind == 3))) (fun hb20=>?_) (fun hb20=>?_) ?_
    ·refine DY ?_;refine YO ?_;refine VX ?_;refine TK ?_;exact th
    ·refine Pc ?_;exact th
    refine C3 ?_;refine Bf 9 29 hF (fun J22 hb21 hF=>?_) (fun J22 hb21 hF=>?_) (fun v23 hF=>?_)
    ·refine DY ?_;refine A2 rfl B0 Bj (by rw [Ab];rfl) ?_;refine Bi ?_;refine AE rfl (AK Dv Bj (congrArg (List.drop 4) (Ab p0))) ?_;refine Zf ?_;refine Fr rfl rfl Dt Aw hF (fun x24 _ hF=>?_);refine Bi ?_;refine A2 rfl Br Ax (by rw [Ab];rfl) ?_;refine Bi ?_;refine AE rfl (AK B3 Ax (congrArg (List.drop 0) (Ab x24))) ?_;refine TK ?_;exact tw
    ·refine Qz ?_;refine M7 ?_;exact tw
    ·refine A9 ?_;refine AU rfl hF (fun hb25 hF=>?_) fun hb25 hF=>?_
     ·refine Hg ?_;replace hF:=hG14 _ (Ap hF);exact rt
     ·refine Qv ?_;refine ih16 (IntKind.wrap .i64 (a12 + 1)) _ hF ?_;exact ⟨oy ok,wy ok⟩
   ·refine Fh ?_;replace hF:=hG14 _ (Ap hF);exact ⟨(),hF,oy ok,wy ok⟩
 ·rintro ⟨⟩ s' hF ⟨ok,hws⟩;refine AD hws ?_;refine VQ ?_;refine A2 rfl Br Ax (by rw [Ab];rfl) ?_;refine AE rfl (AK B3 Ax (congrArg (List.drop 0) (Ab p0))) ?_;refine Yv ?_;refine AU rfl hF (fun hb26 hF=>?_) fun hb26 hF=>?_
  ·refine Bw ?_;refine A2 rfl Ct Ay (by rw [Ab];rfl) ?_;refine AE rfl (AK By Ay (congrArg (List.drop 5) (Ab p0))) ?_;refine Lu ?_;refine Fu ?_;exact rt
  ·refine Qw ?_;refine AU rfl hF (fun hb27 hF=>?_) fun hb27 hF=>?_
   ·refine Bw ?_;refine A2 rfl Ct Ay (by rw [Ab];rfl) ?_;refine AE rfl (AK By Ay (congrArg (List.drop 5) (Ab p0))) ?_;refine cl (L_Contains_ok _ hF fun x28 _ hF=>?_);refine C3 ?_;refine Bf 4 47 hF (fun J30 hb29 hF=>?_) (fun J30 hb29 hF=>?_) (fun v31 hF=>?_)
    ·refine Nz ?_;exact tw
    ·refine DY ?_;refine A2 rfl Ct Ay (by rw [Ab];rfl) ?_;refine Bi ?_;refine AE rfl (AK By Ay (congrArg (List.drop 5) (Ab p0))) ?_;refine Bi ?_;refine cl (BX (fun _ h hF=>IG _ _ h hF) _ hF fun x32 _ hF=>?_);refine Kh ?_;exact tw
    ·refine C3 ?_;refine Bf 4 52 hF (fun J34 hb33 hF=>?_) (fun J34 hb33 hF=>?_) (fun v35 hF=>?_)
     ·refine Nz ?_;exact tw
     ·refine DY ?_;refine A2 rfl Ct Ay (by rw [Ab];rfl) ?_;refine Bi ?_;refine AE rfl (AK By Ay (congrArg (List.drop 5) (Ab p0))) ?_;refine Bi ?_;refine cl (L_Contains_ok _ hF fun x36 _ hF=>?_);refine Kh ?_;exact tw
     ·refine Fu ?_;exact rt
   ·refine Qw ?_;refine AU rfl hF (fun hb37 hF=>?_) fun hb37 hF=>?_
    ·refine AG hF (fun (a45:Bool) s'=>Zs h [] 71 [(2,.bool a45)] s') (fun J46 hF=>?_) ?_
     ·refine Ho (mdl [(56,3),(60,3),(65,3),(67,3)]) (by kernel_rfl) (by kernel_rfl) ?_;refine A2 rfl Ct Ay (by rw [Ab];rfl) ?_;refine AE rfl (AK By Ay (congrArg (List.drop 5) (Ab p0))) ?_;refine cl (L_Contains_ok _ hF fun x47 _ hF=>?_);refine C3 ?_;refine QB (b:=x47) hF (fun hb48 hF=>?_) (fun hb49 hF=>?_)
      ·refine Sw ?_;refine VP ?_;refine Ai9 ?_;refine VW ?_;refine KS (v:=.bool _) rfl rfl rfl ?_;refine Fg ?_;exact ⟨true,hF,oy ok,wy ok⟩
      ·refine DY ?_;refine A2 rfl Ct Ay (by rw [Ab];rfl) ?_;refine Bi ?_;refine AE rfl (AK By Ay (congrArg (List.drop 5) (Ab p0))) ?_;refine Bi ?_;refine cl (L_Contains_ok _ hF fun x50 _ hF=>?_);refine A9 ?_;refine VV ?_;refine C3 ?_;refine QB (b:=x50) hF (fun hb51 hF=>?_) (fun hb52 hF=>?_)
       ·refine Ii ?_;refine M9 ?_;refine VP ?_;refine Fg ?_;exact ⟨true,hF,oy ok,wy ok⟩
       ·refine DY ?_;refine A2 rfl Ct Ay (by rw [Ab];rfl) ?_;refine Bi ?_;refine AE rfl (AK By Ay (congrArg (List.drop 5) (Ab p0))) ?_;refine Bi ?_;refine A2 rfl Ct Ay (by rw [Ab];rfl) ?_;refine Bi ?_;refine AE rfl (AK By Ay (congrArg (List.drop 5) (Ab p0))) ?_;refine Bi ?_;refine cl (L_TrimLeft_ok _ hF fun x53 _ hF=>?_);refine Bi ?_;refine YQ ?_;refine A9 ?_;refine VV ?_;refine Fg ?_;exact ⟨(!(p0.Text == x53)),hF,oy ok,wy ok⟩
     ·rintro a45 s' hF ⟨ok,hws⟩;refine AD hws ?_;refine Aby ?_;exact rt
    ·refine VS ?_;exact rt
theorem Nx (p0 : Ac) {G : Int -> Prop} (h : Heap) (hF : OptP (Cv p0) G) : CallsA prog 33 [.agg (Ad p0)] h fun d h' => ∃ r, G r /\ d = .int .i64 r /\ h' = h := by
 refine CallsA.ret ?_;refine AQ func33 rfl Ag7 ntmps33 rfl (fun ok=>?_);rw [Cv] at hF;refine Bw ?_;refine Cc (v:=.agg (Ad p0)) (cs:=Ad p0) rfl rfl rfl rfl ?_;refine IS ?_;refine Bw ?_;refine AE rfl (AX (vs:=Ad p0) A6 Aw (by rw [Ab];rfl) (by rw [Ab];rfl)) ?_;refine cl (CallsA.ghost (ds:=[.agg (Ad p0),.snil]) 1 6 Ace ok rfl fun r3 hr3 ok=>Nk (p0:=p0) (p1:=[]) (rp1:=r3) h [] hr3 ok hF fun x1 r2 _ hr2 ok hF=>?_);refine Yo ?_;refine Em 3 (v:=.sl 6 (List.map Ad x1) 0) (.zero _ _ _) ?_;refine Jk ?_;refine MQ ?_;refine Bw ?_;refine A2 rfl Br Ax (by rw [Ab];rfl) ?_;refine AE rfl (AK B3 Ax (congrArg (List.drop 0) (Ab p0))) ?_;refine Za ?_;refine Bf 3 16 hF (fun J5 hb4 hF=>?_) (fun J5 hb4 hF=>?_) (fun v6 hF=>?_)
 ·refine LC ?_;exact tw
 ·refine Yh ?_;refine cl (AB (f1:=69) (fi1:=[]) (ca1:=[]) (fun z0 G h hF=>PR z0 h hF) _ hF fun x7 _ hF=>?_);refine Kh ?_;exact tw
 ·refine Fg ?_;refine AU rfl hF (fun hb8 hF => ?_) fun hb8 hF => ?_
  ·refine Lr ?_;exact rt
  ·refine Bw ?_;refine AE rfl (AX (vs := Ad p0) A6 Aw (by rw [Ab]; rfl) (by rw [Ab]; rfl)) ?_;refine cl (BX (fun _ h hF => OB _ _ h hF) _ hF fun x9 _ hF => ?_);refine Fg ?_;refine AU rfl hF (fun hb10 hF => ?_) fun hb10 hF => ?_
   ·refine Lr ?_;exact rt
   ·refine Ki ?_;refine Aau ?_;refine Na ?_;refine W6 ?_;refine C3 ?_;refine Bf 3 28 hF (fun J12 hb11 hF => ?_) (fun J12 hb11 hF => ?_) (fun v13 hF => ?_)
    ·refine LC ?_;exact tw
    ·refine Yh ?_;refine cl (AB (f1:=71) (fi1:=[]) (ca1:=[]) (fun z0 G h hF=>Ny z0 h hF) _ hF fun x14 _ hF=>?_);refine Kh ?_;exact tw
    ·refine Fg ?_;refine AU rfl hF (fun hb15 hF => ?_) fun hb15 hF => ?_
     ·refine Lr ?_;exact rt
     ·refine Ki ?_;refine cl (AB (f1 := 72) (fi1 := []) (ca1 := []) (fun z0 G h hF => K5 z0 h hF) _ hF fun x16 _ hF => ?_);refine Fg ?_;refine AU rfl hF (fun hb17 hF => ?_) fun hb17 hF => ?_
      ·refine Lr ?_;exact rt
      ·refine Ki ?_;refine cl (AB (f1 := 73) (fi1 := []) (ca1 := []) (fun z0 G h hF => MD z0 h hF) _ hF fun x18 _ hF => ?_);refine Fg ?_;refine AU rfl hF (fun hb19 hF => ?_) fun hb19 hF => ?_
       ·refine Lr ?_;exact rt
       ·refine Ki ?_;refine cl (AB (f1:=74) (fi1:=[]) (ca1:=[]) (fun z0 G h hF=>Kr z0 h hF) _ hF fun x20 _ hF=>?_);refine Fg ?_;refine AU rfl hF (fun hb21 hF=>?_) fun hb21 hF=>?_
        ·refine Lr ?_;exact rt
        ·refine Ki ?_;refine cl (AB (f1:=75) (fi1:=[]) (ca1:=[]) (fun z0 G h hF=>Kq z0 h hF) _ hF fun x22 _ hF=>?_);refine Fg ?_;refine AU rfl hF (fun hb23 hF=>?_) fun hb23 hF=>?_
         ·refine Lr ?_;exact rt
         ·refine Dq ?_;refine Tt ?_;refine AG hF (fun (a34:Int) s'=>Zs h [] 56 [(4,.int .i64 a34)] s') (fun J35 hF=>?_) ?_
          ·refine Bw ?_;refine A2 rfl B0 Bj (by rw [Ab];rfl) ?_;refine AE rfl (AK Dv Bj (congrArg (List.drop 4) (Ab p0))) ?_;refine Tc ?_;refine BA (σ:=Int × Int) hF (fun (v:Int × Int) s'=>match v with | (a36,a37)=>Zs h [] 56 [(4,.int .i64 a36),(42,.sl 6 (List.map Ad p0.Kids) 0),(43,.int .i64 (p0.Kids.length:Int)),(44,.int .i64 a37)] s') ?_ ?_
           ·exact ⟨oy ok,wy ok⟩
           ·rintro G38 hG39 rec40 ⟨a36,a37⟩ s' ih41 hF ⟨ok,hws⟩;refine AD hws ?_;rw [BH] at hF;refine Im ?_;refine AU rfl hF (fun hb42 hF=>?_) fun hb42 hF=>?_
            ·refine Dq ?_;refine AG hF (fun (a46:Int) s'=>Zs h [] 56 [(4,.int .i64 a46),(42,.sl 6 (List.map Ad p0.Kids) 0),(43,.int .i64 (p0.Kids.length:Int)),(44,.int .i64 a37)] s') (fun J47 hF=>?_) ?_
             ·refine Qy ?_;refine Cy (mdl [(6,1)]) ?_;refine Fr rfl rfl Dt Aw hF (fun x48 _ hF=>?_);refine AE rfl (AX (vs:=Ad x48) A6 Aw (by rw [Ab];rfl) (by rw [Ab];rfl)) ?_;refine Ca ok rfl DI ?_;intro i49 hi49 ok;refine F3 (j:=0) (cs':=[.int .i64 x48.Kind,.str x48.Name.URI,.str x48.Name.Local,.sl 3 (List.map Ao x48.Attrs) 0,.sl 6 (List.map Ad x48.Kids) 0,.str x48.Text]) ok rfl (congrArg D.agg (Ab x48)) rfl hi49 rfl Aw rfl rfl (fun ok=>?_);refine F0 ?_;refine YO ?_;refine SV ?_;refine Q8 ?_;refine AU rfl hF (fun hb50 hF=>?_) fun hb50 hF=>?_
              ·refine Rn ?_;exact ⟨(IntKind.wrap .i64 (a36 + 1)),hF,oy ok,wy ok⟩
              ·refine Dq ?_;exact ⟨a36,hF,oy ok,wy ok⟩
             ·rintro a46 s' hF ⟨ok,hws⟩;refine AD hws ?_;refine Nb ?_;refine ih41 (a46,(IntKind.wrap .i64 (a37 + 1))) _ hF ?_;exact ⟨oy ok,wy ok⟩
            ·refine Fh ?_;replace hF:=hG39 _ (Ap hF);exact ⟨a36,hF,oy ok,wy ok⟩
          ·rintro a34 s' hF ⟨ok,hws⟩;refine AD hws ?_;refine Lq ?_;refine Tg ?_;refine AU rfl hF (fun hb51 hF=>?_) fun hb51 hF=>?_
           ·refine Lr ?_;exact rt
           ·refine YT ?_;exact rt
theorem Nv (p0 : List Ag) (p1 : Ah) {G : (List Al) -> Prop} (h : Heap) (hF : OptP (Gm p0 p1) G) : CallsA prog 34 [.sl 7 (List.map Ai p0) 0, .agg (Aq p1)] h fun d h' => ∃ r, G r /\ d = .sl 4 (List.map Au r) 0 /\ h' = h := by
 refine CallsA.ret ?_;refine AQ func34 rfl Ags ntmps34 rfl (fun ok=>?_);rw [Gm] at hF;refine Bw ?_;refine Cc rfl rfl rfl rfl ?_;refine S_a (v:=.snil) rfl ?_;refine Em 4 (v:=.sl 4 (List.map Au []) 0) (.nil _) ?_;refine F0 ?_;refine S_a (v:=.snil) rfl ?_;refine Kc 5 4 ok rfl rfl ?_;intro r1 hr1 ok;refine A9 ?_;refine AG hF (fun (a60:(List Al)) s'=>∃ g61:Nat,g61 ≠ 0 /\ Zs h [(g61,.room)] 46 [(5,.sl 4 (List.map Au a60) g61)] s') (fun J62 hF=>?_) ?_
 ·refine Afj ?_;refine Ow ?_;refine BA (σ:=(List Al) × Int) hF (fun (v:(List Al) × Int) s'=>match v with | (a63,a65)=>∃ g64:Nat,g64 ≠ 0 /\ Zs h [(g64,.room)] 46 [(3,.iptr (Aq p1)),(5,.sl 4 (List.map Au a63) g64),(10,.sl 7 (List.map Ai p0) 0),(11,.int .i64 (p0.length:Int)),(12,.int .i64 a65)] s') ?_ ?_
  ·exact ⟨r1,hr1,oy ok,wy ok⟩
  ·rintro G66 hG67 rec68 ⟨a63,a65⟩ s' ih69 hF ⟨g64,hg64,ok,hws⟩;refine AD hws ?_;rw [ER] at hF;refine Im ?_;refine AU rfl hF (fun hb70 hF=>?_) fun hb70 hF=>?_
   ·refine Dq ?_;refine AG hF (fun (a97:(List Al)) s'=>∃ g98:Nat,g98 ≠ 0 /\ Zs h [(g98,.room)] 46 [(3,.iptr (Aq p1)),(5,.sl 4 (List.map Au a97) g98),(10,.sl 7 (List.map Ai p0) 0),(11,.int .i64 (p0.length:Int)),(12,.int .i64 a65)] s') (fun J99 hF=>?_) ?_
    ·refine Qy ?_;refine Cy (mdl [(7,1)]) ?_;refine Fr rfl rfl Ds BM hF (fun x100 _ hF=>?_);refine AE rfl (AX (vs:=Ai x100) E9 BM rfl rfl) ?_;refine Ca ok rfl GA ?_;intro i101 hi101 ok;refine F3 (j:=0) (cs':=[.sl 1 (List.map B1 x100.path) 0,.int .i64 x100.node.Kind,.str x100.node.Name.URI,.str x100.node.Name.Local,.sl 3 (List.map Ao x100.node.Attrs) 0,.sl 6 (List.map Ad x100.node.Kids) 0,.str x100.node.Text]) ok rfl rfl rfl hi101 rfl BM rfl rfl (fun ok=>?_);refine F0 ?_;refine Ln 0 7 ok rfl rfl hi101 (fun ok=>?_);refine Af2 ?_;refine A2 rfl Bz AW rfl ?_;refine AE rfl (AK CR AW rfl) ?_;refine Aam ?_;refine BA (σ:=(List Al) × Int) hF (fun (v:(List Al) × Int) s'=>match v with | (a104,a106)=>∃ g105:Nat,g105 ≠ 0 /\ Zs h [(g105,.room)] 46 [(3,.iptr (Aq p1)),(5,.sl 4 (List.map Au a104) g105),(7,.iptr (Ai x100)),(10,.sl 7 (List.map Ai p0) 0),(11,.int .i64 (p0.length:Int)),(12,.int .i64 a65),(18,.sl 3 (List.map Ao x100.node.Attrs) 0),(19,.int .i64 (x100.node.Attrs.length:Int)),(20,.int .i64 a106)] s') ?_ ?_
     ·exact ⟨g64,hg64,oy ok,wy ok⟩
     ·rintro G107 hG108 rec109 ⟨a104,a106⟩ s' ih110 hF ⟨g105,hg105,ok,hws⟩;refine AD hws ?_;rw [Ec] at hF;refine Im ?_;refine AU rfl hF (fun hb111 hF=>?_) fun hb111 hF=>?_
      ·refine Dq ?_;refine AG hF (fun (a120:(List Al)) s'=>∃ g121:Nat,g121 ≠ 0 /\ Zs h [(g121,.room)] 46 [(3,.iptr (Aq p1)),(5,.sl 4 (List.map Au a120) g121),(7,.iptr (Ai x100)),(10,.sl 7 (List.map Ai p0) 0),(11,.int .i64 (p0.length:Int)),(12,.int .i64 a65),(18,.sl 3 (List.map Ao x100.node.Attrs) 0),(19,.int .i64 (x100.node.Attrs.length:Int)),(20,.int .i64 a106)] s') (fun J122 hF=>?_) ?_
       ·refine Qy ?_;refine Cy (mdl [(9,1)]) ?_;refine Fr rfl rfl Fp CQ hF (fun x123 _ hF=>?_);refine AE rfl (AX (vs:=Ao x123) Jn CQ rfl rfl) ?_;refine Ca ok rfl Id ?_;intro i124 hi124 ok;refine F3 (j:=0) (cs':=[.str x123.Name.URI,.str x123.Name.Local,.str x123.Value]) ok rfl rfl rfl hi124 rfl CQ rfl rfl (fun ok=>?_);refine F0 ?_;refine A2 rfl HF Ay rfl ?_;refine RB ?_;refine Lu ?_;refine C3 ?_;refine A3 (b:=(p1.test == [42])) 6 33 (.bool ((p1.test == [42]) || ((x123.Name.URI == p1.name.URI) && ((x123.Name.Local == p1.name.Local) && true)))) (fun hb125=>?_) (fun hb125=>?_) ?_
        ·refine Ii ?_;refine XA ?_;exact th
        ·refine DY ?_;refine YP ?_;refine Bi ?_;refine Cr (j:=0) ok rfl rfl rfl hi124 (AX (vs:=Ar x123.Name) Bv AA rfl rfl) ?_;refine Bi ?_;refine A2 rfl HB AA rfl ?_;refine Bi ?_;refine AE rfl (AX (vs:=Ar p1.name) Bv AA rfl rfl) ?_;refine Bi ?_;refine DN rfl rfl (SL (b:=((x123.Name.URI == p1.name.URI) && ((x123.Name.Local == p1.name.Local) && true))) DL DK (by simp only [Ar,El,E6,HZ,DK,DL,By,Ay,AS,By,Ay,AS,FN,FB,EX,FD,E7,EY,Es,List.drop_zero,List.drop_succ_cons,bi,bj,List.take_succ_cons,List.take_zero,Option.isSome_some,if_true,ba,Option.map_some,Nat.reduceAdd,Nat.reduceLeDiff])) ?_;refine Kh ?_;exact th
        refine A9 ?_;refine AU rfl hF (fun hb126 hF=>?_) fun hb126 hF=>?_
        ·refine Afr ?_;show AO prog (mdl []) true #[] [] _ _;refine Ln 0 9 ok rfl rfl hi124 (fun ok=>?_);refine A9 ?_;refine RJ (mdl [(42,2),(36,3),(39,3)]) [0,1,2,4,5,3,6,7,8,9] [_,_,_,_,_,_,_,_,_,_] (by kernel_rfl) rfl rfl (by kernel_rfl) ?_;refine Kl ?_;refine Yu ?_;refine Aa6 ?_;refine XZ ?_;refine AE rfl (AX (vs:=Ar x123.Name) Bv AA rfl rfl) ?_;refine cl (L_CloneInts_ok _ hF fun x129 _ hF=>?_);refine Dz (v:=.agg (Au (⟨x129,true,x123.Name⟩:Al))) (GY RQ RL rfl) ?_;refine Dh (cs:=[.sl 1 (List.map B1 (⟨x129,true,x123.Name⟩:Al).Steps) 0,.bool (⟨x129,true,x123.Name⟩:Al).Attr,.str (⟨x129,true,x123.Name⟩:Al).Name.URI,.str (⟨x129,true,x123.Name⟩:Al).Name.Local]) (es:=(List.map Au [(⟨x129,true,x123.Name⟩:Al)])) rfl L0 rfl (by kernel_rfl) (by kernel_rfl) ?_;refine Gq (j:=1) ok rfl rfl rfl rfl hg105 L0 SB hF ?_;intro r130 hr130 ok hF;refine Rz ?_;exact ⟨(a104 ++ [(⟨x129,true,x123.Name⟩:Al)]),hF,r130,hr130,oy ok,wy ok⟩
        ·refine Dq ?_;exact ⟨a104,hF,g105,hg105,oy ok,wy ok⟩
       ·rintro a120 s' hF ⟨g121,hg121,ok,hws⟩;refine AD hws ?_;refine Nb ?_;refine ih110 (a120,(IntKind.wrap .i64 (a106 + 1))) _ hF ?_;exact ⟨g121,hg121,oy ok,wy ok⟩
      ·refine Fh ?_;replace hF:=hG108 _ (Ap hF);exact ⟨a104,hF,g105,hg105,oy ok,wy ok⟩
    ·rintro a97 s' hF ⟨g98,hg98,ok,hws⟩;refine AD hws ?_;refine Nb ?_;refine ih69 (a97,(IntKind.wrap .i64 (a65 + 1))) _ hF ?_;exact ⟨g98,hg98,oy ok,wy ok⟩
   ·refine Fh ?_;replace hF:=hG67 _ (Ap hF);exact ⟨a63,hF,g64,hg64,oy ok,wy ok⟩
 ·rintro a60 s' hF ⟨g61,hg61,ok,hws⟩;refine AD hws ?_;refine Ki ?_;refine Em 45 (v:=.sl 4 (List.map Au a60) 0) (.zero _ _ _) ?_;refine Aa5 ?_;exact rt
theorem HK (p0:List Int) (p1:List Int) {G:Bool -> Prop} (h:Heap) (hF:OptP (CY p0 p1) G):CallsA prog 77 [.sl 1 (List.map B1 p0) 0,.sl 1 (List.map B1 p1) 0] h fun d h'=>∃ r,G r /\ d=.bool r /\ h'=h:=by
 refine CallsA.ret ?_;refine AQ func77 rfl Age ntmps77 rfl (fun ok=>?_);rw [CY] at hF;refine Aas ?_;refine Ad5 ?_;refine Kl ?_;refine V3 ?_;refine Tg ?_;refine AU rfl hF (fun hb1 hF=>?_) fun hb1 hF=>?_
 ·refine Hg ?_;exact rt
 ·refine Dq ?_;refine AG hF (fun (_:Unit) s'=>Zs h [] 26 [] s') (fun J7 hF=>?_) ?_
  ·refine Ad5 ?_;refine Ow ?_;refine BA (σ:=Int) hF (fun (a8:Int) s'=>Zs h [] 26 [(0,.sl 1 (List.map B1 p0) 0),(1,.sl 1 (List.map B1 p1) 0),(12,.int .i64 (p0.length:Int)),(13,.int .i64 a8)] s') ?_ ?_
   ·exact ⟨oy ok,wy ok⟩
   ·rintro G9 hG10 rec11 a8 s' ih12 hF ⟨ok,hws⟩;refine AD hws ?_;rw [BY] at hF;refine Im ?_;refine AU rfl hF (fun hb13 hF=>?_) fun hb13 hF=>?_
    ·refine WR ?_;refine Hs ?_;refine Ho (mdl [(19,3),(23,3)]) (by kernel_rfl) (by kernel_rfl) ?_;refine YC ?_;refine Fr rfl rfl Fo Ax hF (fun x14 _ hF=>?_);refine X9 ?_;refine YC ?_;refine Fr rfl rfl Fo Ax hF (fun x15 _ hF=>?_);refine X9 ?_;refine Tg ?_;refine AU rfl hF (fun hb16 hF=>?_) fun hb16 hF=>?_
     ·refine Hg ?_;replace hF:=hG10 _ (Ap hF);exact rt
     ·refine Qv ?_;refine ih12 (IntKind.wrap .i64 (a8 + 1)) _ hF ?_;exact ⟨oy ok,wy ok⟩
    ·refine Fh ?_;replace hF:=hG10 _ (Ap hF);exact ⟨(),hF,oy ok,wy ok⟩
  ·rintro ⟨⟩ s' hF ⟨ok,hws⟩;refine AD hws ?_;refine Hg ?_;exact rt
theorem Ng (p0:List Ag) {G:(List Ag) -> Prop} (h:Heap) (hF:OptP (Ge p0) G):CallsA prog 35 [.sl 7 (List.map Ai p0) 0] h fun d h'=>∃ r,G r /\ d=.sl 7 (List.map Ai r) 0 /\ h'=h:=by
 refine CallsA.ret ?_;refine AQ func35 rfl Af5 ntmps35 rfl (fun ok=>?_);rw [Ge] at hF;refine Bw ?_;refine S_a (v:=.snil) rfl ?_;refine Em 2 (v:=.sl 7 (List.map Ai []) 0) (.nil _) ?_;refine F0 ?_;refine S_a (v:=.snil) rfl ?_;refine Kc 3 7 ok rfl rfl ?_;intro r1 hr1 ok;refine A9 ?_;refine AG hF (fun (a62:(List Ag)) s'=>∃ g63:Nat,g63 ≠ 0 /\ Zs h [(g63,.room)] 56 [(3,.sl 7 (List.map Ai a62) g63)] s') (fun J64 hF=>?_) ?_
 ·refine Afj ?_;refine Ow ?_;refine BA (σ:=(List Ag) × Int) hF (fun (v:(List Ag) × Int) s'=>match v with | (a65,a67)=>∃ g66:Nat,g66 ≠ 0 /\ Zs h [(g66,.room)] 56 [(3,.sl 7 (List.map Ai a65) g66),(7,.sl 7 (List.map Ai p0) 0),(8,.int .i64 (p0.length:Int)),(9,.int .i64 a67)] s') ?_ ?_
  ·exact ⟨r1,hr1,oy ok,wy ok⟩
  ·rintro G68 hG69 rec70 ⟨a65,a67⟩ s' ih71 hF ⟨g66,hg66,ok,hws⟩;refine AD hws ?_;rw [EU] at hF;refine Im ?_;refine AU rfl hF (fun hb72 hF=>?_) fun hb72 hF=>?_
   ·refine Dq ?_;refine AG hF (fun (a100:(List Ag)) s'=>∃ g101:Nat,g101 ≠ 0 /\ Zs h [(g101,.room)] 56 [(3,.sl 7 (List.map Ai a100) g101),(7,.sl 7 (List.map Ai p0) 0),(8,.int .i64 (p0.length:Int)),(9,.int .i64 a67)] s') (fun J102 hF=>?_) ?_
    ·refine Qy ?_;refine Cy (mdl [(5,1)]) ?_;refine Fr rfl rfl Ds BM hF (fun x103 _ hF=>?_);refine AE rfl (AX (vs:=Ai x103) E9 BM rfl rfl) ?_;refine Ca ok rfl GA ?_;intro i104 hi104 ok;refine F3 (j:=0) (cs':=[.sl 1 (List.map B1 x103.path) 0,.int .i64 x103.node.Kind,.str x103.node.Name.URI,.str x103.node.Name.Local,.sl 3 (List.map Ao x103.node.Attrs) 0,.sl 6 (List.map Ad x103.node.Kids) 0,.str x103.node.Text]) ok rfl rfl rfl hi104 rfl BM rfl rfl (fun ok=>?_);refine F0 ?_;refine Kl ?_;refine Em 13 (v:=.sl 7 (List.map Ai a65) 0) (.zero _ _ _) ?_;refine FA rfl Ds ?_;refine IS ?_;refine AG hF (fun (a116:Bool) s'=>Zs h [(g66,.room)] 56 [(3,.sl 7 (List.map Ai a65) g66),(5,.iptr (Ai x103)),(7,.sl 7 (List.map Ai p0) 0),(8,.int .i64 (p0.length:Int)),(9,.int .i64 a67),(49,.bool a116)] s') (fun J117 hF=>?_) ?_
     ·refine Afr ?_;show AO prog (mdl []) true #[] [] _ _;refine Ln 0 5 ok rfl rfl hi104 (fun ok=>?_);refine A9 ?_;refine Ho (mdl [(19,3),(26,3),(36,3),(38,3),(44,3)]) (by kernel_rfl) (by kernel_rfl) ?_;refine Fy ?_;refine Qp ?_;refine QB (b:=((a65.length:Int) == 0)) hF (fun hb120 hF=>?_) (fun hb121 hF=>?_)
      ·refine Qz ?_;refine Sw ?_;refine VP ?_;refine YW ?_;refine Afv ?_;refine Afv ?_;refine VW ?_;refine KS (v:=.bool _) rfl rfl rfl ?_;refine A9 ?_;exact ⟨true,hF,oy ok,wy ok⟩
      ·refine DY ?_;refine Yu ?_;refine Yi ?_;refine V3 ?_;refine Bi ?_;refine Kl ?_;refine Zf ?_;refine Fr rfl rfl Ds BM hF (fun x122 _ hF=>?_);refine Bi ?_;refine Yu ?_;refine Yi ?_;refine V3 ?_;refine Bi ?_;refine Ob ?_;refine VV ?_;refine C3 ?_;refine QB (b:=(decide ((x103.path.length:Int) < (x122.path.length:Int)))) hF (fun hb123 hF=>?_) (fun hb124 hF=>?_)
       ·refine Qz ?_;refine Qz ?_;refine LC ?_;exact ⟨true,hF,oy ok,wy ok⟩
       ·refine Abi ?_;refine Zf ?_;refine Fr rfl rfl Ds BM hF (fun x125 _ hF=>?_);refine Bi ?_;refine Yu ?_;refine Yi ?_;refine Yu ?_;refine Yi ?_;refine Kl ?_;refine Zf ?_;refine Fr rfl rfl Ds BM hF (fun x126 _ hF=>?_);refine Bi ?_;refine Yu ?_;refine Yi ?_;refine V3 ?_;refine Bi ?_;refine Adg rfl Fo Ax Qg (F4 rfl) hF (fun x127 _ hF=>?_);refine Bi ?_;refine cl (BX (fun _ h hF=>HK _ _ h hF) _ hF fun x128 _ hF=>?_);refine Zg ?_;exact ⟨(!x128),hF,oy ok,wy ok⟩
     ·rintro a116 s' hF ⟨ok,hws⟩;refine AD hws ?_;refine AU rfl hF (fun hb129 hF=>?_) fun hb129 hF=>?_
      ·refine Cy (mdl [(53,2)]) ?_;refine Kl ?_;refine AE rfl (AX (vs:=Ai x103) E9 BM rfl rfl) ?_;refine Dh (cs:=[.sl 1 (List.map B1 x103.path) 0,.int .i64 x103.node.Kind,.str x103.node.Name.URI,.str x103.node.Name.Local,.sl 3 (List.map Ao x103.node.Attrs) 0,.sl 6 (List.map Ad x103.node.Kids) 0,.str x103.node.Text]) (es:=(List.map Ai [x103])) rfl G2 rfl (by kernel_rfl) (by kernel_rfl) ?_;refine Gq (j:=0) ok rfl rfl rfl rfl hg66 G2 KK hF ?_;intro r130 hr130 ok hF;refine Rz ?_;exact ⟨(a65 ++ [x103]),hF,r130,hr130,oy ok,wy ok⟩
      ·refine Dq ?_;exact ⟨a65,hF,g66,hg66,oy ok,wy ok⟩
    ·rintro a100 s' hF ⟨g101,hg101,ok,hws⟩;refine AD hws ?_;refine Nb ?_;refine ih71 (a100,(IntKind.wrap .i64 (a67 + 1))) _ hF ?_;exact ⟨g101,hg101,oy ok,wy ok⟩
   ·refine Fh ?_;replace hF:=hG69 _ (Ap hF);exact ⟨a65,hF,g66,hg66,oy ok,wy ok⟩
 ·rintro a62 s' hF ⟨g63,hg63,ok,hws⟩;refine AD hws ?_;refine Ki ?_;refine Em 55 (v:=.sl 7 (List.map Ai a62) 0) (.zero _ _ _) ?_;refine Aa5 ?_;exact rt
theorem JV:∀ (N:Nat) (v:Ah × Ag) (G:(List Ag) -> Prop) (h:Heap),OptP (iter B4 N v) G -> CallsA prog 36 [.agg (Aq v.1),.agg (Ai v.2)] h fun d h'=>∃ r,G r /\ d=.sl 7 (List.map Ai r) 0 /\ h'=h:=by
 intro N
 induction N with
 | zero=>intro v G h hF;exact Lj hF
 | succ N ih0=>
 rintro ⟨p0,p1⟩ G h hF;show CallsA prog 36 [.agg (Aq p0),.agg (Ai p1)] h fun d h'=>∃ r,G r /\ d=.sl 7 (List.map Ai r) 0 /\ h'=h;replace hF:OptP (B4 (iter B4 N) (p0,p1)) G:=hF;refine CallsA.ret ?_;refine AQ func36 rfl Ahp ntmps36 rfl (fun ok=>?_);rw [B4] at hF;refine Bw ?_;refine Cc rfl rfl rfl rfl ?_;refine Cc rfl rfl rfl rfl ?_;refine S_a (v:=.snil) rfl ?_;refine Em 4 (v:=.sl 7 (List.map Ai []) 0) (.nil _) ?_;refine F0 ?_;refine AE rfl (AX (vs:=Aq p0) FM D3 rfl rfl) ?_;refine AE rfl (AX (vs:=Ai p1) E9 BM rfl rfl) ?_;refine cl (OfR_ok h [] ok hF fun x1 r2 hr2 ok hF=>?_);refine Rz ?_;refine AG hF (fun (a17:(List Ag)) s'=>∃ g18:Nat,g18 ≠ 0 /\ Zs h [(g18,.room)] 34 [(5,.sl 7 (List.map Ai a17) g18)] s') (fun J19 hF=>?_) ?_
 ·refine Bw ?_;refine Af2 ?_;refine A2 rfl B0 Bj rfl ?_;refine AE rfl (AK Dv Bj rfl) ?_;refine Tc ?_;refine BA (σ:=(List Ag) × Int) hF (fun (v:(List Ag) × Int) s'=>match v with | (a20,a22)=>∃ g21:Nat,g21 ≠ 0 /\ Zs h [(g21,.room)] 34 [(2,.iptr (Aq p0)),(3,.iptr (Ai p1)),(5,.sl 7 (List.map Ai a20) g21),(13,.sl 6 (List.map Ad p1.node.Kids) 0),(14,.int .i64 (p1.node.Kids.length:Int)),(15,.int .i64 a22)] s') ?_ ?_
  ·exact ⟨r2,hr2,oy ok,wy ok⟩
  ·rintro G23 hG24 rec25 ⟨a20,a22⟩ s' ih26 hF ⟨g21,hg21,ok,hws⟩;refine AD hws ?_;rw [Do] at hF;refine Im ?_;refine AU rfl hF (fun hb27 hF=>?_) fun hb27 hF=>?_
   ·refine R5 ?_;refine Cy (mdl [(7,1)]) ?_;refine Fy ?_;refine Fr rfl rfl Dt Aw hF (fun x28 _ hF=>?_);refine AE rfl (AX (vs:=Ad x28) A6 Aw (by rw [Ab];rfl) (by rw [Ab];rfl)) ?_;refine Ca ok rfl DI ?_;intro i29 hi29 ok;refine JZ ?_;refine F3 (j:=0) (cs':=[.int .i64 x28.Kind,.str x28.Name.URI,.str x28.Name.Local,.sl 3 (List.map Ao x28.Attrs) 0,.sl 6 (List.map Ad x28.Kids) 0,.str x28.Text]) ok rfl (congrArg D.agg (Ab x28)) rfl hi29 rfl Aw rfl rfl (fun ok=>?_);refine A9 ?_;refine Afr ?_;show AO prog (mdl []) true #[] [] _ _;refine Ln 0 7 ok rfl rfl hi29 (fun ok=>?_);refine A9 ?_;refine RJ (mdl [(31,2),(21,3),(23,3),(28,3)]) [0,1,2,3,5,6,8,4,7,9,10,11,12] [_,_,_,_,_,_,_,_,_,_,_,_,_] (by kernel_rfl) rfl rfl (by kernel_rfl) ?_;refine Kl ?_;refine AE rfl (AX (vs:=Aq p0) FM D3 rfl rfl) ?_;refine Yu ?_;refine Aa6 ?_;refine Fy ?_;refine Dh (cs:=[.int .i64 a22]) (es:=(List.map B1 [a22])) rfl Fa rfl (by kernel_rfl) (by kernel_rfl) ?_;refine AE rfl (AX (vs:=Ad x28) A6 Aw rfl (by rw [Ab];rfl)) ?_;refine RS (CloneR_ok h [(0,.room),(g21,.room)] ok hF fun x32 r33 hr33 ok hF=>?_) (.cons (.refl _) .nil);refine XY (j:=0) ok rfl rfl rfl rfl hr33 Fa KM hF (fun ok hF=>?_);refine Dz (v:=.agg (Ai (⟨(x32 ++ [a22]),x28⟩:Ag))) (GY GA Oh (by rw [Ab x28];rfl)) ?_;refine cl (BX (enc:=fun r=>.sl 7 (List.map Ai r) 0) (fun G h hF=>ih0 (p0,(⟨(x32 ++ [a22]),x28⟩:Ag)) G h hF) _ hF fun x36 _ hF=>?_);refine Gq (j:=2) ok rfl rfl rfl rfl hg21 G2 KK hF ?_;intro r37 hr37 ok hF;refine Rz ?_;refine Nb ?_;refine ih26 ((a20 ++ x36),(IntKind.wrap .i64 (a22 + 1))) _ hF ?_;exact ⟨r37,hr37,oy ok,wy ok⟩
   ·refine Fh ?_;replace hF:=hG24 _ (Ap hF);exact ⟨a20,hF,g21,hg21,oy ok,wy ok⟩
 ·rintro a17 s' hF ⟨g18,hg18,ok,hws⟩;refine AD hws ?_;refine Ki ?_;refine Em 33 (v:=.sl 7 (List.map Ai a17) 0) (.zero _ _ _) ?_;refine Aa5 ?_;exact rt
theorem JS (p0:Ah) (p1:Ag) {G:(List Ag) -> Prop} (h:Heap) (hF:OptP (FW p0 p1) G):CallsA prog 36 [.agg (Aq p0),.agg (Ai p1)] h fun d h'=>∃ r,G r /\ d=.sl 7 (List.map Ai r) 0 /\ h'=h:=JV FUEL (p0,p1) G h hF
theorem HA (p0:Int) {G:Bool -> Prop} (h:Heap) (hF:OptP (EL p0) G):CallsA prog 95 [.int .i64 p0] h fun d h'=>∃ r,G r /\ d=.bool r /\ h'=h:=by
 refine CallsA.ret ?_;refine AQ func95 rfl Af7 ntmps95 rfl (fun ok=>?_);rw [EL] at hF;refine M8 ?_;refine Ok ?_;refine V1 ?_;refine Fu ?_;exact rt
theorem GL (p0:Int) (p1:Int) {G:Int -> Prop} (h:Heap) (hF:OptP (C1 p0 p1) G):CallsA prog 57 [.int .i64 p0,.int .i64 p1] h fun d h'=>∃ r,G r /\ d=.int .i64 r /\ h'=h:=by
 refine CallsA.ret ?_;refine AQ func57 rfl Ahw ntmps57 rfl (fun ok=>?_);rw [C1] at hF;refine Tt ?_;refine Gz ?_;refine cl (BX (fun _ h hF=>HA _ h hF) _ hF fun x1 _ hF=>?_);refine Fg ?_;refine Gz ?_;refine cl (BX (fun _ h hF=>HA _ h hF) _ hF fun x2 _ hF=>?_);refine Y6 ?_;refine Va ?_;refine AU rfl hF (fun hb3 hF=>?_) fun hb3 hF=>?_
 ·refine VQ ?_;refine Va ?_;refine AU rfl hF (fun hb4 hF=>?_) fun hb4 hF=>?_
  ·refine Lr ?_;exact rt
  ·refine YT ?_;exact rt
 ·refine Pb ?_;refine Bw ?_;refine Va ?_;refine AU rfl hF (fun hb5 hF=>?_) fun hb5 hF=>?_
  ·refine Lr ?_;exact rt
  ·refine Pb ?_;refine Ok ?_;refine Ob ?_;refine AU rfl hF (fun hb6 hF=>?_) fun hb6 hF=>?_
   ·refine Lr ?_;exact rt
   ·refine Pb ?_;refine Ok ?_;refine Aaw ?_;refine AU rfl hF (fun hb7 hF=>?_) fun hb7 hF=>?_
    ·refine Lr ?_;exact rt
    ·refine YT ?_;exact rt
theorem Gx (p0 : Ac) (p1 : List By8) {G : (List Al) × Int × Int -> Prop} (h : Heap) (hF : OptP (Ej p0 p1) G) : CallsA prog 13 [.agg (Ad p0), .str p1] h fun d h' => ∃ r, G r /\ d = .tup [.sl 4 (List.map Au r.1) 0, .int .i64 r.2.1, .int .i64 r.2.2] /\ h' = h := by
 refine CallsA.ret ?_;refine AQ func13 rfl Ahm ntmps13 rfl (fun ok=>?_);rw [Ej] at hF;refine Bw ?_;refine Cc (v:=.agg (Ad p0)) (cs:=Ad p0) rfl rfl rfl rfl ?_;refine S_a (v:=.snil) rfl ?_;refine Em 4 (v:=.sl 4 (List.map Au []) 0) (.nil _) ?_;refine LJ ?_;refine Nw ?_;refine cl (JH _ hF fun x1 _ hF=>?_);refine YU ?_;refine Wg ?_;refine Tg ?_;refine AU rfl hF (fun hb2 hF=>?_) fun hb2 hF=>?_
 ·refine Ok ?_;refine S_a (v:=.snil) rfl ?_;refine Em 4 (v:=.sl 4 (List.map Au []) 0) (.nil _) ?_;refine LA ?_;exact rt
 ·refine Pb ?_;refine Bw ?_;refine AE rfl (AX (vs := Ad p0) A6 Aw (by rw [Ab]; rfl) (by rw [Ab]; rfl)) ?_;refine cl (BX (fun _ h hF => Nx _ h hF) _ hF fun x3 _ hF => ?_);refine IS ?_;refine Afc ?_;refine AU rfl hF (fun hb4 hF => ?_) fun hb4 hF => ?_
  ·refine Gz ?_;refine S_a (v:=.snil) rfl ?_;refine Em 4 (v:=.sl 4 (List.map Au []) 0) (.nil _) ?_;refine LA ?_;exact rt
  ·refine TR ?_;refine AE rfl (AX (vs := Ad p0) A6 Aw (by rw [Ab]; rfl) (by rw [Ab]; rfl)) ?_;refine Dz (v := .agg [.snil, .int .i64 p0.Kind, .str p0.Name.URI, .str p0.Name.Local, .sl 3 (List.map Ao p0.Attrs) 0, .sl 6 (List.map Ad p0.Kids) 0, .str p0.Text]) (GY GA Oh (by rw [Ab p0]; rfl)) ?_;refine Em 36 (v := .agg (Ai (⟨[], p0⟩ : Ag))) (.aggC (.cons (.nil _) (.cons (.refl _) (.cons (.refl _) (.cons (.refl _) (.cons (.refl _) (.cons (.refl _) (.cons (.refl _) (.nil))))))))) ?_;refine Dh (cs := [.sl 1 (List.map B1 (⟨[], p0⟩ : Ag).path) 0, .int .i64 (⟨[], p0⟩ : Ag).node.Kind, .str (⟨[], p0⟩ : Ag).node.Name.URI, .str (⟨[], p0⟩ : Ag).node.Name.Local, .sl 3 (List.map Ao (⟨[], p0⟩ : Ag).node.Attrs) 0, .sl 6 (List.map Ad (⟨[], p0⟩ : Ag).node.Kids) 0, .str (⟨[], p0⟩ : Ag).node.Text]) (es := (List.map Ai [(⟨[], p0⟩ : Ag)])) rfl G2 rfl (by kernel_rfl) (by kernel_rfl) ?_;refine Rz ?_;refine AG hF (fun (a143 : (List Ag)) s' => Zs h [] 90 [(11, .sl 7 (List.map Ai a143) 0)] s') (fun J144 hF => ?_) ?_
   ·refine Ki ?_;refine FA rfl Ig ?_;refine Ow ?_;refine BA (σ := (List Ag) × Int) hF (fun (v : (List Ag) × Int) s' => match v with | (a145, a146) => Zs h [] 90 [(11, .sl 7 (List.map Ai a145) 0), (38, .sl 6 (List.map Aq x1.1) 0), (39, .int .i64 (x1.1.length : Int)), (40, .int .i64 a146)] s') ?_ ?_
    ·exact ⟨oy ok,wy ok⟩
    ·rintro G147 hG148 rec149 ⟨a145, a146⟩ s' ih150 hF ⟨ok, hws⟩;refine AD hws ?_;rw [Ez] at hF;refine Im ?_;refine AU rfl hF (fun hb151 hF => ?_) fun hb151 hF => ?_
     ·refine Dq ?_;refine AG hF (fun (a219 : (List Ag)) s' => Zs h [] 90 [(11, .sl 7 (List.map Ai a219) 0), (38, .sl 6 (List.map Aq x1.1) 0), (39, .int .i64 (x1.1.length : Int)), (40, .int .i64 a146)] s') (fun J220 hF => ?_) ?_
      ·refine Qy ?_;refine Cy (mdl [(13,1)]) ?_;refine Fr rfl rfl Ig D3 hF (fun x221 _ hF=>?_);refine AE rfl (AX (vs:=Aq x221) FM D3 rfl rfl) ?_;refine Ca ok rfl OZ ?_;intro i222 hi222 ok;refine F3 (j:=0) (cs':=[.bool x221.deep,.bool x221.attr,.str x221.test,.str x221.name.URI,.str x221.name.Local,.sl 6 (List.map Aj x221.conds) 0]) ok rfl rfl rfl hi222 rfl D3 rfl rfl (fun ok=>?_);refine ZO ?_;refine DH rfl K7 BN ?_;refine Ah1 ?_;refine A9 ?_;refine AU rfl hF (fun hb223 hF=>?_) fun hb223 hF=>?_
       ·refine Ki ?_;refine Cr (j:=0) ok rfl rfl rfl hi222 (AX (vs:=Aq x221) FM D3 rfl rfl) ?_;refine cl (BX (fun _ h hF=>Nv _ _ h hF) _ hF fun x224 _ hF=>?_);refine Yo ?_;refine LA ?_;replace hF:=hG148 _ (Ap hF);exact rt
       ·refine TR ?_;refine S_a (v:=.snil) rfl ?_;refine PC Ai ok (fun ok=>?_);refine A9 ?_;refine AG hF (fun (a228:(List Ag)) s'=>Zs h [mo 0 Ai [],(i222,.cells [.bool x221.deep,.bool x221.attr,.str x221.test,.str x221.name.URI,.str x221.name.Local,.sl 6 (List.map Aj x221.conds) 0])] 90 [(11,.sl 7 (List.map Ai a228) 0),(13,.ptr i222 0),(14,D0 7 0 ([]:List Ag)),(38,.sl 6 (List.map Aq x1.1) 0),(39,.int .i64 (x1.1.length:Int)),(40,.int .i64 a146)] s') (fun J229 hF=>?_) ?_
        ·refine Bw ?_;refine Afw ?_;refine Ajd ?_;refine A9 ?_;refine AU rfl hF (fun hb230 hF=>?_) fun hb230 hF=>?_
         ·refine Nf ?_;refine Kl ?_;refine cl (BX (fun _ h hF=>Ng _ h hF) _ hF fun x231 _ hF=>?_);refine Rz ?_;exact ⟨x231,hF,oy ok,wy ok⟩
         ·refine Dq ?_;exact ⟨a145,hF,oy ok,wy ok⟩
        ·rintro a228 s' hF ⟨ok,hws⟩;refine AD hws ?_;refine AG hF (fun (a259:(List Ag)) s'=>∃ g258:Nat,(g258=0 -> a259=[]) /\ Zs h [mo g258 Ai a259] 90 [(14,D0 7 g258 a259),(38,.sl 6 (List.map Aq x1.1) 0),(39,.int .i64 (x1.1.length:Int)),(40,.int .i64 a146)] s') (fun J260 hF=>?_) ?_
         ·refine Afj ?_;refine Ow ?_;refine BA (σ:=(List Ag) × Int) hF (fun (v:(List Ag) × Int) s'=>match v with | (a262,a263)=>∃ g261:Nat,(g261=0 -> a262=[]) /\ Zs h [mo g261 Ai a262,(i222,.cells [.bool x221.deep,.bool x221.attr,.str x221.test,.str x221.name.URI,.str x221.name.Local,.sl 6 (List.map Aj x221.conds) 0])] 90 [(13,.ptr i222 0),(14,D0 7 g261 a262),(38,.sl 6 (List.map Aq x1.1) 0),(39,.int .i64 (x1.1.length:Int)),(40,.int .i64 a146),(53,.sl 7 (List.map Ai a228) 0),(54,.int .i64 (a228.length:Int)),(55,.int .i64 a263)] s') ?_ ?_
          ·exact ⟨0,(fun _=>rfl),oy ok,wy ok⟩
          ·rintro G264 hG265 rec266 ⟨a262,a263⟩ s' ih267 hF ⟨g261,zg261,ok,hws⟩;refine AD hws ?_;rw [Ew] at hF;refine Im ?_;refine AU rfl hF (fun hb268 hF=>?_) fun hb268 hF=>?_
           ·refine Dq ?_;refine AG hF (fun (a280:(List Ag)) s'=>∃ g279:Nat,(g279=0 -> a280=[]) /\ Zs h [mo g279 Ai a280,(i222,.cells [.bool x221.deep,.bool x221.attr,.str x221.test,.str x221.name.URI,.str x221.name.Local,.sl 6 (List.map Aj x221.conds) 0])] 90 [(13,.ptr i222 0),(14,D0 7 g279 a280),(38,.sl 6 (List.map Aq x1.1) 0),(39,.int .i64 (x1.1.length:Int)),(40,.int .i64 a146),(53,.sl 7 (List.map Ai a228) 0),(54,.int .i64 (a228.length:Int)),(55,.int .i64 a263)] s') (fun J281 hF=>?_) ?_
            ·refine Qy ?_;refine Cy (mdl [(16,1)]) ?_;refine Fr rfl rfl Ds BM hF (fun x282 _ hF=>?_);refine AE rfl (AX (vs:=Ai x282) E9 BM rfl rfl) ?_;refine Ca ok rfl GA ?_;intro i283 hi283 ok;refine F3 (j:=0) (cs':=[.sl 1 (List.map B1 x282.path) 0,.int .i64 x282.node.Kind,.str x282.node.Name.URI,.str x282.node.Name.Local,.sl 3 (List.map Ao x282.node.Attrs) 0,.sl 6 (List.map Ad x282.node.Kids) 0,.str x282.node.Text]) ok rfl rfl rfl hi283 rfl BM rfl rfl (fun ok=>?_);refine F0 ?_;refine Afw ?_;refine Ai7 ?_;refine A9 ?_;refine AU rfl hF (fun hb284 hF=>?_) fun hb284 hF=>?_
             ·refine Cy (mdl [(65,1)]) ?_;refine Adu ?_;refine Cr (j:=2) ok rfl rfl rfl hi222 (AX (vs:=Aq x221) FM D3 rfl rfl) ?_;refine Cr (j:=0) ok rfl rfl rfl hi283 (AX (vs:=Ai x282) E9 BM rfl rfl) ?_;refine cl (BX (fun _ h hF=>JS _ _ h hF) _ hF fun x285 _ hF=>?_);refine Sr (j:=1) (M:=x285) ok zg261 rfl rfl Vy (fun _=>rfl) rfl G2 KK hF ?_;intro u286 zu286 ok hF;obtain ⟨a287,ha287,hF⟩:=Ol hF;rw [<- ha287] at ok zu286;rw [<- ha287];refine Ad4 ?_;refine A9 ?_;exact ⟨a287,hF,u286,zu286,oy ok,wy ok⟩
             ·refine Cy (mdl [(70,1)]) ?_;refine Adu ?_;refine Cr (j:=2) ok rfl rfl rfl hi222 (AX (vs:=Aq x221) FM D3 rfl rfl) ?_;refine Cr (j:=0) ok rfl rfl rfl hi283 (AX (vs:=Ai x282) E9 BM rfl rfl) ?_;refine cl (OfR_ok h [(i283,.cells [.sl 1 (List.map B1 x282.path) 0,.int .i64 x282.node.Kind,.str x282.node.Name.URI,.str x282.node.Name.Local,.sl 3 (List.map Ao x282.node.Attrs) 0,.sl 6 (List.map Ad x282.node.Kids) 0,.str x282.node.Text]),mo g261 Ai a262,(i222,.cells [.bool x221.deep,.bool x221.attr,.str x221.test,.str x221.name.URI,.str x221.name.Local,.sl 6 (List.map Aj x221.conds) 0])] ok hF fun x288 r289 hr289 ok hF=>?_);refine Sr (j:=2) (M:=x288) ok zg261 rfl rfl Vy (fun _=>rfl) rfl G2 KK hF ?_;intro u290 zu290 ok hF;obtain ⟨a291,ha291,hF⟩:=Ol hF;rw [<- ha291] at ok zu290;rw [<- ha291];refine Ad4 ?_;refine A9 ?_;exact ⟨a291,hF,u290,zu290,oy ok,wy ok⟩
            ·rintro a280 s' hF ⟨g279,zg279,ok,hws⟩;refine AD hws ?_;refine Nb ?_;refine ih267 (a280,(IntKind.wrap .i64 (a263 + 1))) _ hF ?_;exact ⟨g279,zg279,oy ok,wy ok⟩
           ·refine Fh ?_;replace hF:=hG265 _ (Ap hF);exact ⟨a262,hF,g261,zg261,oy ok,wy ok⟩
         ·rintro a259 s' hF ⟨g258,zg258,ok,hws⟩;refine AD hws ?_;refine Bw ?_;refine Adu ?_;refine RS (Sort_ok h [] zg258 ok hF fun x292 zr293 hlx292 ok hF=>?_) (.cons (.refl _) (.cons (.refl _) .nil));have hms:D0 7 g258 a259=D0 7 g258 x292:=KG hlx292
          try rw [hms] at ok
          try rw [hms]
          clear hms;refine A9 ?_;refine Nf ?_;refine Adu ?_;refine Ad4 ?_;refine XM 0 11 ok zr293 rfl rfl (fun _=>rfl) (fun ok=>?_);refine A9 ?_;exact ⟨x292,hF,oy ok,wy ok⟩
      ·rintro a219 s' hF ⟨ok,hws⟩;refine AD hws ?_;refine Nb ?_;refine ih150 (a219,(IntKind.wrap .i64 (a146 + 1))) _ hF ?_;exact ⟨oy ok,wy ok⟩
     ·refine Fh ?_;replace hF:=hG148 _ (Ap hF);exact ⟨a145,hF,oy ok,wy ok⟩
   ·rintro a143 s' hF ⟨ok,hws⟩;refine AD hws ?_;refine Bw ?_;refine S_a (v:=.snil) rfl ?_;refine Kc 17 4 ok rfl rfl ?_;intro r295 hr295 ok;refine A9 ?_;refine AG hF (fun (a303:(List Al)) s'=>∃ g304:Nat,g304 ≠ 0 /\ Zs h [(g304,.room)] 90 [(17,.sl 4 (List.map Au a303) g304)] s') (fun J305 hF=>?_) ?_
    ·refine Afj ?_;refine Ow ?_;refine BA (σ:=(List Al) × Int) hF (fun (v:(List Al) × Int) s'=>match v with | (a306,a308)=>∃ g307:Nat,g307 ≠ 0 /\ Zs h [(g307,.room)] 90 [(17,.sl 4 (List.map Au a306) g307),(76,.sl 7 (List.map Ai a143) 0),(77,.int .i64 (a143.length:Int)),(78,.int .i64 a308)] s') ?_ ?_
     ·exact ⟨r295,hr295,oy ok,wy ok⟩
     ·rintro G309 hG310 rec311 ⟨a306,a308⟩ s' ih312 hF ⟨g307,hg307,ok,hws⟩;refine AD hws ?_;rw [Ev] at hF;refine Im ?_;refine AU rfl hF (fun hb313 hF=>?_) fun hb313 hF=>?_
      ·refine R5 ?_;refine Cy (mdl [(19,1)]) ?_;refine Fr rfl rfl Ds BM hF (fun x314 _ hF=>?_);refine AE rfl (AX (vs:=Ai x314) E9 BM rfl rfl) ?_;refine Ca ok rfl GA ?_;intro i315 hi315 ok;refine F3 (j:=0) (cs':=[.sl 1 (List.map B1 x314.path) 0,.int .i64 x314.node.Kind,.str x314.node.Name.URI,.str x314.node.Name.Local,.sl 3 (List.map Ao x314.node.Attrs) 0,.sl 6 (List.map Ad x314.node.Kids) 0,.str x314.node.Text]) ok rfl rfl rfl hi315 rfl BM rfl rfl (fun ok=>?_);refine A9 ?_;refine Cy (mdl [(87,2)]) ?_;refine Kl ?_;refine DH rfl NM H7 ?_;refine Cr (j:=0) ok rfl rfl rfl (by assumption) (AK (v:=.sl _ _ _) Su H7 rfl) ?_;refine Dz (v:=.agg (Au (⟨x314.path,false,(⟨[],[]⟩:Aa)⟩:Al))) (GY RQ RL rfl) ?_;refine Dh (cs:=[.sl 1 (List.map B1 (⟨x314.path,false,(⟨[],[]⟩:Aa)⟩:Al).Steps) 0,.bool (⟨x314.path,false,(⟨[],[]⟩:Aa)⟩:Al).Attr,.str (⟨x314.path,false,(⟨[],[]⟩:Aa)⟩:Al).Name.URI,.str (⟨x314.path,false,(⟨[],[]⟩:Aa)⟩:Al).Name.Local]) (es:=(List.map Au [(⟨x314.path,false,(⟨[],[]⟩:Aa)⟩:Al)])) rfl L0 rfl (by kernel_rfl) (by kernel_rfl) ?_;refine Gq (j:=1) ok rfl rfl rfl rfl hg307 L0 SB hF ?_;intro r316 hr316 ok hF;refine Rz ?_;refine Nb ?_;refine ih312 ((a306 ++ [(⟨x314.path,false,(⟨[],[]⟩:Aa)⟩:Al)]),(IntKind.wrap .i64 (a308 + 1))) _ hF ?_;exact ⟨r316,hr316,oy ok,wy ok⟩
      ·refine Fh ?_;replace hF:=hG310 _ (Ap hF);exact ⟨a306,hF,g307,hg307,oy ok,wy ok⟩
    ·rintro a303 s' hF ⟨g304,hg304,ok,hws⟩;refine AD hws ?_;refine Ki ?_;refine Em 89 (v:=.sl 4 (List.map Au a303) 0) (.zero _ _ _) ?_;refine Yo ?_;refine LA ?_;exact rt
theorem Nu (p0:List By8) {G:Int × Int -> Prop} (h:Heap) (hF:OptP (I1 p0) G):CallsA prog 31 [.str p0] h fun d h'=>∃ r,G r /\ d=.tup [.int .i64 r.1,.int .i64 r.2] /\ h'=h:=by
 refine CallsA.ret ?_;refine AQ func31 rfl Ah9 ntmps31 rfl (fun ok=>?_);rw [I1] at hF;refine Bw ?_;refine LJ ?_;refine Nw ?_;refine cl (JH _ hF fun x1 _ hF=>?_);refine YU ?_;refine LJ ?_;refine Ok ?_;refine LA ?_;exact rt
theorem He (p0:List Int) (p1:List Int) {G:Bool -> Prop} (h:Heap) (hF:OptP (Bu p0 p1) G):CallsA prog 21 [.sl 1 (List.map B1 p0) 0,.sl 1 (List.map B1 p1) 0] h fun d h'=>∃ r,G r /\ d=.bool r /\ h'=h:=by
 refine CallsA.ret ?_;refine AQ func21 rfl Ahj ntmps21 rfl (fun ok=>?_);rw [Bu] at hF;refine Aas ?_;refine Ad5 ?_;refine Kl ?_;refine V3 ?_;refine Tg ?_;refine AU rfl hF (fun hb1 hF=>?_) fun hb1 hF=>?_
 ·refine Hg ?_;exact rt
 ·refine Dq ?_;refine AG hF (fun (_:Unit) s'=>Zs h [] 26 [] s') (fun J7 hF=>?_) ?_
  ·refine Ad5 ?_;refine Ow ?_;refine BA (σ:=Int) hF (fun (a8:Int) s'=>Zs h [] 26 [(0,.sl 1 (List.map B1 p0) 0),(1,.sl 1 (List.map B1 p1) 0),(12,.int .i64 (p0.length:Int)),(13,.int .i64 a8)] s') ?_ ?_
   ·exact ⟨oy ok,wy ok⟩
   ·rintro G9 hG10 rec11 a8 s' ih12 hF ⟨ok,hws⟩;refine AD hws ?_;rw [Cd] at hF;refine Im ?_;refine AU rfl hF (fun hb13 hF=>?_) fun hb13 hF=>?_
    ·refine WR ?_;refine Hs ?_;refine Ho (mdl [(19,3),(23,3)]) (by kernel_rfl) (by kernel_rfl) ?_;refine YC ?_;refine Fr rfl rfl Fo Ax hF (fun x14 _ hF=>?_);refine X9 ?_;refine YC ?_;refine Fr rfl rfl Fo Ax hF (fun x15 _ hF=>?_);refine X9 ?_;refine Tg ?_;refine AU rfl hF (fun hb16 hF=>?_) fun hb16 hF=>?_
     ·refine Hg ?_;replace hF:=hG10 _ (Ap hF);exact rt
     ·refine Qv ?_;refine ih12 (IntKind.wrap .i64 (a8 + 1)) _ hF ?_;exact ⟨oy ok,wy ok⟩
    ·refine Fh ?_;replace hF:=hG10 _ (Ap hF);exact ⟨(),hF,oy ok,wy ok⟩
  ·rintro ⟨⟩ s' hF ⟨ok,hws⟩;refine AD hws ?_;refine Hg ?_;exact rt
theorem Fc {β:Type} {f:Bool -> Option β} {G:β -> Prop} {R:D -> Heap -> Prop} {p0:List Int} {p1:List Int} (h:Heap) (hF:OptP ((Bu p0 p1).bind f) G) (hk:∀ r,Bu p0 p1=some r -> OptP (f r) G -> R (.bool r) h):CallsA prog 21 [.sl 1 (List.map B1 p0) 0,.sl 1 (List.map B1 p1) 0] h R:=by
 obtain ⟨r0,hr,hF⟩:=A8 hF;refine (He (G:=fun r=>r=r0) p0 p1 h ⟨r0,hr,rfl⟩).mono ?_;rintro _ _ ⟨r,rfl,rfl,rfl⟩;exact hk _ hr hF
theorem In {G:Bool -> Prop} (h:Heap) (hF:OptP (D2) G):CallsA prog 10 [] h fun d h'=>∃ r,G r /\ d=.bool r /\ h'=h:=by
 refine CallsA.ret ?_;refine AQ func10 rfl Agf ntmps10 rfl (fun ok=>?_);rw [D2] at hF;refine M8 ?_;refine Bw ?_;refine cl (BX (fun _ h hF=>FC h hF) _ hF fun x1 _ hF=>?_);refine cl (BX (fun _ h hF=>Gx _ _ h hF) _ hF fun x2 _ hF=>?_);refine YU ?_;refine LJ ?_;refine Bw ?_;refine cl (BX (fun _ h hF=>FC h hF) _ hF fun x3 _ hF=>?_);refine cl (BX (fun _ h hF=>Gx _ _ h hF) _ hF fun x4 _ hF=>?_);refine YU ?_;refine LJ ?_;refine Bw ?_;refine cl (BX (fun _ h hF=>Nu _ h hF) _ hF fun x5 _ hF=>?_);refine Aaq ?_;refine VN ?_;refine A3 (b:=(x2.2.2 == 0)) 3 30 (.bool ((x2.2.2 == 0) && (x4.2.2 == 0))) (fun hb6=>?_) (fun hb6=>?_) ?_
 ·refine Ym ?_;refine Gp ?_;exact th
 ·refine Ht ?_;exact th
 refine C3 ?_;refine A3 (b:=((x2.2.2 == 0) && (x4.2.2 == 0))) 3 34 (.bool (((x2.2.2 == 0) && (x4.2.2 == 0)) && (x5.2 == 36))) (fun hb7=>?_) (fun hb7=>?_) ?_
 ·refine Ym ?_;refine Gp ?_;exact th
 ·refine Ht ?_;exact th
 refine C3 ?_;refine A3 (b:=(((x2.2.2 == 0) && (x4.2.2 == 0)) && (x5.2 == 36))) 3 38 (.bool ((((x2.2.2 == 0) && (x4.2.2 == 0)) && (x5.2 == 36)) && (x5.1 == 3))) (fun hb8=>?_) (fun hb8=>?_) ?_
 ·refine Ym ?_;refine Gp ?_;exact th
 ·refine Ht ?_;exact th
 refine C3 ?_;refine A3 (b:=((((x2.2.2 == 0) && (x4.2.2 == 0)) && (x5.2 == 36)) && (x5.1 == 3))) 4 43 (.bool (((((x2.2.2 == 0) && (x4.2.2 == 0)) && (x5.2 == 36)) && (x5.1 == 3)) && ((x2.1.length:Int) == 1))) (fun hb9=>?_) (fun hb9=>?_) ?_
 ·refine Yh ?_;refine Abd ?_;refine TK ?_;exact th
 ·refine Pc ?_;exact th
 refine C3 ?_;refine Bf 7 51 hF (fun J11 hb10 hF=>?_) (fun J11 hb10 hF=>?_) (fun v12 hF=>?_)
 ·refine Yh ?_;refine Fr rfl rfl GB F8 hF (fun x13 _ hF=>?_);refine Bi ?_;refine Aho ?_;refine Yi ?_;refine Dh (cs:=[.int .i64 0,.int .i64 1]) (es:=(List.map B1 [0,1])) rfl Fa rfl (by kernel_rfl) (by kernel_rfl) ?_;refine Bi ?_;refine cl (Fc _ hF fun x14 _ hF=>?_);refine Gp ?_;exact tw
 ·refine Ii ?_;refine Ht ?_;exact tw
 ·refine C3 ?_;refine A3 (b:=v12) 4 56 (.bool (v12 && ((x4.1.length:Int) == 2))) (fun hb15=>?_) (fun hb15=>?_) ?_
  ·refine Yh ?_;refine Abd ?_;refine TK ?_;exact th
  ·refine Pc ?_;exact th
  refine C3 ?_;refine Bf 5 62 hF (fun J17 hb16 hF=>?_) (fun J17 hb16 hF=>?_) (fun v18 hF=>?_)
  ·refine Yh ?_;refine Fr rfl rfl GB F8 hF (fun x19 _ hF=>?_);refine Bi ?_;refine Aba ?_;refine Bi ?_;refine ZG ?_;refine Gp ?_;exact tw
  ·refine VZ ?_;exact tw
  ·refine C3 ?_;refine Bf 7 70 hF (fun J21 hb20 hF=>?_) (fun J21 hb20 hF=>?_) (fun v22 hF=>?_)
   ·refine Yh ?_;refine Fr rfl rfl GB F8 hF (fun x23 _ hF=>?_);refine Bi ?_;refine Afx ?_;refine Bi ?_;refine Aal ?_;refine Afm ?_;refine Lu ?_;refine Gp ?_;exact tw
   ·refine Ii ?_;refine Ht ?_;exact tw
   ·refine Fu ?_;exact rt
theorem II:∀ (N:Nat) (v:Ac) (G:(List Ac) -> Prop) (h:Heap),OptP (iter BP N v) G -> CallsA prog 25 [.agg (Ad v)] h fun d h'=>∃ r,G r /\ d=.sl 6 (List.map Ad r) 0 /\ h'=h:=by
 intro N
 induction N with
 | zero=>intro v G h hF;exact Lj hF
 | succ N ih0=>
 intro p0 G h hF;show CallsA prog 25 [.agg (Ad p0)] h fun d h'=>∃ r,G r /\ d=.sl 6 (List.map Ad r) 0 /\ h'=h;replace hF:OptP (BP (iter BP N) p0) G:=hF;refine CallsA.ret ?_;refine AQ func25 rfl Ain ntmps25 rfl (fun ok=>?_);rw [BP] at hF;refine Bw ?_;refine Cc (v:=.agg (Ad p0)) (cs:=Ad p0) rfl rfl rfl rfl ?_;refine S_a (v:=.snil) rfl ?_;refine Em 2 (v:=.sl 6 (List.map Ad []) 0) (.nil _) ?_;refine Jk ?_;refine Cy (mdl [(7,2)]) ?_;refine AE rfl (AX (vs:=Ad p0) A6 Aw (by rw [Ab];rfl) (by rw [Ab];rfl)) ?_;refine Pg (d:=6) (v:=.agg [.int .i64 p0.Kind,.str p0.Name.URI,.str p0.Name.Local,.sl 3 (List.map Ao p0.Attrs) 0,.sl 6 (List.map Ad p0.Kids) 0,.str p0.Text]) (congrArg D.agg (Ab p0)) ?_;refine PQ (cs:=[.int .i64 p0.Kind,.str p0.Name.URI,.str p0.Name.Local,.sl 3 (List.map Ao p0.Attrs) 0,.sl 6 (List.map Ad p0.Kids) 0,.str p0.Text]) (es:=(List.map Ad [p0])) ok rfl Ju rfl (by kernel_rfl) (by simp only [List.map_cons,List.map_nil,Ab];rfl) ?_;intro r1 hr1 ok;refine Rz ?_;refine AG hF (fun (a10:(List Ac)) s'=>∃ g11:Nat,g11 ≠ 0 /\ Zs h [(g11,.room)] 21 [(3,.sl 6 (List.map Ad a10) g11)] s') (fun J12 hF=>?_) ?_
 ·refine Bw ?_;refine A2 rfl B0 Bj (by rw [Ab];rfl) ?_;refine AE rfl (AK Dv Bj (congrArg (List.drop 4) (Ab p0))) ?_;refine Tc ?_;refine BA (σ:=(List Ac) × Int) hF (fun (v:(List Ac) × Int) s'=>match v with | (a13,a15)=>∃ g14:Nat,g14 ≠ 0 /\ Zs h [(g14,.room)] 21 [(3,.sl 6 (List.map Ad a13) g14),(9,.sl 6 (List.map Ad p0.Kids) 0),(10,.int .i64 (p0.Kids.length:Int)),(11,.int .i64 a15)] s') ?_ ?_
  ·exact ⟨r1,hr1,oy ok,wy ok⟩
  ·rintro G16 hG17 rec18 ⟨a13,a15⟩ s' ih19 hF ⟨g14,hg14,ok,hws⟩;refine AD hws ?_;rw [CW] at hF;refine Im ?_;refine AU rfl hF (fun hb20 hF=>?_) fun hb20 hF=>?_
   ·refine R5 ?_;refine Cy (mdl [(5,1)]) ?_;refine Fr rfl rfl Dt Aw hF (fun x21 _ hF=>?_);refine AE rfl (AX (vs:=Ad x21) A6 Aw (by rw [Ab];rfl) (by rw [Ab];rfl)) ?_;refine Ca ok rfl DI ?_;intro i22 hi22 ok;refine F3 (j:=0) (cs':=[.int .i64 x21.Kind,.str x21.Name.URI,.str x21.Name.Local,.sl 3 (List.map Ao x21.Attrs) 0,.sl 6 (List.map Ad x21.Kids) 0,.str x21.Text]) ok rfl (congrArg D.agg (Ab x21)) rfl hi22 rfl Aw rfl rfl (fun ok=>?_);refine A9 ?_;refine Cy (mdl [(18,2)]) ?_;refine Kl ?_;refine Cr (j:=0) ok rfl rfl rfl hi22 (AX (vs:=Ad x21) A6 Aw rfl (Ab x21).symm) ?_;refine cl (BX (enc:=fun r=>.sl 6 (List.map Ad r) 0) (fun G h hF=>ih0 x21 G h hF) _ hF fun x23 _ hF=>?_);refine Gq (j:=1) ok rfl rfl rfl rfl hg14 Ju R1 hF ?_;intro r24 hr24 ok hF;refine Rz ?_;refine Nb ?_;refine ih19 ((a13 ++ x23),(IntKind.wrap .i64 (a15 + 1))) _ hF ?_;exact ⟨r24,hr24,oy ok,wy ok⟩
   ·refine Fh ?_;replace hF:=hG17 _ (Ap hF);exact ⟨a13,hF,g14,hg14,oy ok,wy ok⟩
 ·rintro a10 s' hF ⟨g11,hg11,ok,hws⟩;refine AD hws ?_;refine Ki ?_;refine Em 20 (v:=.sl 6 (List.map Ad a10) 0) (.zero _ _ _) ?_;refine Aa5 ?_;exact rt
theorem I3 (p0:Ac) {G:(List Ac) -> Prop} (h:Heap) (hF:OptP (C0 p0) G):CallsA prog 25 [.agg (Ad p0)] h fun d h'=>∃ r,G r /\ d=.sl 6 (List.map Ad r) 0 /\ h'=h:=II FUEL p0 G h hF
theorem FT {β:Type} {f:(List Ac) -> Option β} {G:β -> Prop} {R:D -> Heap -> Prop} {p0:Ac} (h:Heap) (hF:OptP ((C0 p0).bind f) G) (hk:∀ r,C0 p0=some r -> OptP (f r) G -> R (.sl 6 (List.map Ad r) 0) h):CallsA prog 25 [.agg (Ad p0)] h R:=by
 obtain ⟨r0,hr,hF⟩:=A8 hF;refine (I3 (G:=fun r=>r=r0) p0 h ⟨r0,hr,rfl⟩).mono ?_;rintro _ _ ⟨r,rfl,rfl,rfl⟩;exact hk _ hr hF
theorem IQ:∀ (N:Nat) (v:Ac × Int) (G:Bool -> Prop) (h:Heap),OptP (iter BQ N v) G -> CallsA prog 42 [.agg (Ad v.1),.int .i64 v.2] h fun d h'=>∃ r,G r /\ d=.bool r /\ h'=h:=by
 intro N
 induction N with
 | zero=>intro v G h hF;exact Lj hF
 | succ N ih0=>
 rintro ⟨p0,p1⟩ G h hF;show CallsA prog 42 [.agg (Ad p0),.int .i64 p1] h fun d h'=>∃ r,G r /\ d=.bool r /\ h'=h;replace hF:OptP (BQ (iter BQ N) (p0,p1)) G:=hF;refine CallsA.ret ?_;refine AQ func42 rfl Aia ntmps42 rfl (fun ok=>?_);rw [BQ] at hF;refine Bw ?_;refine Cc (v:=.agg (Ad p0)) (cs:=Ad p0) rfl rfl rfl rfl ?_;refine Fg ?_;refine AG hF (fun (a3:Int) s'=>Zs h [] 25 [(1,.int .i64 a3),(2,.iptr (Ad p0))] s') (fun J4 hF=>?_) ?_
 ·refine Bw ?_;refine A2 rfl Br Ax (by rw [Ab];rfl) ?_;refine AE rfl (AK B3 Ax (congrArg (List.drop 0) (Ab p0))) ?_;refine Q8 ?_;refine AU rfl hF (fun hb5 hF=>?_) fun hb5 hF=>?_
  ·refine Lq ?_;refine Ob ?_;refine AU rfl hF (fun hb6 hF=>?_) fun hb6 hF=>?_
   ·refine Hg ?_;exact rt
   ·refine Aa9 ?_;refine Na ?_;refine IS ?_;exact ⟨(IntKind.wrap .i64 (p1 - 1)),hF,oy ok,wy ok⟩
  ·refine Dq ?_;exact ⟨p1,hF,oy ok,wy ok⟩
 ·rintro a3 s' hF ⟨ok,hws⟩;refine AD hws ?_;refine AG hF (fun (_:Unit) s'=>Zs h [] 25 [] s') (fun J13 hF=>?_) ?_
  ·refine Bw ?_;refine A2 rfl B0 Bj (by rw [Ab];rfl) ?_;refine AE rfl (AK Dv Bj (congrArg (List.drop 4) (Ab p0))) ?_;refine Tc ?_;refine BA (σ:=Int) hF (fun (a14:Int) s'=>Zs h [] 25 [(1,.int .i64 a3),(15,.sl 6 (List.map Ad p0.Kids) 0),(16,.int .i64 (p0.Kids.length:Int)),(17,.int .i64 a14)] s') ?_ ?_
   ·exact ⟨oy ok,wy ok⟩
   ·rintro G15 hG16 rec17 a14 s' ih18 hF ⟨ok,hws⟩;refine AD hws ?_;rw [CU] at hF;refine Im ?_;refine AU rfl hF (fun hb19 hF=>?_) fun hb19 hF=>?_
    ·refine R5 ?_;refine Cy (mdl [(6,1)]) ?_;refine Fr rfl rfl Dt Aw hF (fun x20 _ hF=>?_);refine AE rfl (AX (vs:=Ad x20) A6 Aw (by rw [Ab];rfl) (by rw [Ab];rfl)) ?_;refine Ca ok rfl DI ?_;intro i21 hi21 ok;refine F3 (j:=0) (cs':=[.int .i64 x20.Kind,.str x20.Name.URI,.str x20.Name.Local,.sl 3 (List.map Ao x20.Attrs) 0,.sl 6 (List.map Ad x20.Kids) 0,.str x20.Text]) ok rfl (congrArg D.agg (Ab x20)) rfl hi21 rfl Aw rfl rfl (fun ok=>?_);refine F0 ?_;refine Cr (j:=0) ok rfl rfl rfl hi21 (AX (vs:=Ad x20) A6 Aw rfl (Ab x20).symm) ?_;refine Fy ?_;refine cl (BX (enc:=fun r=>.bool r) (fun G h hF=>ih0 (x20,a3) G h hF) _ hF fun x22 _ hF=>?_);refine A9 ?_;refine AU rfl hF (fun hb23 hF=>?_) fun hb23 hF=>?_
     ·refine Hg ?_;replace hF:=hG16 _ (Ap hF);exact rt
     ·refine Qv ?_;refine ih18 (IntKind.wrap .i64 (a14 + 1)) _ hF ?_;exact ⟨oy ok,wy ok⟩
    ·refine Fh ?_;replace hF:=hG16 _ (Ap hF);exact ⟨(),hF,oy ok,wy ok⟩
  ·rintro ⟨⟩ s' hF ⟨ok,hws⟩;refine AD hws ?_;refine Hg ?_;exact rt
theorem I7 (p0:Ac) (p1:Int) {G:Bool -> Prop} (h:Heap) (hF:OptP (DB p0 p1) G):CallsA prog 42 [.agg (Ad p0),.int .i64 p1] h fun d h'=>∃ r,G r /\ d=.bool r /\ h'=h:=IQ FUEL (p0,p1) G h hF
theorem Iu {β:Type} {f:Bool -> Option β} {G:β -> Prop} {R:D -> Heap -> Prop} {p0:Ac} {p1:Int} (h:Heap) (hF:OptP ((DB p0 p1).bind f) G) (hk:∀ r,DB p0 p1=some r -> OptP (f r) G -> R (.bool r) h):CallsA prog 42 [.agg (Ad p0),.int .i64 p1] h R:=by
 obtain ⟨r0,hr,hF⟩:=A8 hF;refine (I7 (G:=fun r=>r=r0) p0 p1 h ⟨r0,hr,rfl⟩).mono ?_;rintro _ _ ⟨r,rfl,rfl,rfl⟩;exact hk _ hr hF
theorem IU (p0:Ac) {G:Bool -> Prop} (h:Heap) (hF:OptP (Cq p0) G):CallsA prog 43 [.agg (Ad p0)] h fun d h'=>∃ r,G r /\ d=.bool r /\ h'=h:=by
 refine CallsA.ret ?_;refine AQ func43 rfl Ahh ntmps43 rfl (fun ok=>?_);rw [Cq] at hF;refine Bw ?_;refine Cc (v:=.agg (Ad p0)) (cs:=Ad p0) rfl rfl rfl rfl ?_;refine PX ?_;refine A2 rfl D4 AA (by rw [Ab];rfl) ?_;refine AE rfl (AX (vs:=Ar p0.Name) Bv AA (by rw [Ab];rfl) (by rw [Ab];rfl)) ?_;refine Dz (v:=.agg (Ar (⟨[],[]⟩:Aa))) (GY C4 EG rfl) ?_;refine DN rfl rfl (SL (b:=((p0.Name.URI == (⟨[],[]⟩:Aa).URI) && ((p0.Name.Local == (⟨[],[]⟩:Aa).Local) && true))) DL DK (by simp only [Ar,El,E6,HZ,DK,DL,By,Ay,AS,By,Ay,AS,FN,FB,EX,FD,E7,EY,Es,List.drop_zero,List.drop_succ_cons,bi,bj,List.take_succ_cons,List.take_zero,Option.isSome_some,if_true,ba,Option.map_some,Nat.reduceAdd,Nat.reduceLeDiff])) ?_;refine Fg ?_;refine AG hF (fun (_:Unit) s'=>Zs h [] 108 [(1,.iptr (Ad p0)),(3,.bool ((p0.Name.URI == (⟨[],[]⟩:Aa).URI) && ((p0.Name.Local == (⟨[],[]⟩:Aa).Local) && true)))] s') (fun J16 hF=>?_) ?_
 ·refine Bw ?_;refine A2 rfl B0 Bj (by rw [Ab];rfl) ?_;refine AE rfl (AK Dv Bj (congrArg (List.drop 4) (Ab p0))) ?_;refine Tc ?_;refine BA (σ:=Int) hF (fun (a17:Int) s'=>Zs h [] 108 [(1,.iptr (Ad p0)),(3,.bool ((p0.Name.URI == (⟨[],[]⟩:Aa).URI) && ((p0.Name.Local == (⟨[],[]⟩:Aa).Local) && true))),(12,.sl 6 (List.map Ad p0.Kids) 0),(13,.int .i64 (p0.Kids.length:Int)),(14,.int .i64 a17)] s') ?_ ?_
  ·exact ⟨oy ok,wy ok⟩
  ·rintro G18 hG19 rec20 a17 s' ih21 hF ⟨ok,hws⟩;refine AD hws ?_;rw [CT] at hF;refine Im ?_;refine AU rfl hF (fun hb22 hF=>?_) fun hb22 hF=>?_
   ·refine R5 ?_;refine Cy (mdl [(5,1)]) ?_;refine Fr rfl rfl Dt Aw hF (fun x23 _ hF=>?_);refine AE rfl (AX (vs:=Ad x23) A6 Aw (by rw [Ab];rfl) (by rw [Ab];rfl)) ?_;refine Ca ok rfl DI ?_;intro i24 hi24 ok;refine F3 (j:=0) (cs':=[.int .i64 x23.Kind,.str x23.Name.URI,.str x23.Name.Local,.sl 3 (List.map Ao x23.Attrs) 0,.sl 6 (List.map Ad x23.Kids) 0,.str x23.Text]) ok rfl (congrArg D.agg (Ab x23)) rfl hi24 rfl Aw rfl rfl (fun ok=>?_);refine F0 ?_;refine YO ?_;refine SV ?_;refine Qp ?_;refine A3 (b:=(x23.Kind == 2)) 4 25 (.bool ((x23.Kind == 2) || (x23.Kind == 4))) (fun hb25=>?_) (fun hb25=>?_) ?_
    ·refine Nz ?_;exact th
    ·refine DY ?_;refine YO ?_;refine VX ?_;refine Abl ?_;exact th
    refine C3 ?_;refine A3 (b:=((x23.Kind == 2) || (x23.Kind == 4))) 4 30 (.bool (((x23.Kind == 2) || (x23.Kind == 4)) || (x23.Kind == 5))) (fun hb26=>?_) (fun hb26=>?_) ?_
    ·refine Nz ?_;exact th
    ·refine DY ?_;refine YO ?_;refine VX ?_;refine Abl ?_;exact th
    refine PX ?_;refine A2 rfl Br Ax (by rw [Ab];rfl) ?_;refine AE rfl (AK B3 Ax (congrArg (List.drop 0) (Ab p0))) ?_;refine Qp ?_;refine A3 (b:=(p0.Kind == 1)) 2 36 (.bool ((p0.Kind == 1) && (((x23.Kind == 2) || (x23.Kind == 4)) || (x23.Kind == 5)))) (fun hb27=>?_) (fun hb27=>?_) ?_
    ·refine DY ?_;refine C3 ?_;refine Gp ?_;exact th
    ·refine Sq ?_;exact th
    refine V0 ?_;refine A3 (b:=(!((p0.Kind == 1) && (((x23.Kind == 2) || (x23.Kind == 4)) || (x23.Kind == 5))))) 13 51 (.bool ((!((p0.Kind == 1) && (((x23.Kind == 2) || (x23.Kind == 4)) || (x23.Kind == 5)))) && (!((p0.Kind == 2) && ((((x23.Kind == 2) || (x23.Kind == 4)) || (x23.Kind == 5)) || (x23.Kind == 3)))))) (fun hb28=>?_) (fun hb28=>?_) ?_
    ·refine DY ?_;refine A2 rfl Br Ax (by rw [Ab];rfl) ?_;refine Bi ?_;refine AE rfl (AK B3 Ax (congrArg (List.drop 0) (Ab p0))) ?_;refine Aa2 ?_;refine A3 (b:=(p0.Kind == 2)) 7 49 (.bool ((p0.Kind == 2) && ((((x23.Kind == 2) || (x23.Kind == 4)) || (x23.Kind == 5)) || (x23.Kind == 3)))) (fun hb32=>?_) (fun hb32=>?_) ?_
     ·refine DY ?_;refine C3 ?_;refine QV ?_;refine A3 (b:=(((x23.Kind == 2) || (x23.Kind == 4)) || (x23.Kind == 5))) 4 48 (.bool ((((x23.Kind == 2) || (x23.Kind == 4)) || (x23.Kind == 5)) || (x23.Kind == 3))) (fun hb34=>?_) (fun hb34=>?_) ?_
      ·refine ZJ ?_;exact th
      ·refine DY ?_;refine YO ?_;refine VX ?_;refine Yl ?_;refine UH ?_;exact th
      refine VY ?_;exact th
     ·refine M9 ?_;refine V4 ?_;refine SO ?_;refine TN ?_;exact th
     refine DY ?_;refine UX ?_;refine Gp ?_;exact th
    ·refine Ii ?_;refine Z3 ?_;refine V5 ?_;refine Ht ?_;exact th
    refine A9 ?_;refine AU rfl hF (fun hb35 hF=>?_) fun hb35 hF=>?_
    ·refine Hg ?_;replace hF:=hG19 _ (Ap hF);exact rt
    ·refine Qv ?_;refine ih21 (IntKind.wrap .i64 (a17 + 1)) _ hF ?_;exact ⟨oy ok,wy ok⟩
   ·refine Fh ?_;replace hF:=hG19 _ (Ap hF);exact ⟨(),hF,oy ok,wy ok⟩
 ·rintro ⟨⟩ s' hF ⟨ok,hws⟩;refine AD hws ?_;refine VQ ?_;refine A2 rfl Br Ax (by rw [Ab];rfl) ?_;refine AE rfl (AK B3 Ax (congrArg (List.drop 0) (Ab p0))) ?_;refine Yv ?_;refine AU rfl hF (fun hb36 hF=>?_) fun hb36 hF=>?_
  ·refine Bw ?_;refine Z8 ?_;refine A3 (b:=((p0.Name.URI == (⟨[],[]⟩:Aa).URI) && ((p0.Name.Local == (⟨[],[]⟩:Aa).Local) && true))) 4 62 (.bool (((p0.Name.URI == (⟨[],[]⟩:Aa).URI) && ((p0.Name.Local == (⟨[],[]⟩:Aa).Local) && true)) && (p0.Text == []))) (fun hb37=>?_) (fun hb37=>?_) ?_
   ·refine DY ?_;refine A2 rfl Ct Ay (by rw [Ab];rfl) ?_;refine Bi ?_;refine AE rfl (AK By Ay (congrArg (List.drop 5) (Ab p0))) ?_;refine Bi ?_;refine Lu ?_;refine Gp ?_;exact th
   ·refine Pc ?_;exact th
   refine C3 ?_;refine A3 (b:=(((p0.Name.URI == (⟨[],[]⟩:Aa).URI) && ((p0.Name.Local == (⟨[],[]⟩:Aa).Local) && true)) && (p0.Text == []))) 5 68 (.bool ((((p0.Name.URI == (⟨[],[]⟩:Aa).URI) && ((p0.Name.Local == (⟨[],[]⟩:Aa).Local) && true)) && (p0.Text == [])) && ((p0.Attrs.length:Int) == 0))) (fun hb38=>?_) (fun hb38=>?_) ?_
   ·refine DY ?_;refine A2 rfl Bz AW (by rw [Ab];rfl) ?_;refine Bi ?_;refine AE rfl (AK CR AW (congrArg (List.drop 3) (Ab p0))) ?_;refine Bi ?_;refine X5 ?_;refine TK ?_;exact th
   ·refine VZ ?_;exact th
   refine Fu ?_;exact rt
  ·refine Qw ?_;refine AU rfl hF (fun hb39 hF=>?_) fun hb39 hF=>?_
   ·refine Bw ?_;refine A2 rfl Ct Ay (by rw [Ab];rfl) ?_;refine AE rfl (AK By Ay (congrArg (List.drop 5) (Ab p0))) ?_;refine Lu ?_;refine Fu ?_;exact rt
   ·refine AG hF (fun (a41:Bool) s'=>Zs h [] 108 [(1,.iptr (Ad p0)),(3,.bool ((p0.Name.URI == (⟨[],[]⟩:Aa).URI) && ((p0.Name.Local == (⟨[],[]⟩:Aa).Local) && true))),(54,.int .i64 p0.Kind),(74,.bool a41)] s') (fun J42 hF=>?_) ?_
    ·refine Qw ?_;refine AU rfl hF (fun hb43 hF=>?_) fun hb43 hF=>?_
     ·refine Dq ?_;exact ⟨(p0.Kind == 3),hF,oy ok,wy ok⟩
     ·refine Nf ?_;refine Ac9 ?_;exact ⟨(p0.Kind == 4),hF,oy ok,wy ok⟩
    ·rintro a41 s' hF ⟨ok,hws⟩;refine AD hws ?_;refine AU rfl hF (fun hb44 hF=>?_) fun hb44 hF=>?_
     ·refine Bw ?_;refine Z8 ?_;refine A3 (b:=((p0.Name.URI == (⟨[],[]⟩:Aa).URI) && ((p0.Name.Local == (⟨[],[]⟩:Aa).Local) && true))) 5 83 (.bool (((p0.Name.URI == (⟨[],[]⟩:Aa).URI) && ((p0.Name.Local == (⟨[],[]⟩:Aa).Local) && true)) && ((p0.Attrs.length:Int) == 0))) (fun hb45=>?_) (fun hb45=>?_) ?_
      ·refine DY ?_;refine A2 rfl Bz AW (by rw [Ab];rfl) ?_;refine Bi ?_;refine AE rfl (AK CR AW (congrArg (List.drop 3) (Ab p0))) ?_;refine Bi ?_;refine X5 ?_;refine TK ?_;exact th
      ·refine VZ ?_;exact th
      refine C3 ?_;refine A3 (b:=(((p0.Name.URI == (⟨[],[]⟩:Aa).URI) && ((p0.Name.Local == (⟨[],[]⟩:Aa).Local) && true)) && ((p0.Attrs.length:Int) == 0))) 5 89 (.bool ((((p0.Name.URI == (⟨[],[]⟩:Aa).URI) && ((p0.Name.Local == (⟨[],[]⟩:Aa).Local) && true)) && ((p0.Attrs.length:Int) == 0)) && ((p0.Kids.length:Int) == 0))) (fun hb46=>?_) (fun hb46=>?_) ?_
      ·refine DY ?_;refine A2 rfl B0 Bj (by rw [Ab];rfl) ?_;refine Bi ?_;refine AE rfl (AK Dv Bj (congrArg (List.drop 4) (Ab p0))) ?_;refine Bi ?_;refine Aau ?_;refine TK ?_;exact th
      ·refine VZ ?_;exact th
      refine Fu ?_;exact rt
     ·refine Qw ?_;refine AU rfl hF (fun hb47 hF=>?_) fun hb47 hF=>?_
      ·refine Bw ?_;refine A2 rfl D4 AA (by rw [Ab];rfl) ?_;refine A2 rfl Jt Ay (by rw [Ab];rfl) ?_;refine AE rfl (AK By Ay (congrArg (List.drop 0) (congrArg (List.drop 1) (Ab p0)))) ?_;refine Lu ?_;refine C3 ?_;refine A3 (b:=(p0.Name.URI == [])) 5 101 (.bool ((p0.Name.URI == []) && ((p0.Attrs.length:Int) == 0))) (fun hb48=>?_) (fun hb48=>?_) ?_
       ·refine DY ?_;refine A2 rfl Bz AW (by rw [Ab];rfl) ?_;refine Bi ?_;refine AE rfl (AK CR AW (congrArg (List.drop 3) (Ab p0))) ?_;refine Bi ?_;refine X5 ?_;refine TK ?_;exact th
       ·refine VZ ?_;exact th
       refine C3 ?_;refine A3 (b:=((p0.Name.URI == []) && ((p0.Attrs.length:Int) == 0))) 5 107 (.bool (((p0.Name.URI == []) && ((p0.Attrs.length:Int) == 0)) && ((p0.Kids.length:Int) == 0))) (fun hb49=>?_) (fun hb49=>?_) ?_
       ·refine DY ?_;refine A2 rfl B0 Bj (by rw [Ab];rfl) ?_;refine Bi ?_;refine AE rfl (AK Dv Bj (congrArg (List.drop 4) (Ab p0))) ?_;refine Bi ?_;refine Aau ?_;refine TK ?_;exact th
       ·refine VZ ?_;exact th
       refine Fu ?_;exact rt
      ·refine VS ?_;exact rt
theorem It {β:Type} {f:Bool -> Option β} {G:β -> Prop} {R:D -> Heap -> Prop} {p0:Ac} (h:Heap) (hF:OptP ((Cq p0).bind f) G) (hk:∀ r,Cq p0=some r -> OptP (f r) G -> R (.bool r) h):CallsA prog 43 [.agg (Ad p0)] h R:=by
 obtain ⟨r0,hr,hF⟩:=A8 hF;refine (IU (G:=fun r=>r=r0) p0 h ⟨r0,hr,rfl⟩).mono ?_;rintro _ _ ⟨r,rfl,rfl,rfl⟩;exact hk _ hr hF
theorem IW (p0:Ac) {G:Bool -> Prop} (h:Heap) (hF:OptP (Cj p0) G):CallsA prog 44 [.agg (Ad p0)] h fun d h'=>∃ r,G r /\ d=.bool r /\ h'=h:=by
 refine CallsA.ret ?_;refine AQ func44 rfl Ah3 ntmps44 rfl (fun ok=>?_);rw [Cj] at hF;refine Bw ?_;refine Cc (v:=.agg (Ad p0)) (cs:=Ad p0) rfl rfl rfl rfl ?_;refine Fg ?_;refine AG hF (fun (_:Unit) s'=>Zs h [] 27 [(1,.iptr (Ad p0))] s') (fun J6 hF=>?_) ?_
 ·refine Bw ?_;refine A2 rfl Bz AW (by rw [Ab];rfl) ?_;refine AE rfl (AK CR AW (congrArg (List.drop 3) (Ab p0))) ?_;refine Aam ?_;refine BA (σ:=Int) hF (fun (a7:Int) s'=>Zs h [] 27 [(1,.iptr (Ad p0)),(6,.sl 3 (List.map Ao p0.Attrs) 0),(7,.int .i64 (p0.Attrs.length:Int)),(8,.int .i64 a7)] s') ?_ ?_
  ·exact ⟨oy ok,wy ok⟩
  ·rintro G8 hG9 rec10 a7 s' ih11 hF ⟨ok,hws⟩;refine AD hws ?_;rw [CX] at hF;refine Im ?_;refine AU rfl hF (fun hb12 hF=>?_) fun hb12 hF=>?_
   ·refine R5 ?_;refine Cy (mdl [(4,1)]) ?_;refine Fr rfl rfl Fp CQ hF (fun x13 _ hF=>?_);refine AE rfl (AX (vs:=Ao x13) Jn CQ rfl rfl) ?_;refine Ca ok rfl Id ?_;intro i14 hi14 ok;refine F3 (j:=0) (cs':=[.str x13.Name.URI,.str x13.Name.Local,.str x13.Value]) ok rfl rfl rfl hi14 rfl CQ rfl rfl (fun ok=>?_);refine F0 ?_;refine DH rfl HH Ay ?_;refine Ze ?_;refine Aaw ?_;refine AU rfl hF (fun hb15 hF=>?_) fun hb15 hF=>?_
    ·refine Hg ?_;replace hF:=hG9 _ (Ap hF);exact rt
    ·refine Qv ?_;refine ih11 (IntKind.wrap .i64 (a7 + 1)) _ hF ?_;exact ⟨oy ok,wy ok⟩
   ·refine Fh ?_;replace hF:=hG9 _ (Ap hF);exact ⟨(),hF,oy ok,wy ok⟩
 ·rintro ⟨⟩ s' hF ⟨ok,hws⟩;refine AD hws ?_;refine Bw ?_;refine A2 rfl Bz AW (by rw [Ab];rfl) ?_;refine AE rfl (AK CR AW (congrArg (List.drop 3) (Ab p0))) ?_;refine X5 ?_;refine TP ?_;refine C3 ?_;refine A3 (b:=(decide ((p0.Attrs.length:Int) <= 64))) 5 26 (.bool ((decide ((p0.Attrs.length:Int) <= 64)) && (decide ((p0.Text.length:Int) <= 8192)))) (fun hb16=>?_) (fun hb16=>?_) ?_
  ·refine DY ?_;refine A2 rfl Ct Ay (by rw [Ab];rfl) ?_;refine Bi ?_;refine AE rfl (AK By Ay (congrArg (List.drop 5) (Ab p0))) ?_;refine Bi ?_;refine Xg ?_;refine TP ?_;refine Gp ?_;exact th
  ·refine VZ ?_;exact th
  refine Fu ?_;exact rt
theorem Io {β:Type} {f:Bool -> Option β} {G:β -> Prop} {R:D -> Heap -> Prop} {p0:Ac} (h:Heap) (hF:OptP ((Cj p0).bind f) G) (hk:∀ r,Cj p0=some r -> OptP (f r) G -> R (.bool r) h):CallsA prog 44 [.agg (Ad p0)] h R:=by
 obtain ⟨r0,hr,hF⟩:=A8 hF;refine (IW (G:=fun r=>r=r0) p0 h ⟨r0,hr,rfl⟩).mono ?_;rintro _ _ ⟨r,rfl,rfl,rfl⟩;exact hk _ hr hF
theorem I5 (p0:List By8) (p1:Int) {G:Int × Int -> Prop} (h:Heap) (hF:OptP (Bo p0 p1) G):CallsA prog 61 [.sl 1 (List.map R2 p0) 0,.int .i64 p1] h fun d h'=>∃ r,G r /\ d=.tup [.int .i64 r.1,.int .i64 r.2] /\ h'=h:=by
 refine CallsA.ret ?_;refine AQ func61 rfl Aga ntmps61 rfl (fun ok=>?_);rw [Bo] at hF;refine Bw ?_;refine LJ ?_;refine Aao ?_;refine Fr rfl rfl Jc Hh hF (fun x1 _ hF=>?_);refine Aii ?_;refine NR rfl (Agl Q7 Rc) ?_;refine IS ?_;refine Gz ?_;refine JZ ?_;refine LJ ?_;refine AG hF (fun (v:Int × Int × Int) s'=>match v with | (a9,a10,a11)=>Zs h [] 95 [(0,.sl 1 (List.map R2 p0) 0),(1,.int .i64 p1),(7,.int .i64 a9),(8,.int .i64 a10),(9,.int .i64 a11)] s') (fun J12 hF=>?_) ?_
 ·refine MQ ?_;refine Gz ?_;refine Aab ?_;refine Fg ?_;refine AU rfl hF (fun hb13 hF=>?_) fun hb13 hF=>?_
  ·refine Gz ?_;refine LA ?_;exact rt
  ·refine TV ?_;refine A3 (b:=(decide (192 <= (IntKind.wrap .i64 (x1.toNat:Int))))) 3 28 (.bool ((decide (192 <= (IntKind.wrap .i64 (x1.toNat:Int)))) && (decide ((IntKind.wrap .i64 (x1.toNat:Int)) < 224)))) (fun hb14=>?_) (fun hb14=>?_) ?_
   ·refine Aa4 ?_;refine Gp ?_;exact th
   ·refine Ht ?_;exact th
   refine Fg ?_;refine AU rfl hF (fun hb15 hF=>?_) fun hb15 hF=>?_
   ·refine TQ ?_;refine Na ?_;refine JZ ?_;refine LJ ?_;exact ⟨(2,(IntKind.wrap .i64 ((IntKind.wrap .i64 (x1.toNat:Int)) - 192)),128),hF,oy ok,wy ok⟩
   ·refine TV ?_;refine A3 (b:=(decide (224 <= (IntKind.wrap .i64 (x1.toNat:Int))))) 3 37 (.bool ((decide (224 <= (IntKind.wrap .i64 (x1.toNat:Int)))) && (decide ((IntKind.wrap .i64 (x1.toNat:Int)) < 240)))) (fun hb16=>?_) (fun hb16=>?_) ?_
    ·refine Aa4 ?_;refine Gp ?_;exact th
    ·refine Ht ?_;exact th
    refine Fg ?_;refine AU rfl hF (fun hb17 hF=>?_) fun hb17 hF=>?_
    ·refine TQ ?_;refine Na ?_;refine JZ ?_;refine LJ ?_;exact ⟨(3,(IntKind.wrap .i64 ((IntKind.wrap .i64 (x1.toNat:Int)) - 224)),2048),hF,oy ok,wy ok⟩
    ·refine TV ?_;refine A3 (b:=(decide (240 <= (IntKind.wrap .i64 (x1.toNat:Int))))) 3 46 (.bool ((decide (240 <= (IntKind.wrap .i64 (x1.toNat:Int)))) && (decide ((IntKind.wrap .i64 (x1.toNat:Int)) < 248)))) (fun hb18=>?_) (fun hb18=>?_) ?_
     ·refine Aa4 ?_;refine Gp ?_;exact th
     ·refine Ht ?_;exact th
     refine Fg ?_;refine AU rfl hF (fun hb19 hF=>?_) fun hb19 hF=>?_
     ·refine TQ ?_;refine Na ?_;refine JZ ?_;refine LJ ?_;exact ⟨(4,(IntKind.wrap .i64 ((IntKind.wrap .i64 (x1.toNat:Int)) - 240)),65536),hF,oy ok,wy ok⟩
     ·refine Z7 ?_;exact rt
 ·rintro ⟨a9,a10,a11⟩ s' hF ⟨ok,hws⟩;refine AD hws ?_;refine Lq ?_;refine X1 ?_;refine Kl ?_;refine Zc ?_;refine Aaw ?_;refine AU rfl hF (fun hb20 hF=>?_) fun hb20 hF=>?_
  ·refine Z7 ?_;exact rt
  ·refine Dq ?_;refine AG hF (fun (a27:Int) s'=>Zs h [] 95 [(7,.int .i64 a9),(8,.int .i64 a27),(9,.int .i64 a11)] s') (fun J28 hF=>?_) ?_
   ·refine Yt ?_;refine BA (σ:=Int × Int) hF (fun (v:Int × Int) s'=>match v with | (a29,a30)=>Zs h [] 95 [(0,.sl 1 (List.map R2 p0) 0),(1,.int .i64 p1),(7,.int .i64 a9),(8,.int .i64 a29),(9,.int .i64 a11),(10,.int .i64 a30)] s') ?_ ?_
    ·exact ⟨oy ok,wy ok⟩
    ·rintro G31 hG32 rec33 ⟨a29,a30⟩ s' ih34 hF ⟨ok,hws⟩;refine AD hws ?_;rw [As] at hF;refine Y1 ?_;refine Ob ?_;refine AU rfl hF (fun hb35 hF=>?_) fun hb35 hF=>?_
     ·refine Xv ?_;refine Aao ?_;refine X1 ?_;refine Fr rfl rfl Jc Hh hF (fun x36 _ hF=>?_);refine Aii ?_;refine NR rfl (Agl Q7 Rc) ?_;refine IS ?_;refine Lq ?_;refine Xu ?_;refine A3 (b:=(decide ((IntKind.wrap .i64 (x36.toNat:Int)) < 128))) 3 72 (.bool ((decide ((IntKind.wrap .i64 (x36.toNat:Int)) < 128)) || (decide (191 < (IntKind.wrap .i64 (x36.toNat:Int)))))) (fun hb37=>?_) (fun hb37=>?_) ?_
      ·refine LC ?_;exact th
      ·refine Lx ?_;refine Zv ?_;exact th
      refine A9 ?_;refine AU rfl hF (fun hb38 hF=>?_) fun hb38 hF=>?_
      ·refine Z7 ?_;replace hF:=hG32 _ (Ap hF);exact rt
      ·refine Aa9 ?_;refine DN rfl rfl (XI ..) ?_;refine X1 ?_;refine Na ?_;refine IS ?_;refine Rn ?_;refine ih34 ((IntKind.wrap .i64 ((IntKind.wrap .i64 ((IntKind.wrap .i64 (64 * a29)) + (IntKind.wrap .i64 (x36.toNat:Int)))) - 128)),(IntKind.wrap .i64 (a30 + 1))) _ hF ?_;exact ⟨oy ok,wy ok⟩
     ·refine Fh ?_;replace hF:=hG32 _ (Ap hF);exact ⟨a29,hF,oy ok,wy ok⟩
   ·rintro a27 s' hF ⟨ok,hws⟩;refine AD hws ?_;refine Y1 ?_;refine Xu ?_;refine A3 (b:=(decide (a27 < a11))) 3 84 (.bool ((decide (a27 < a11)) || (decide (1114111 < a27)))) (fun hb39=>?_) (fun hb39=>?_) ?_
    ·refine LC ?_;exact th
    ·refine Lx ?_;refine Zv ?_;exact th
    refine C3 ?_;refine A3 (b:=((decide (a27 < a11)) || (decide (1114111 < a27)))) 7 92 (.bool (((decide (a27 < a11)) || (decide (1114111 < a27))) || ((decide (55296 <= a27)) && (decide (a27 <= 57343))))) (fun hb40=>?_) (fun hb40=>?_) ?_
    ·refine XT ?_;exact th
    ·refine YD ?_;refine A3 (b:=(decide (55296 <= a27))) 3 91 (.bool ((decide (55296 <= a27)) && (decide (a27 <= 57343)))) (fun hb42=>?_) (fun hb42=>?_) ?_
     ·refine XD ?_;exact th
     ·refine Xa ?_;exact th
     refine M7 ?_;exact th
    refine A9 ?_;refine AU rfl hF (fun hb43 hF=>?_) fun hb43 hF=>?_
    ·refine Z7 ?_;exact rt
    ·refine Dq ?_;refine Ok ?_;refine LA ?_;exact rt
theorem FR {β:Type} {f:Int × Int -> Option β} {G:β -> Prop} {R:D -> Heap -> Prop} {p0:List By8} {p1:Int} (h:Heap) (hF:OptP ((Bo p0 p1).bind f) G) (hk:∀ r,Bo p0 p1=some r -> OptP (f r) G -> R (.tup [.int .i64 r.1,.int .i64 r.2]) h):CallsA prog 61 [.sl 1 (List.map R2 p0) 0,.int .i64 p1] h R:=by
 obtain ⟨r0,hr,hF⟩:=A8 hF;refine (I5 (G:=fun r=>r=r0) p0 p1 h ⟨r0,hr,rfl⟩).mono ?_;rintro _ _ ⟨r,rfl,rfl,rfl⟩;exact hk _ hr hF
theorem Is (p0 : Int) {G : Bool -> Prop} (h : Heap) (hF : OptP (Bq p0) G) : CallsA prog 63 [.int .i64 p0] h fun d h' => ∃ r, G r /\ d = .bool r /\ h' = h := by
 refine CallsA.ret ?_;refine AQ func63 rfl Ahc ntmps63 rfl (fun ok=>?_);rw [Bq] at hF;refine Aas ?_;refine MQ ?_;refine AG hF (fun (a5:Bool) s'=>Zs h [] 83 [(0,.int .i64 p0),(3,.bool a5)] s') (fun J6 hF=>?_) ?_
 ·refine TV ?_;refine A3 (b:=(decide (65 <= p0))) 3 9 (.bool ((decide (65 <= p0)) && (decide (p0 <= 90)))) (fun hb7=>?_) (fun hb7=>?_) ?_
  ·refine Tl ?_;exact th
  ·refine Ht ?_;exact th
  refine Fg ?_;refine AU rfl hF (fun hb8 hF=>?_) fun hb8 hF=>?_
  ·refine Dq ?_;exact ⟨((decide (65 <= p0)) && (decide (p0 <= 90))),hF,oy ok,wy ok⟩
  ·refine Gz ?_;refine Ac9 ?_;refine AU rfl hF (fun hb9 hF=>?_) fun hb9 hF=>?_
   ·refine Dq ?_;exact ⟨(p0 == 95),hF,oy ok,wy ok⟩
   ·refine TQ ?_;refine Aa8 ?_;refine A3 (b:=(decide (97 <= p0))) 3 17 (.bool ((decide (97 <= p0)) && (decide (p0 <= 122)))) (fun hb10=>?_) (fun hb10=>?_) ?_
    ·refine Tl ?_;exact th
    ·refine Ht ?_;exact th
    refine Fg ?_;exact ⟨((decide (97 <= p0)) && (decide (p0 <= 122))),hF,oy ok,wy ok⟩
 ·rintro a5 s' hF ⟨ok, hws⟩;refine AD hws ?_;refine AU rfl hF (fun hb11 hF => ?_) fun hb11 hF => ?_
  ·refine Hg ?_;exact rt
  ·refine TV ?_;refine A3 (b := (decide (192 <= p0))) 3 24 (.bool ((decide (192 <= p0)) && (decide (p0 <= 767)))) (fun hb12 => ?_) (fun hb12 => ?_) ?_
   ·refine Tl ?_;exact th
   ·refine Ht ?_;exact th
   refine Fg ?_;refine AU rfl hF (fun hb13 hF=>?_) fun hb13 hF=>?_
   ·refine Gz ?_;refine Za ?_;refine A3 (b:=(p0 != 215)) 3 30 (.bool ((p0 != 215) && (p0 != 247))) (fun hb14=>?_) (fun hb14=>?_) ?_
    ·refine Lx ?_;refine V1 ?_;refine Gp ?_;exact th
    ·refine Ht ?_;exact th
    refine Fu ?_;exact rt
   ·refine TV ?_;refine A3 (b:=(decide (880 <= p0))) 3 37 (.bool ((decide (880 <= p0)) && (decide (p0 <= 8191)))) (fun hb15=>?_) (fun hb15=>?_) ?_
    ·refine Tl ?_;exact th
    ·refine Ht ?_;exact th
    refine Fg ?_;refine AU rfl hF (fun hb16 hF=>?_) fun hb16 hF=>?_
    ·refine Gz ?_;refine V1 ?_;refine Fu ?_;exact rt
    ·refine AG hF (fun (a18:Bool) s'=>Zs h [] 83 [(0,.int .i64 p0),(40,.bool a18)] s') (fun J19 hF=>?_) ?_
     ·refine Gz ?_;refine Ac9 ?_;refine AU rfl hF (fun hb20 hF=>?_) fun hb20 hF=>?_
      ·refine Dq ?_;exact ⟨(p0 == 8204),hF,oy ok,wy ok⟩
      ·refine TQ ?_;refine Ac9 ?_;exact ⟨(p0 == 8205),hF,oy ok,wy ok⟩
     ·rintro a18 s' hF ⟨ok,hws⟩;refine AD hws ?_;refine AU rfl hF (fun hb21 hF=>?_) fun hb21 hF=>?_
      ·refine Hg ?_;exact rt
      ·refine AG hF (fun (a27:Bool) s'=>Zs h [] 83 [(0,.int .i64 p0),(45,.bool a27)] s') (fun J28 hF=>?_) ?_
       ·refine TV ?_;refine A3 (b:=(decide (8304 <= p0))) 3 51 (.bool ((decide (8304 <= p0)) && (decide (p0 <= 8591)))) (fun hb29=>?_) (fun hb29=>?_) ?_
        ·refine Tl ?_;exact th
        ·refine Ht ?_;exact th
        refine Fg ?_;refine AU rfl hF (fun hb30 hF=>?_) fun hb30 hF=>?_
        ·refine Dq ?_;exact ⟨((decide (8304 <= p0)) && (decide (p0 <= 8591))),hF,oy ok,wy ok⟩
        ·refine TV ?_;refine A3 (b:=(decide (11264 <= p0))) 3 57 (.bool ((decide (11264 <= p0)) && (decide (p0 <= 12271)))) (fun hb31=>?_) (fun hb31=>?_) ?_
         ·refine Tl ?_;exact th
         ·refine Ht ?_;exact th
         refine Fg ?_;refine AU rfl hF (fun hb32 hF=>?_) fun hb32 hF=>?_
         ·refine Dq ?_;exact ⟨((decide (11264 <= p0)) && (decide (p0 <= 12271))),hF,oy ok,wy ok⟩
         ·refine TQ ?_;refine Aa8 ?_;refine A3 (b:=(decide (12289 <= p0))) 3 63 (.bool ((decide (12289 <= p0)) && (decide (p0 <= 55295)))) (fun hb33=>?_) (fun hb33=>?_) ?_
          ·refine Tl ?_;exact th
          ·refine Ht ?_;exact th
          refine Fg ?_;exact ⟨((decide (12289 <= p0)) && (decide (p0 <= 55295))),hF,oy ok,wy ok⟩
       ·rintro a27 s' hF ⟨ok,hws⟩;refine AD hws ?_;refine AU rfl hF (fun hb34 hF=>?_) fun hb34 hF=>?_
        ·refine Hg ?_;exact rt
        ·refine TV ?_;refine A3 (b:=(decide (63744 <= p0))) 3 70 (.bool ((decide (63744 <= p0)) && (decide (p0 <= 65533)))) (fun hb35=>?_) (fun hb35=>?_) ?_
         ·refine Tl ?_;exact th
         ·refine Ht ?_;exact th
         refine Fg ?_;refine AU rfl hF (fun hb36 hF=>?_) fun hb36 hF=>?_
         ·refine Gz ?_;refine Xu ?_;refine A3 (b:=(decide (p0 < 64976))) 3 76 (.bool ((decide (p0 < 64976)) || (decide (65008 <= p0)))) (fun hb37=>?_) (fun hb37=>?_) ?_
          ·refine LC ?_;exact th
          ·refine Aiu ?_;refine Kh ?_;exact th
          refine Fu ?_;exact rt
         ·refine Dq ?_;refine TV ?_;refine A3 (b:=(decide (65536 <= p0))) 3 82 (.bool ((decide (65536 <= p0)) && (decide (p0 <= 983039)))) (fun hb38=>?_) (fun hb38=>?_) ?_
          ·refine Tl ?_;exact th
          ·refine Ht ?_;exact th
          refine Fu ?_;exact rt
theorem FL {β:Type} {f:Bool -> Option β} {G:β -> Prop} {R:D -> Heap -> Prop} {p0:Int} (h:Heap) (hF:OptP ((Bq p0).bind f) G) (hk:∀ r,Bq p0=some r -> OptP (f r) G -> R (.bool r) h):CallsA prog 63 [.int .i64 p0] h R:=by
 obtain ⟨r0,hr,hF⟩:=A8 hF;refine (Is (G:=fun r=>r=r0) p0 h ⟨r0,hr,rfl⟩).mono ?_;rintro _ _ ⟨r,rfl,rfl,rfl⟩;exact hk _ hr hF
theorem I8 (p0:Int) {G:Bool -> Prop} (h:Heap) (hF:OptP (Bn p0) G):CallsA prog 62 [.int .i64 p0] h fun d h'=>∃ r,G r /\ d=.bool r /\ h'=h:=by
 refine CallsA.ret ?_;refine AQ func62 rfl Ag6 ntmps62 rfl (fun ok=>?_);rw [Bn] at hF;refine M8 ?_;refine Gz ?_;refine cl (FL _ hF fun x1 _ hF=>?_);refine C3 ?_;refine A3 (b:=x1) 3 8 (.bool (x1 || (p0 == 45))) (fun hb2=>?_) (fun hb2=>?_) ?_
 ·refine LC ?_;exact th
 ·refine Px ?_;exact th
 refine C3 ?_;refine A3 (b:=(x1 || (p0 == 45))) 3 12 (.bool ((x1 || (p0 == 45)) || (p0 == 46))) (fun hb3=>?_) (fun hb3=>?_) ?_
 ·refine LC ?_;exact th
 ·refine Px ?_;exact th
 refine C3 ?_;refine A3 (b:=((x1 || (p0 == 45)) || (p0 == 46))) 7 20 (.bool (((x1 || (p0 == 45)) || (p0 == 46)) || ((decide (48 <= p0)) && (decide (p0 <= 57))))) (fun hb4=>?_) (fun hb4=>?_) ?_
 ·refine XT ?_;exact th
 ·refine YD ?_;refine A3 (b:=(decide (48 <= p0))) 3 19 (.bool ((decide (48 <= p0)) && (decide (p0 <= 57)))) (fun hb6=>?_) (fun hb6=>?_) ?_
  ·refine XD ?_;exact th
  ·refine Xa ?_;exact th
  refine M7 ?_;exact th
 refine C3 ?_;refine A3 (b:=(((x1 || (p0 == 45)) || (p0 == 46)) || ((decide (48 <= p0)) && (decide (p0 <= 57))))) 3 24 (.bool ((((x1 || (p0 == 45)) || (p0 == 46)) || ((decide (48 <= p0)) && (decide (p0 <= 57)))) || (p0 == 183))) (fun hb7=>?_) (fun hb7=>?_) ?_
 ·refine LC ?_;exact th
 ·refine Px ?_;exact th
 refine C3 ?_;refine A3 (b:=((((x1 || (p0 == 45)) || (p0 == 46)) || ((decide (48 <= p0)) && (decide (p0 <= 57)))) || (p0 == 183))) 7 32 (.bool (((((x1 || (p0 == 45)) || (p0 == 46)) || ((decide (48 <= p0)) && (decide (p0 <= 57)))) || (p0 == 183)) || ((decide (768 <= p0)) && (decide (p0 <= 879))))) (fun hb8=>?_) (fun hb8=>?_) ?_
 ·refine XT ?_;exact th
 ·refine YD ?_;refine A3 (b:=(decide (768 <= p0))) 3 31 (.bool ((decide (768 <= p0)) && (decide (p0 <= 879)))) (fun hb10=>?_) (fun hb10=>?_) ?_
  ·refine XD ?_;exact th
  ·refine Xa ?_;exact th
  refine M7 ?_;exact th
 refine C3 ?_;refine A3 (b:=(((((x1 || (p0 == 45)) || (p0 == 46)) || ((decide (48 <= p0)) && (decide (p0 <= 57)))) || (p0 == 183)) || ((decide (768 <= p0)) && (decide (p0 <= 879))))) 3 36 (.bool ((((((x1 || (p0 == 45)) || (p0 == 46)) || ((decide (48 <= p0)) && (decide (p0 <= 57)))) || (p0 == 183)) || ((decide (768 <= p0)) && (decide (p0 <= 879)))) || (p0 == 8255))) (fun hb11=>?_) (fun hb11=>?_) ?_
 ·refine LC ?_;exact th
 ·refine Px ?_;exact th
 refine C3 ?_;refine A3 (b:=((((((x1 || (p0 == 45)) || (p0 == 46)) || ((decide (48 <= p0)) && (decide (p0 <= 57)))) || (p0 == 183)) || ((decide (768 <= p0)) && (decide (p0 <= 879)))) || (p0 == 8255))) 3 40 (.bool (((((((x1 || (p0 == 45)) || (p0 == 46)) || ((decide (48 <= p0)) && (decide (p0 <= 57)))) || (p0 == 183)) || ((decide (768 <= p0)) && (decide (p0 <= 879)))) || (p0 == 8255)) || (p0 == 8256))) (fun hb12=>?_) (fun hb12=>?_) ?_
 ·refine LC ?_;exact th
 ·refine Px ?_;exact th
 refine Fu ?_;exact rt
theorem IB {β:Type} {f:Bool -> Option β} {G:β -> Prop} {R:D -> Heap -> Prop} {p0:Int} (h:Heap) (hF:OptP ((Bn p0).bind f) G) (hk:∀ r,Bn p0=some r -> OptP (f r) G -> R (.bool r) h):CallsA prog 62 [.int .i64 p0] h R:=by
 obtain ⟨r0,hr,hF⟩:=A8 hF;refine (I8 (G:=fun r=>r=r0) p0 h ⟨r0,hr,rfl⟩).mono ?_;rintro _ _ ⟨r,rfl,rfl,rfl⟩;exact hk _ hr hF
theorem I6 (p0:List By8) {G:Bool -> Prop} (h:Heap) (hF:OptP (BT p0) G):CallsA prog 28 [.str p0] h fun d h'=>∃ r,G r /\ d=.bool r /\ h'=h:=by
 refine CallsA.ret ?_;refine AQ func28 rfl Ah5 ntmps28 rfl (fun ok=>?_);rw [BT] at hF;refine Abb ?_;refine Agp ?_;refine Yo ?_;refine Jk ?_;refine Ki ?_;refine Zc ?_;refine Qp ?_;refine A3 (b:=((p0.length:Int) == 0)) 4 16 (.bool (((p0.length:Int) == 0) || (decide (100 < (p0.length:Int))))) (fun hb1=>?_) (fun hb1=>?_) ?_
 ·refine Nz ?_;exact th
 ·refine Yh ?_;refine Zc ?_;refine Bi ?_;refine Zv ?_;exact th
 refine A9 ?_;refine AU rfl hF (fun hb2 hF=>?_) fun hb2 hF=>?_
 ·refine Hg ?_;exact rt
 ·refine Dq ?_;refine AG hF (fun (_:Unit) s'=>Zs h [] 46 [] s') (fun J18 hF=>?_) ?_
  ·refine Yt ?_;refine BA (σ:=Int) hF (fun (a19:Int) s'=>Zs h [] 46 [(3,.sl 1 (List.map R2 p0) 0),(4,.int .i64 a19)] s') ?_ ?_
   ·exact ⟨oy ok,wy ok⟩
   ·rintro G20 hG21 rec22 a19 s' ih23 hF ⟨ok,hws⟩;refine AD hws ?_;rw [BB] at hF;refine Lq ?_;refine Kl ?_;refine Zc ?_;refine Ob ?_;refine AU rfl hF (fun hb24 hF=>?_) fun hb24 hF=>?_
    ·refine VM ?_;refine Aao ?_;refine cl (FR _ hF fun x25 _ hF=>?_);refine Abn ?_;refine Wg ?_;refine Qp ?_;refine Bf 4 33 hF (fun J27 hb26 hF=>?_) (fun J27 hb26 hF=>?_) (fun v28 hF=>?_)
     ·refine Nz ?_;exact tw
     ·refine Lx ?_;refine cl (IB _ hF fun x29 _ hF=>?_);refine Zg ?_;exact tw
     ·refine C3 ?_;refine Bf 8 42 hF (fun J31 hb30 hF=>?_) (fun J31 hb30 hF=>?_) (fun v32 hF=>?_)
      ·refine Afq ?_;refine Aac ?_;refine XA ?_;exact tw
      ·refine Ym ?_;refine QV ?_;refine Bf 4 41 hF (fun J34 hb33 hF=>?_) (fun J34 hb33 hF=>?_) (fun v35 hF=>?_)
       ·refine Lx ?_;refine cl (FL _ hF fun x36 _ hF=>?_);refine Abg ?_;refine Yk ?_;exact tw
       ·refine Sw ?_;refine TN ?_;exact tw
       ·refine M7 ?_;exact tw
      ·refine A9 ?_;refine AU rfl hF (fun hb37 hF=>?_) fun hb37 hF=>?_
       ·refine Hg ?_;replace hF:=hG21 _ (Ap hF);exact rt
       ·refine Aa9 ?_;refine Fy ?_;refine YS ?_;refine ih23 (IntKind.wrap .i64 (a19 + x25.2)) _ hF ?_;exact ⟨oy ok,wy ok⟩
    ·refine Fh ?_;replace hF:=hG21 _ (Ap hF);exact ⟨(),hF,oy ok,wy ok⟩
  ·rintro ⟨⟩ s' hF ⟨ok,hws⟩;refine AD hws ?_;refine Hg ?_;exact rt
theorem FU {β:Type} {f:Bool -> Option β} {G:β -> Prop} {R:D -> Heap -> Prop} {p0:List By8} (h:Heap) (hF:OptP ((BT p0).bind f) G) (hk:∀ r,BT p0=some r -> OptP (f r) G -> R (.bool r) h):CallsA prog 28 [.str p0] h R:=by
 obtain ⟨r0,hr,hF⟩:=A8 hF;refine (I6 (G:=fun r=>r=r0) p0 h ⟨r0,hr,rfl⟩).mono ?_;rintro _ _ ⟨r,rfl,rfl,rfl⟩;exact hk _ hr hF
theorem IV (p0:Int) {G:Bool -> Prop} (h:Heap) (hF:OptP (Cm p0) G):CallsA prog 165 [.int .i64 p0] h fun d h'=>∃ r,G r /\ d=.bool r /\ h'=h:=by
 refine CallsA.ret ?_;refine AQ func165 rfl Aff ntmps165 rfl (fun ok=>?_);rw [Cm] at hF;refine M8 ?_;refine VN ?_;refine A3 (b:=(p0 == 9)) 3 8 (.bool ((p0 == 9) || (p0 == 10))) (fun hb1=>?_) (fun hb1=>?_) ?_
 ·refine LC ?_;exact th
 ·refine Px ?_;exact th
 refine C3 ?_;refine A3 (b:=((p0 == 9) || (p0 == 10))) 3 12 (.bool (((p0 == 9) || (p0 == 10)) || (p0 == 13))) (fun hb2=>?_) (fun hb2=>?_) ?_
 ·refine LC ?_;exact th
 ·refine Px ?_;exact th
 refine C3 ?_;refine A3 (b:=(((p0 == 9) || (p0 == 10)) || (p0 == 13))) 7 20 (.bool ((((p0 == 9) || (p0 == 10)) || (p0 == 13)) || ((decide (32 <= p0)) && (decide (p0 <= 55295))))) (fun hb3=>?_) (fun hb3=>?_) ?_
 ·refine XT ?_;exact th
 ·refine YD ?_;refine A3 (b:=(decide (32 <= p0))) 3 19 (.bool ((decide (32 <= p0)) && (decide (p0 <= 55295)))) (fun hb5=>?_) (fun hb5=>?_) ?_
  ·refine XD ?_;exact th
  ·refine Xa ?_;exact th
  refine M7 ?_;exact th
 refine C3 ?_;refine A3 (b:=((((p0 == 9) || (p0 == 10)) || (p0 == 13)) || ((decide (32 <= p0)) && (decide (p0 <= 55295))))) 7 28 (.bool (((((p0 == 9) || (p0 == 10)) || (p0 == 13)) || ((decide (32 <= p0)) && (decide (p0 <= 55295)))) || ((decide (57344 <= p0)) && (decide (p0 <= 65533))))) (fun hb6=>?_) (fun hb6=>?_) ?_
 ·refine XT ?_;exact th
 ·refine YD ?_;refine A3 (b:=(decide (57344 <= p0))) 3 27 (.bool ((decide (57344 <= p0)) && (decide (p0 <= 65533)))) (fun hb8=>?_) (fun hb8=>?_) ?_
  ·refine XD ?_;exact th
  ·refine Xa ?_;exact th
  refine M7 ?_;exact th
 refine C3 ?_;refine A3 (b:=(((((p0 == 9) || (p0 == 10)) || (p0 == 13)) || ((decide (32 <= p0)) && (decide (p0 <= 55295)))) || ((decide (57344 <= p0)) && (decide (p0 <= 65533))))) 7 36 (.bool ((((((p0 == 9) || (p0 == 10)) || (p0 == 13)) || ((decide (32 <= p0)) && (decide (p0 <= 55295)))) || ((decide (57344 <= p0)) && (decide (p0 <= 65533)))) || ((decide (65536 <= p0)) && (decide (p0 <= 1114111))))) (fun hb9=>?_) (fun hb9=>?_) ?_
 ·refine XT ?_;exact th
 ·refine YD ?_;refine A3 (b:=(decide (65536 <= p0))) 3 35 (.bool ((decide (65536 <= p0)) && (decide (p0 <= 1114111)))) (fun hb11=>?_) (fun hb11=>?_) ?_
  ·refine XD ?_;exact th
  ·refine Xa ?_;exact th
  refine M7 ?_;exact th
 refine Fu ?_;exact rt
theorem IA {β:Type} {f:Bool -> Option β} {G:β -> Prop} {R:D -> Heap -> Prop} {p0:Int} (h:Heap) (hF:OptP ((Cm p0).bind f) G) (hk:∀ r,Cm p0=some r -> OptP (f r) G -> R (.bool r) h):CallsA prog 165 [.int .i64 p0] h R:=by
 obtain ⟨r0,hr,hF⟩:=A8 hF;refine (IV (G:=fun r=>r=r0) p0 h ⟨r0,hr,rfl⟩).mono ?_;rintro _ _ ⟨r,rfl,rfl,rfl⟩;exact hk _ hr hF
theorem Iw (p0:List By8) {G:Int × Int -> Prop} (h:Heap) (hF:OptP (Cf p0) G):CallsA prog 136 [.sl 1 (List.map R2 p0) 0] h fun d h'=>∃ r,G r /\ d=.tup [.int .i64 r.1,.int .i64 r.2] /\ h'=h:=by
 refine CallsA.ret ?_;refine AQ func136 rfl Acx ntmps136 rfl (fun ok=>?_);rw [Cf] at hF;refine Bw ?_;refine LJ ?_;refine AG hF (fun (_:Unit) s'=>Zs h [] 27 [] s') (fun J7 hF=>?_) ?_
 ·refine Yt ?_;refine BA (σ:=Int) hF (fun (a8:Int) s'=>Zs h [] 27 [(0,.sl 1 (List.map R2 p0) 0),(4,.int .i64 a8)] s') ?_ ?_
  ·exact ⟨oy ok,wy ok⟩
  ·rintro G9 hG10 rec11 a8 s' ih12 hF ⟨ok,hws⟩;refine AD hws ?_;rw [Dp] at hF;refine Lq ?_;refine Kl ?_;refine Zc ?_;refine Ob ?_;refine AU rfl hF (fun hb13 hF=>?_) fun hb13 hF=>?_
   ·refine VM ?_;refine Aao ?_;refine cl (FR _ hF fun x14 _ hF=>?_);refine Abn ?_;refine Wg ?_;refine Q8 ?_;refine AU rfl hF (fun hb15 hF=>?_) fun hb15 hF=>?_
    ·refine Gz ?_;refine LA ?_;replace hF:=hG10 _ (Ap hF);exact rt
    ·refine Pb ?_;refine Gz ?_;refine cl (IA _ hF fun x16 _ hF=>?_);refine UJ ?_;refine AU rfl hF (fun hb17 hF=>?_) fun hb17 hF=>?_
     ·refine Gz ?_;refine LA ?_;replace hF:=hG10 _ (Ap hF);exact rt
     ·refine Aa9 ?_;refine Fy ?_;refine YS ?_;refine ih12 (IntKind.wrap .i64 (a8 + x14.2)) _ hF ?_;exact ⟨oy ok,wy ok⟩
   ·refine Fh ?_;replace hF:=hG10 _ (Ap hF);exact ⟨(),hF,oy ok,wy ok⟩
 ·rintro ⟨⟩ s' hF ⟨ok,hws⟩;refine AD hws ?_;refine Z7 ?_;exact rt
theorem Ih {β:Type} {f:Int × Int -> Option β} {G:β -> Prop} {R:D -> Heap -> Prop} {p0:List By8} (h:Heap) (hF:OptP ((Cf p0).bind f) G) (hk:∀ r,Cf p0=some r -> OptP (f r) G -> R (.tup [.int .i64 r.1,.int .i64 r.2]) h):CallsA prog 136 [.sl 1 (List.map R2 p0) 0] h R:=by
 obtain ⟨r0,hr,hF⟩:=A8 hF;refine (Iw (G:=fun r=>r=r0) p0 h ⟨r0,hr,rfl⟩).mono ?_;rintro _ _ ⟨r,rfl,rfl,rfl⟩;exact hk _ hr hF
theorem Je (p0:List By8) {G:Bool -> Prop} (h:Heap) (hF:OptP (BS p0) G):CallsA prog 88 [.str p0] h fun d h'=>∃ r,G r /\ d=.bool r /\ h'=h:=by
 refine CallsA.ret ?_;refine AQ func88 rfl Ag1 ntmps88 rfl (fun ok=>?_);rw [BS] at hF;refine Abb ?_;refine Agp ?_;refine cl (Ih _ hF fun x1 _ hF=>?_);refine Aaq ?_;refine Gz ?_;refine Aa7 ?_;exact rt
theorem EA {β:Type} {f:Bool -> Option β} {G:β -> Prop} {R:D -> Heap -> Prop} {p0:List By8} (h:Heap) (hF:OptP ((BS p0).bind f) G) (hk:∀ r,BS p0=some r -> OptP (f r) G -> R (.bool r) h):CallsA prog 88 [.str p0] h R:=by
 obtain ⟨r0,hr,hF⟩:=A8 hF;refine (Je (G:=fun r=>r=r0) p0 h ⟨r0,hr,rfl⟩).mono ?_;rintro _ _ ⟨r,rfl,rfl,rfl⟩;exact hk _ hr hF
theorem Ie (p0:Aa) {G:Bool -> Prop} (h:Heap) (hF:OptP (BO p0) G):CallsA prog 87 [.agg (Ar p0)] h fun d h'=>∃ r,G r /\ d=.bool r /\ h'=h:=by
 refine CallsA.ret ?_;refine AQ func87 rfl Aib ntmps87 rfl (fun ok=>?_);rw [BO] at hF;refine Bw ?_;refine Cc rfl rfl rfl rfl ?_;refine PX ?_;refine Aal ?_;refine RB ?_;refine cl (FU _ hF fun x1 _ hF=>?_);refine C3 ?_;refine A3 (b:=x1) 5 11 (.bool (x1 && (decide ((p0.URI.length:Int) <= 100)))) (fun hb2=>?_) (fun hb2=>?_) ?_
 ·refine Zd ?_;refine Xg ?_;refine TP ?_;refine Gp ?_;exact th
 ·refine VZ ?_;exact th
 refine C3 ?_;refine Bf 4 16 hF (fun J4 hb3 hF=>?_) (fun J4 hb3 hF=>?_) (fun v5 hF=>?_)
 ·refine Zd ?_;refine cl (EA _ hF fun x6 _ hF=>?_);refine Gp ?_;exact tw
 ·refine Pc ?_;exact tw
 ·refine C3 ?_;refine A3 (b:=v5) 4 21 (.bool (v5 && (!(p0.URI == [104,116,116,112,58,47,47,119,119,119,46,119,51,46,111,114,103,47,50,48,48,48,47,120,109,108,110,115,47])))) (fun hb7=>?_) (fun hb7=>?_) ?_
  ·refine Zd ?_;refine YQ ?_;refine Gp ?_;exact th
  ·refine Pc ?_;exact th
  refine Fu ?_;exact rt
theorem Fw {β:Type} {f:Bool -> Option β} {G:β -> Prop} {R:D -> Heap -> Prop} {p0:Aa} (h:Heap) (hF:OptP ((BO p0).bind f) G) (hk:∀ r,BO p0=some r -> OptP (f r) G -> R (.bool r) h):CallsA prog 87 [.agg (Ar p0)] h R:=by
 obtain ⟨r0,hr,hF⟩:=A8 hF;refine (Ie (G:=fun r=>r=r0) p0 h ⟨r0,hr,rfl⟩).mono ?_;rintro _ _ ⟨r,rfl,rfl,rfl⟩;exact hk _ hr hF
theorem Jj (p0 : Ac) {G : Bool -> Prop} (h : Heap) (hF : OptP (Cl p0) G) : CallsA prog 45 [.agg (Ad p0)] h fun d h' => ∃ r, G r /\ d = .bool r /\ h' = h := by
 refine CallsA.ret ?_;refine AQ func45 rfl Ah8 ntmps45 rfl (fun ok=>?_);rw [Cl] at hF;refine Bw ?_;refine Cc (v:=.agg (Ad p0)) (cs:=Ad p0) rfl rfl rfl rfl ?_;refine Y6 ?_;refine A2 rfl Br Ax (by rw [Ab];rfl) ?_;refine AE rfl (AK B3 Ax (congrArg (List.drop 0) (Ab p0))) ?_;refine Qp ?_;refine Bf 5 14 hF (fun J2 hb1 hF=>?_) (fun J2 hb1 hF=>?_) (fun v3 hF=>?_)
 ·refine DY ?_;refine A2 rfl D4 AA (by rw [Ab];rfl) ?_;refine Bi ?_;refine AE rfl (AX (vs:=Ar p0.Name) Bv AA (by rw [Ab];rfl) (by rw [Ab];rfl)) ?_;refine Bi ?_;refine cl (Fw _ hF fun x4 _ hF=>?_);refine Aay ?_;exact tw
 ·refine VZ ?_;exact tw
 ·refine A9 ?_;refine AU rfl hF (fun hb5 hF => ?_) fun hb5 hF => ?_
  ·refine Hg ?_;exact rt
  ·refine Dq ?_;refine AG hF (fun (_:Unit) s'=>Zs h [] 85 [(1,.iptr (Ad p0))] s') (fun J15 hF=>?_) ?_
   ·refine Bw ?_;refine A2 rfl Bz AW (by rw [Ab];rfl) ?_;refine AE rfl (AK CR AW (congrArg (List.drop 3) (Ab p0))) ?_;refine Aam ?_;refine BA (σ:=Int) hF (fun (a16:Int) s'=>Zs h [] 85 [(1,.iptr (Ad p0)),(16,.sl 3 (List.map Ao p0.Attrs) 0),(17,.int .i64 (p0.Attrs.length:Int)),(18,.int .i64 a16)] s') ?_ ?_
    ·exact ⟨oy ok,wy ok⟩
    ·rintro G17 hG18 rec19 a16 s' ih20 hF ⟨ok,hws⟩;refine AD hws ?_;rw [CS] at hF;refine Im ?_;refine AU rfl hF (fun hb21 hF=>?_) fun hb21 hF=>?_
     ·refine R5 ?_;refine Cy (mdl [(4,1)]) ?_;refine Fr rfl rfl Fp CQ hF (fun x22 _ hF=>?_);refine AE rfl (AX (vs:=Ao x22) Jn CQ rfl rfl) ?_;refine Ca ok rfl Id ?_;intro i23 hi23 ok;refine F3 (j:=0) (cs':=[.str x22.Name.URI,.str x22.Name.Local,.str x22.Value]) ok rfl rfl rfl hi23 rfl CQ rfl rfl (fun ok=>?_);refine F0 ?_;refine YP ?_;refine Cr (j:=0) ok rfl rfl rfl hi23 (AX (vs:=Ar x22.Name) Bv AA rfl rfl) ?_;refine cl (Fw _ hF fun x24 _ hF=>?_);refine V0 ?_;refine A3 (b:=(!x24)) 11 37 (.bool ((!x24) || ((x22.Name.URI == []) && (x22.Name.Local == [120,109,108,110,115])))) (fun hb25=>?_) (fun hb25=>?_) ?_
      ·refine Ii ?_;refine SO ?_;refine Z3 ?_;refine XA ?_;exact th
      ·refine DY ?_;refine YP ?_;refine Bi ?_;refine TO ?_;refine VK ?_;refine Lu ?_;refine QV ?_;refine A3 (b:=(x22.Name.URI == [])) 5 36 (.bool ((x22.Name.URI == []) && (x22.Name.Local == [120,109,108,110,115]))) (fun hb27=>?_) (fun hb27=>?_) ?_
       ·refine DY ?_;refine YP ?_;refine Bi ?_;refine Z9 ?_;refine VK ?_;refine Lu ?_;refine Yk ?_;exact th
       ·refine Ii ?_;refine TN ?_;exact th
       refine M7 ?_;exact th
      refine A9 ?_;refine AU rfl hF (fun hb28 hF=>?_) fun hb28 hF=>?_
      ·refine Hg ?_;replace hF:=hG18 _ (Ap hF);exact rt
      ·refine Qv ?_;refine ih20 (IntKind.wrap .i64 (a16 + 1)) _ hF ?_;exact ⟨oy ok,wy ok⟩
     ·refine Fh ?_;replace hF:=hG18 _ (Ap hF);exact ⟨(),hF,oy ok,wy ok⟩
   ·rintro ⟨⟩ s' hF ⟨ok,hws⟩;refine AD hws ?_;refine Bw ?_;refine A2 rfl D4 AA (by rw [Ab];rfl) ?_;refine A2 rfl Hz Ay (by rw [Ab];rfl) ?_;refine AE rfl (AK By Ay (congrArg (List.drop 1) (congrArg (List.drop 1) (Ab p0)))) ?_;refine XN ?_;refine F0 ?_;refine A2 rfl Br Ax (by rw [Ab];rfl) ?_;refine AE rfl (AK B3 Ax (congrArg (List.drop 0) (Ab p0))) ?_;refine Za ?_;refine Bf 39 84 hF (fun J30 hb29 hF=>?_) (fun J30 hb29 hF=>?_) (fun v31 hF=>?_)
    ·refine Sw ?_;refine Ye ?_;refine Ye ?_;refine Ye ?_;refine Ye ?_;refine V5 ?_;refine XA ?_;exact tw
    ·refine Ns ?_;refine cl (FU _ hF fun x32 _ hF=>?_);refine QV ?_;refine Bf 35 83 hF (fun J34 hb33 hF=>?_) (fun J34 hb33 hF=>?_) (fun v35 hF=>?_)
     ·refine Ns ?_;refine UA ?_;refine Aa2 ?_;refine Bf 9 61 hF (fun J37 hb36 hF=>?_) (fun J37 hb36 hF=>?_) (fun v38 hF=>?_)
      ·refine Ns ?_;refine Gj rfl rfl AS hF (fun x39 _ hF=>?_);refine Aa2 ?_;refine Bf 4 60 hF (fun J41 hb40 hF=>?_) (fun J41 hb40 hF=>?_) (fun v42 hF=>?_)
       ·refine ZJ ?_;exact tw
       ·refine Ns ?_;refine Gj rfl rfl AS hF (fun x43 _ hF=>?_);refine Yl ?_;refine UH ?_;exact tw
       ·refine VY ?_;exact tw
      ·refine Ii ?_;refine V4 ?_;refine SO ?_;refine TN ?_;exact tw
      ·refine DY ?_;refine Va ?_;refine Bf 9 71 hF (fun J45 hb44 hF=>?_) (fun J45 hb44 hF=>?_) (fun v46 hF=>?_)
       ·refine Ns ?_;refine Gj rfl rfl AS hF (fun x47 _ hF=>?_);refine Aa2 ?_;refine Bf 4 70 hF (fun J49 hb48 hF=>?_) (fun J49 hb48 hF=>?_) (fun v50 hF=>?_)
        ·refine ZJ ?_;exact tw
        ·refine Ns ?_;refine Gj rfl rfl AS hF (fun x51 _ hF=>?_);refine Yl ?_;refine UH ?_;exact tw
        ·refine VY ?_;exact tw
       ·refine Ii ?_;refine V4 ?_;refine SO ?_;refine TN ?_;exact tw
       ·refine DY ?_;refine Va ?_;refine Bf 9 81 hF (fun J53 hb52 hF=>?_) (fun J53 hb52 hF=>?_) (fun v54 hF=>?_)
        ·refine Ns ?_;refine Gj rfl rfl AS hF (fun x55 _ hF=>?_);refine Aa2 ?_;refine Bf 4 80 hF (fun J57 hb56 hF=>?_) (fun J57 hb56 hF=>?_) (fun v58 hF=>?_)
         ·refine ZJ ?_;exact tw
         ·refine Ns ?_;refine Gj rfl rfl AS hF (fun x59 _ hF=>?_);refine Yl ?_;refine UH ?_;exact tw
         ·refine VY ?_;exact tw
        ·refine Ii ?_;refine V4 ?_;refine SO ?_;refine TN ?_;exact tw
        ·refine DY ?_;refine UX ?_;refine Yk ?_;exact tw
     ·refine Ii ?_;refine Ye ?_;refine M9 ?_;refine Ye ?_;refine M9 ?_;refine Ye ?_;refine Xa ?_;exact tw
     ·refine M7 ?_;exact tw
    ·refine Fu ?_;exact rt
theorem Ix {β:Type} {f:Bool -> Option β} {G:β -> Prop} {R:D -> Heap -> Prop} {p0:Ac} (h:Heap) (hF:OptP ((Cl p0).bind f) G) (hk:∀ r,Cl p0=some r -> OptP (f r) G -> R (.bool r) h):CallsA prog 45 [.agg (Ad p0)] h R:=by
 obtain ⟨r0,hr,hF⟩:=A8 hF;refine (Jj (G:=fun r=>r=r0) p0 h ⟨r0,hr,rfl⟩).mono ?_;rintro _ _ ⟨r,rfl,rfl,rfl⟩;exact hk _ hr hF
theorem Iq (p0:Ac) {G:Bool -> Prop} (h:Heap) (hF:OptP (Ce p0) G):CallsA prog 46 [.agg (Ad p0)] h fun d h'=>∃ r,G r /\ d=.bool r /\ h'=h:=by
 refine CallsA.ret ?_;refine AQ func46 rfl Aha ntmps46 rfl (fun ok=>?_);rw [Ce] at hF;refine Bw ?_;refine Cc (v:=.agg (Ad p0)) (cs:=Ad p0) rfl rfl rfl rfl ?_;refine Fg ?_;refine AG hF (fun (_:Unit) s'=>Zs h [] 20 [(1,.iptr (Ad p0))] s') (fun J7 hF=>?_) ?_
 ·refine Bw ?_;refine A2 rfl Bz AW (by rw [Ab];rfl) ?_;refine AE rfl (AK CR AW (congrArg (List.drop 3) (Ab p0))) ?_;refine Aam ?_;refine BA (σ:=Int) hF (fun (a8:Int) s'=>Zs h [] 20 [(1,.iptr (Ad p0)),(6,.sl 3 (List.map Ao p0.Attrs) 0),(7,.int .i64 (p0.Attrs.length:Int)),(8,.int .i64 a8)] s') ?_ ?_
  ·exact ⟨oy ok,wy ok⟩
  ·rintro G9 hG10 rec11 a8 s' ih12 hF ⟨ok,hws⟩;refine AD hws ?_;rw [CE] at hF;refine Im ?_;refine AU rfl hF (fun hb13 hF=>?_) fun hb13 hF=>?_
   ·refine R5 ?_;refine Cy (mdl [(4,1)]) ?_;refine Fr rfl rfl Fp CQ hF (fun x14 _ hF=>?_);refine AE rfl (AX (vs:=Ao x14) Jn CQ rfl rfl) ?_;refine Ca ok rfl Id ?_;intro i15 hi15 ok;refine F3 (j:=0) (cs':=[.str x14.Name.URI,.str x14.Name.Local,.str x14.Value]) ok rfl rfl rfl hi15 rfl CQ rfl rfl (fun ok=>?_);refine F0 ?_;refine DH rfl HH Ay ?_;refine R3 ?_;refine cl (EA _ hF fun x16 _ hF=>?_);refine UJ ?_;refine AU rfl hF (fun hb17 hF=>?_) fun hb17 hF=>?_
    ·refine Hg ?_;replace hF:=hG10 _ (Ap hF);exact rt
    ·refine Qv ?_;refine ih12 (IntKind.wrap .i64 (a8 + 1)) _ hF ?_;exact ⟨oy ok,wy ok⟩
   ·refine Fh ?_;replace hF:=hG10 _ (Ap hF);exact ⟨(),hF,oy ok,wy ok⟩
 ·rintro ⟨⟩ s' hF ⟨ok,hws⟩;refine AD hws ?_;refine Bw ?_;refine A2 rfl Ct Ay (by rw [Ab];rfl) ?_;refine AE rfl (AK By Ay (congrArg (List.drop 5) (Ab p0))) ?_;refine cl (EA _ hF fun x18 _ hF=>?_);refine Fu ?_;exact rt
theorem Ic {β:Type} {f:Bool -> Option β} {G:β -> Prop} {R:D -> Heap -> Prop} {p0:Ac} (h:Heap) (hF:OptP ((Ce p0).bind f) G) (hk:∀ r,Ce p0=some r -> OptP (f r) G -> R (.bool r) h):CallsA prog 46 [.agg (Ad p0)] h R:=by
 obtain ⟨r0,hr,hF⟩:=A8 hF;refine (Iq (G:=fun r=>r=r0) p0 h ⟨r0,hr,rfl⟩).mono ?_;rintro _ _ ⟨r,rfl,rfl,rfl⟩;exact hk _ hr hF
theorem H6 (p0:Aa) (p1:Aa) {G:Bool -> Prop} (h:Heap) (hF:OptP (Dd p0 p1) G):CallsA prog 89 [.agg (Ar p0),.agg (Ar p1)] h fun d h'=>∃ r,G r /\ d=.bool r /\ h'=h:=by
 refine CallsA.ret ?_;refine AQ func89 rfl Agt ntmps89 rfl (fun ok=>?_);rw [Dd] at hF;refine Bw ?_;refine Cc rfl rfl rfl rfl ?_;refine Cc rfl rfl rfl rfl ?_;refine PX ?_;refine Ae5 ?_;refine RB ?_;refine Ae5 ?_;refine RB ?_;refine DN rfl rfl Vb ?_;refine C3 ?_;refine A3 (b:=(Op.bytesLess p0.URI p1.URI)) 13 23 (.bool ((Op.bytesLess p0.URI p1.URI) || ((p0.URI == p1.URI) && (Op.bytesLess p0.Local p1.Local)))) (fun hb1=>?_) (fun hb1=>?_) ?_
 ·refine Ii ?_;refine M9 ?_;refine Z3 ?_;refine Aac ?_;refine XA ?_;exact th
 ·refine Zd ?_;refine Ait ?_;refine Lu ?_;refine QV ?_;refine A3 (b:=(p0.URI == p1.URI)) 6 22 (.bool ((p0.URI == p1.URI) && (Op.bytesLess p0.Local p1.Local))) (fun hb3=>?_) (fun hb3=>?_) ?_
  ·refine DY ?_;refine Aal ?_;refine Afm ?_;refine Aal ?_;refine Afm ?_;refine DN rfl rfl Vb ?_;refine Yk ?_;exact th
  ·refine Ii ?_;refine SO ?_;refine TN ?_;exact th
  refine M7 ?_;exact th
 refine Fu ?_;exact rt
theorem Hw {β:Type} {f:Bool -> Option β} {G:β -> Prop} {R:D -> Heap -> Prop} {p0:Aa} {p1:Aa} (h:Heap) (hF:OptP ((Dd p0 p1).bind f) G) (hk:∀ r,Dd p0 p1=some r -> OptP (f r) G -> R (.bool r) h):CallsA prog 89 [.agg (Ar p0),.agg (Ar p1)] h R:=by
 obtain ⟨r0,hr,hF⟩:=A8 hF;refine (H6 (G:=fun r=>r=r0) p0 p1 h ⟨r0,hr,rfl⟩).mono ?_;rintro _ _ ⟨r,rfl,rfl,rfl⟩;exact hk _ hr hF
theorem Ir (p0:Ac) {G:Bool -> Prop} (h:Heap) (hF:OptP (Cg p0) G):CallsA prog 47 [.agg (Ad p0)] h fun d h'=>∃ r,G r /\ d=.bool r /\ h'=h:=by
 refine CallsA.ret ?_;refine AQ func47 rfl Aio ntmps47 rfl (fun ok=>?_);rw [Cg] at hF;refine Bw ?_;refine Cc (v:=.agg (Ad p0)) (cs:=Ad p0) rfl rfl rfl rfl ?_;refine Fg ?_;refine AG hF (fun (_:Unit) s'=>Zs h [] 26 [] s') (fun J7 hF=>?_) ?_
 ·refine Yt ?_;refine BA (σ:=Int) hF (fun (a8:Int) s'=>Zs h [] 26 [(1,.iptr (Ad p0)),(3,.int .i64 a8)] s') ?_ ?_
  ·exact ⟨oy ok,wy ok⟩
  ·rintro G9 hG10 rec11 a8 s' ih12 hF ⟨ok,hws⟩;refine AD hws ?_;rw [CL] at hF;refine Lq ?_;refine A2 rfl Bz AW (by rw [Ab];rfl) ?_;refine AE rfl (AK CR AW (congrArg (List.drop 3) (Ab p0))) ?_;refine X5 ?_;refine Ob ?_;refine AU rfl hF (fun hb13 hF=>?_) fun hb13 hF=>?_
   ·refine R5 ?_;refine Ho (mdl [(12,3),(17,3),(19,3),(23,3)]) (by kernel_rfl) (by kernel_rfl) ?_;refine A2 rfl Bz AW (by rw [Ab];rfl) ?_;refine AE rfl (AK CR AW (congrArg (List.drop 3) (Ab p0))) ?_;refine Fy ?_;refine Na ?_;refine Fr rfl rfl Fp CQ hF (fun x14 _ hF=>?_);refine XZ ?_;refine AE rfl (AX (vs:=Ar x14.Name) Bv AA rfl rfl) ?_;refine A2 rfl Bz AW (by rw [Ab];rfl) ?_;refine AE rfl (AK CR AW (congrArg (List.drop 3) (Ab p0))) ?_;refine Fy ?_;refine Fr rfl rfl Fp CQ hF (fun x15 _ hF=>?_);refine XZ ?_;refine AE rfl (AX (vs:=Ar x15.Name) Bv AA rfl rfl) ?_;refine cl (Hw _ hF fun x16 _ hF=>?_);refine UJ ?_;refine AU rfl hF (fun hb17 hF=>?_) fun hb17 hF=>?_
    ·refine Hg ?_;replace hF:=hG10 _ (Ap hF);exact rt
    ·refine Dq ?_;refine Rn ?_;refine ih12 (IntKind.wrap .i64 (a8 + 1)) _ hF ?_;exact ⟨oy ok,wy ok⟩
   ·refine Fh ?_;replace hF:=hG10 _ (Ap hF);exact ⟨(),hF,oy ok,wy ok⟩
 ·rintro ⟨⟩ s' hF ⟨ok,hws⟩;refine AD hws ?_;refine Hg ?_;exact rt
theorem HX {β:Type} {f:Bool -> Option β} {G:β -> Prop} {R:D -> Heap -> Prop} {p0:Ac} (h:Heap) (hF:OptP ((Cg p0).bind f) G) (hk:∀ r,Cg p0=some r -> OptP (f r) G -> R (.bool r) h):CallsA prog 47 [.agg (Ad p0)] h R:=by
 obtain ⟨r0,hr,hF⟩:=A8 hF;refine (Ir (G:=fun r=>r=r0) p0 h ⟨r0,hr,rfl⟩).mono ?_;rintro _ _ ⟨r,rfl,rfl,rfl⟩;exact hk _ hr hF
theorem JC (p0:List By8) (p1:List By8) {G:Bool -> Prop} (h:Heap) (hF:OptP (BL p0 p1) G):CallsA prog 90 [.str p0,.str p1] h fun d h'=>∃ r,G r /\ d=.bool r /\ h'=h:=by
 refine CallsA.ret ?_;refine AQ func90 rfl Ah2 ntmps90 rfl (fun ok=>?_);rw [BL] at hF;refine M8 ?_;refine AG hF (fun (_:Unit) s'=>Zs h [] 24 [] s') (fun J5 hF=>?_) ?_
 ·refine Yt ?_;refine BA (σ:=Int) hF (fun (a6:Int) s'=>Zs h [] 24 [(0,.str p0),(1,.str p1),(5,.int .i64 a6)] s') ?_ ?_
  ·exact ⟨oy ok,wy ok⟩
  ·rintro G7 hG8 rec9 a6 s' ih10 hF ⟨ok,hws⟩;refine AD hws ?_;rw [Dc] at hF;refine Lq ?_;refine Zb ?_;refine QA ?_;refine Zb ?_;refine TP ?_;refine A9 ?_;refine AU rfl hF (fun hb11 hF=>?_) fun hb11 hF=>?_
   ·refine Xv ?_;refine YJ ?_;refine Fy ?_;refine Zb ?_;refine QA ?_;refine Km rfl AS (F4 rfl) (F4 rfl) hF (fun x12 _ hF=>?_);refine S5 ?_;refine Abj ?_;refine AU rfl hF (fun hb13 hF=>?_) fun hb13 hF=>?_
    ·refine Hg ?_;replace hF:=hG8 _ (Ap hF);exact rt
    ·refine Dq ?_;refine Rn ?_;refine ih10 (IntKind.wrap .i64 (a6 + 1)) _ hF ?_;exact ⟨oy ok,wy ok⟩
   ·refine Fh ?_;replace hF:=hG8 _ (Ap hF);exact ⟨(),hF,oy ok,wy ok⟩
 ·rintro ⟨⟩ s' hF ⟨ok,hws⟩;refine AD hws ?_;refine Hg ?_;exact rt
theorem DT {β:Type} {f:Bool -> Option β} {G:β -> Prop} {R:D -> Heap -> Prop} {p0:List By8} {p1:List By8} (h:Heap) (hF:OptP ((BL p0 p1).bind f) G) (hk:∀ r,BL p0 p1=some r -> OptP (f r) G -> R (.bool r) h):CallsA prog 90 [.str p0,.str p1] h R:=by
 obtain ⟨r0,hr,hF⟩:=A8 hF;refine (JC (G:=fun r=>r=r0) p0 p1 h ⟨r0,hr,rfl⟩).mono ?_;rintro _ _ ⟨r,rfl,rfl,rfl⟩;exact hk _ hr hF
theorem IZ (p0 : Ac) {G : Bool -> Prop} (h : Heap) (hF : OptP (Cs p0) G) : CallsA prog 48 [.agg (Ad p0)] h fun d h' => ∃ r, G r /\ d = .bool r /\ h' = h := by
 refine CallsA.ret ?_;refine AQ func48 rfl Af4 ntmps48 rfl (fun ok=>?_);rw [Cs] at hF;refine Bw ?_;refine Cc (v:=.agg (Ad p0)) (cs:=Ad p0) rfl rfl rfl rfl ?_;refine Fg ?_;refine AG hF (fun (_:Unit) s'=>Zs h [] 88 [(1,.iptr (Ad p0))] s') (fun J9 hF=>?_) ?_
 ·refine Yt ?_;refine BA (σ:=Int) hF (fun (a10:Int) s'=>Zs h [] 88 [(1,.iptr (Ad p0)),(3,.int .i64 a10)] s') ?_ ?_
  ·exact ⟨oy ok,wy ok⟩
  ·rintro G11 hG12 rec13 a10 s' ih14 hF ⟨ok,hws⟩;refine AD hws ?_;rw [CZ] at hF;refine Lq ?_;refine A2 rfl B0 Bj (by rw [Ab];rfl) ?_;refine AE rfl (AK Dv Bj (congrArg (List.drop 4) (Ab p0))) ?_;refine Aau ?_;refine Ob ?_;refine AU rfl hF (fun hb15 hF=>?_) fun hb15 hF=>?_
   ·refine Xv ?_;refine Bw ?_;refine A2 rfl B0 Bj (by rw [Ab];rfl) ?_;refine AE rfl (AK Dv Bj (congrArg (List.drop 4) (Ab p0))) ?_;refine Fy ?_;refine Fr rfl rfl Dt Aw hF (fun x16 _ hF=>?_);refine A2 rfl Br Ax (by rw [Ab];rfl) ?_;refine AE rfl (AK B3 Ax (congrArg (List.drop 0) (Ab x16))) ?_;refine Qp ?_;refine Bf 9 28 hF (fun J18 hb17 hF=>?_) (fun J18 hb17 hF=>?_) (fun v19 hF=>?_)
    ·refine DY ?_;refine A2 rfl B0 Bj (by rw [Ab];rfl) ?_;refine Bi ?_;refine AE rfl (AK Dv Bj (congrArg (List.drop 4) (Ab p0))) ?_;refine Zf ?_;refine Fr rfl rfl Dt Aw hF (fun x20 _ hF=>?_);refine Bi ?_;refine A2 rfl Br Ax (by rw [Ab];rfl) ?_;refine Bi ?_;refine AE rfl (AK B3 Ax (congrArg (List.drop 0) (Ab x20))) ?_;refine TK ?_;exact tw
    ·refine Qz ?_;refine M7 ?_;exact tw
    ·refine A9 ?_;refine AU rfl hF (fun hb21 hF=>?_) fun hb21 hF=>?_
     ·refine Hg ?_;replace hF:=hG12 _ (Ap hF);exact rt
     ·refine Dq ?_;refine Rn ?_;refine ih14 (IntKind.wrap .i64 (a10 + 1)) _ hF ?_;exact ⟨oy ok,wy ok⟩
   ·refine Fh ?_;replace hF:=hG12 _ (Ap hF);exact ⟨(),hF,oy ok,wy ok⟩
 ·rintro ⟨⟩ s' hF ⟨ok, hws⟩;refine AD hws ?_;refine Bw ?_;refine A2 rfl Ct Ay (by rw [Ab]; rfl) ?_;refine AE rfl (AK By Ay (congrArg (List.drop 5) (Ab p0))) ?_;refine XN ?_;refine ZO ?_;refine A2 rfl Br Ax (by rw [Ab]; rfl) ?_;refine AE rfl (AK B3 Ax (congrArg (List.drop 0) (Ab p0))) ?_;refine Yv ?_;refine AU rfl hF (fun hb22 hF => ?_) fun hb22 hF => ?_
  ·refine Nw ?_;refine YQ ?_;refine Fu ?_;exact rt
  ·refine Qw ?_;refine AU rfl hF (fun hb23 hF=>?_) fun hb23 hF=>?_
   ·refine Nw ?_;refine cl (DT _ hF fun x24 _ hF=>?_);refine V0 ?_;refine Bf 4 46 hF (fun J26 hb25 hF=>?_) (fun J26 hb25 hF=>?_) (fun v27 hF=>?_)
    ·refine Ns ?_;refine cl (DT _ hF fun x28 _ hF=>?_);refine Aay ?_;exact tw
    ·refine Pc ?_;exact tw
    ·refine C3 ?_;refine Bf 11 58 hF (fun J30 hb29 hF=>?_) (fun J30 hb29 hF=>?_) (fun v31 hF=>?_)
     ·refine Ns ?_;refine Lu ?_;refine QV ?_;refine Bf 7 57 hF (fun J33 hb32 hF=>?_) (fun J33 hb32 hF=>?_) (fun v34 hF=>?_)
      ·refine Ii ?_;refine M9 ?_;refine VY ?_;exact tw
      ·refine Ns ?_;refine Z1 ?_;refine Xg ?_;refine Aft ?_;refine Gj rfl rfl AS hF (fun x35 _ hF=>?_);refine Aar ?_;refine UH ?_;exact tw
      ·refine SD ?_;exact tw
     ·refine Sw ?_;refine Z3 ?_;refine V5 ?_;refine Sq ?_;exact tw
     ·refine Fu ?_;exact rt
   ·refine Qw ?_;refine AU rfl hF (fun hb36 hF=>?_) fun hb36 hF=>?_
    ·refine Nw ?_;refine cl (DT _ hF fun x37 _ hF=>?_);refine V0 ?_;refine Bf 4 68 hF (fun J39 hb38 hF=>?_) (fun J39 hb38 hF=>?_) (fun v40 hF=>?_)
     ·refine Ns ?_;refine cl (DT _ hF fun x41 _ hF=>?_);refine Aay ?_;exact tw
     ·refine Pc ?_;exact tw
     ·refine C3 ?_;refine Bf 18 87 hF (fun J43 hb42 hF=>?_) (fun J43 hb42 hF=>?_) (fun v44 hF=>?_)
      ·refine Ns ?_;refine Lu ?_;refine QV ?_;refine Bf 14 86 hF (fun J46 hb45 hF=>?_) (fun J46 hb45 hF=>?_) (fun v47 hF=>?_)
       ·refine Ii ?_;refine V4 ?_;refine M9 ?_;refine V4 ?_;refine SO ?_;refine VY ?_;exact tw
       ·refine Ns ?_;refine Gj rfl rfl AS hF (fun x48 _ hF=>?_);refine Aar ?_;refine QV ?_;refine Bf 4 80 hF (fun J50 hb49 hF=>?_) (fun J50 hb49 hF=>?_) (fun v51 hF=>?_)
        ·refine Ns ?_;refine Gj rfl rfl AS hF (fun x52 _ hF=>?_);refine Aar ?_;refine Yk ?_;exact tw
        ·refine Sw ?_;refine TN ?_;exact tw
        ·refine DY ?_;refine Va ?_;refine Bf 4 85 hF (fun J54 hb53 hF=>?_) (fun J54 hb53 hF=>?_) (fun v55 hF=>?_)
         ·refine Ns ?_;refine Gj rfl rfl AS hF (fun x56 _ hF=>?_);refine Aar ?_;refine Yk ?_;exact tw
         ·refine Sw ?_;refine TN ?_;exact tw
         ·refine TN ?_;exact tw
       ·refine SD ?_;exact tw
      ·refine Sw ?_;refine Ye ?_;refine Z3 ?_;refine Aac ?_;refine Sq ?_;exact tw
      ·refine Fu ?_;exact rt
    ·refine VS ?_;exact rt
theorem Ip {β:Type} {f:Bool -> Option β} {G:β -> Prop} {R:D -> Heap -> Prop} {p0:Ac} (h:Heap) (hF:OptP ((Cs p0).bind f) G) (hk:∀ r,Cs p0=some r -> OptP (f r) G -> R (.bool r) h):CallsA prog 48 [.agg (Ad p0)] h R:=by
 obtain ⟨r0,hr,hF⟩:=A8 hF;refine (IZ (G:=fun r=>r=r0) p0 h ⟨r0,hr,rfl⟩).mono ?_;rintro _ _ ⟨r,rfl,rfl,rfl⟩;exact hk _ hr hF
theorem Iv (p0 : Ac) {G : Int -> Prop} (h : Heap) (hF : OptP (BE p0) G) : CallsA prog 15 [.agg (Ad p0)] h fun d h' => ∃ r, G r /\ d = .int .i64 r /\ h' = h := by
 refine CallsA.ret ?_;refine AQ func15 rfl Aig ntmps15 rfl (fun ok=>?_);rw [BE] at hF;refine Bw ?_;refine Cc (v:=.agg (Ad p0)) (cs:=Ad p0) rfl rfl rfl rfl ?_;refine IS ?_;refine VQ ?_;refine A2 rfl Br Ax (by rw [Ab];rfl) ?_;refine AE rfl (AK B3 Ax (congrArg (List.drop 0) (Ab p0))) ?_;refine Tg ?_;refine AU rfl hF (fun hb1 hF=>?_) fun hb1 hF=>?_
 ·refine Lr ?_;exact rt
 ·refine TR ?_;refine AE rfl (AX (vs := Ad p0) A6 Aw (by rw [Ab]; rfl) (by rw [Ab]; rfl)) ?_;refine cl (FT _ hF fun x2 _ hF => ?_);refine Yo ?_;refine Jk ?_;refine Cy (mdl [(4, 1)]) ?_;refine AE rfl (AX (vs := Ad p0) A6 Aw (by rw [Ab]; rfl) (by rw [Ab]; rfl)) ?_;refine cl (Iu _ hF fun x3 _ hF => ?_);refine UX ?_;refine Kl ?_;refine Aau ?_;refine TP ?_;refine Dz (v := .agg [.bool true, .bool (!x3), .bool (decide ((x2.length : Int) <= 2001)), .bool true, .bool true, .bool true, .bool true]) (Adb RR WG EJ BN rfl) ?_;refine Ca ok rfl RR ?_;intro i4 hi4 ok;refine F3 (j := 0) (cs' := [.bool true, .bool (!x3), .bool (decide ((x2.length : Int) <= 2001)), .bool true, .bool true, .bool true, .bool true]) ok rfl rfl rfl hi4 rfl Wv rfl rfl (fun ok => ?_);refine F0 ?_;refine IS ?_;refine AG hF (fun (v : Bool × Bool × Bool × Bool × Bool × Bool × Bool) s' => match v with | (a40, a41, a42, a43, a44, a45, a46) => Zs h [(i4, .cells [.bool a40, .bool a41, .bool a42, .bool a43, .bool a44, .bool a45, .bool a46])] 98 [(1, .iptr (Ad p0)), (4, .ptr i4 0), (5, .int .i64 0)] s') (fun J47 hF => ?_) ?_
  ·refine Ki ?_;refine Tc ?_;refine BA (σ := Bool × Bool × Bool × Bool × Bool × Bool × Bool × Int) hF (fun (v : Bool × Bool × Bool × Bool × Bool × Bool × Bool × Int) s' => match v with | (a48, a49, a50, a51, a52, a53, a54, a55) => Zs h [(i4, .cells [.bool a48, .bool a49, .bool a50, .bool a51, .bool a52, .bool a53, .bool a54])] 98 [(1, .iptr (Ad p0)), (4, .ptr i4 0), (5, .int .i64 0), (23, .sl 6 (List.map Ad x2) 0), (24, .int .i64 (x2.length : Int)), (25, .int .i64 a55)] s') ?_ ?_
   ·exact ⟨oy ok,wy ok⟩
   ·rintro G56 hG57 rec58 ⟨a48,a49,a50,a51,a52,a53,a54,a55⟩ s' ih59 hF ⟨ok,hws⟩;refine AD hws ?_;rw [Cb] at hF;refine Im ?_;refine AU rfl hF (fun hb60 hF=>?_) fun hb60 hF=>?_
    ·refine R5 ?_;refine Cy (mdl [(7,1)]) ?_;refine Fr rfl rfl Dt Aw hF (fun x61 _ hF=>?_);refine AE rfl (AX (vs:=Ad x61) A6 Aw (by rw [Ab];rfl) (by rw [Ab];rfl)) ?_;refine Ca ok rfl DI ?_;intro i62 hi62 ok;refine F3 (j:=0) (cs':=[.int .i64 x61.Kind,.str x61.Name.URI,.str x61.Name.Local,.sl 3 (List.map Ao x61.Attrs) 0,.sl 6 (List.map Ad x61.Kids) 0,.str x61.Text]) ok rfl (congrArg D.agg (Ab x61)) rfl hi62 rfl Aw rfl rfl (fun ok=>?_);refine F0 ?_;refine Lw (i:=0) rfl rfl EJ BN rfl ?_;refine Abk ?_;refine Bf 3 34 hF (fun J64 hb63 hF=>?_) (fun J64 hb63 hF=>?_) (fun v65 hF=>?_)
     ·refine DY ?_;refine Cr (j:=0) ok rfl rfl rfl hi62 (AX (vs:=Ad x61) A6 Aw rfl (Ab x61).symm) ?_;refine Bi ?_;refine cl (It _ hF fun x66 _ hF=>?_);refine Gp ?_;exact tw
     ·refine Ht ?_;exact tw
     ·refine Lw (i:=0) rfl rfl EJ BN rfl ?_;refine st_ 1 ok hi4 BN (fun ok=>?_);refine F0 ?_;refine Lw (i:=2) rfl rfl EJ BN rfl ?_;refine Abk ?_;refine Bf 3 41 hF (fun J68 hb67 hF=>?_) (fun J68 hb67 hF=>?_) (fun v69 hF=>?_)
      ·refine DY ?_;refine Cr (j:=0) ok rfl rfl rfl hi62 (AX (vs:=Ad x61) A6 Aw rfl (Ab x61).symm) ?_;refine Bi ?_;refine cl (Io _ hF fun x70 _ hF=>?_);refine Gp ?_;exact tw
      ·refine Ht ?_;exact tw
      ·refine Lw (i:=2) rfl rfl EJ BN rfl ?_;refine st_ 1 ok hi4 BN (fun ok=>?_);refine F0 ?_;refine Lw (i:=3) rfl rfl EJ BN rfl ?_;refine Abk ?_;refine Bf 3 48 hF (fun J72 hb71 hF=>?_) (fun J72 hb71 hF=>?_) (fun v73 hF=>?_)
       ·refine DY ?_;refine Cr (j:=0) ok rfl rfl rfl hi62 (AX (vs:=Ad x61) A6 Aw rfl (Ab x61).symm) ?_;refine Bi ?_;refine cl (Ix _ hF fun x74 _ hF=>?_);refine Gp ?_;exact tw
       ·refine Ht ?_;exact tw
       ·refine Lw (i:=3) rfl rfl EJ BN rfl ?_;refine st_ 1 ok hi4 BN (fun ok=>?_);refine F0 ?_;refine Lw (i:=4) rfl rfl EJ BN rfl ?_;refine Abk ?_;refine Bf 3 55 hF (fun J76 hb75 hF=>?_) (fun J76 hb75 hF=>?_) (fun v77 hF=>?_)
        ·refine DY ?_;refine Cr (j:=0) ok rfl rfl rfl hi62 (AX (vs:=Ad x61) A6 Aw rfl (Ab x61).symm) ?_;refine Bi ?_;refine cl (Ic _ hF fun x78 _ hF=>?_);refine Gp ?_;exact tw
        ·refine Ht ?_;exact tw
        ·refine Lw (i:=4) rfl rfl EJ BN rfl ?_;refine st_ 1 ok hi4 BN (fun ok=>?_);refine F0 ?_;refine Lw (i:=5) rfl rfl EJ BN rfl ?_;refine Abk ?_;refine Bf 3 62 hF (fun J80 hb79 hF=>?_) (fun J80 hb79 hF=>?_) (fun v81 hF=>?_)
         ·refine DY ?_;refine Cr (j:=0) ok rfl rfl rfl hi62 (AX (vs:=Ad x61) A6 Aw rfl (Ab x61).symm) ?_;refine Bi ?_;refine cl (HX _ hF fun x82 _ hF=>?_);refine Gp ?_;exact tw
         ·refine Ht ?_;exact tw
         ·refine Lw (i:=5) rfl rfl EJ BN rfl ?_;refine st_ 1 ok hi4 BN (fun ok=>?_);refine A9 ?_;refine Nf ?_;refine Lw (i:=6) rfl rfl EJ BN rfl ?_;refine Abk ?_;refine Bf 3 69 hF (fun J84 hb83 hF=>?_) (fun J84 hb83 hF=>?_) (fun v85 hF=>?_)
          ·refine DY ?_;refine Cr (j:=0) ok rfl rfl rfl hi62 (AX (vs:=Ad x61) A6 Aw rfl (Ab x61).symm) ?_;refine Bi ?_;refine cl (Ip _ hF fun x86 _ hF=>?_);refine Gp ?_;exact tw
          ·refine Ht ?_;exact tw
          ·refine Lw (i:=6) rfl rfl EJ BN rfl ?_;refine st_ 1 ok hi4 BN (fun ok=>?_);refine A9 ?_;refine Nb ?_;refine ih59 (v65,a49,v69,v73,v77,v81,v85,(IntKind.wrap .i64 (a55 + 1))) _ hF ?_;exact ⟨oy ok,wy ok⟩
    ·refine Fh ?_;replace hF:=hG57 _ (Ap hF);exact ⟨(a48,a49,a50,a51,a52,a53,a54),hF,oy ok,wy ok⟩
  ·rintro ⟨a40,a41,a42,a43,a44,a45,a46⟩ s' hF ⟨ok,hws⟩;refine AD hws ?_;refine AG hF (fun (a97:Int) s'=>Zs h [(i4,.cells [.bool a40,.bool a41,.bool a42,.bool a43,.bool a44,.bool a45,.bool a46])] 98 [(4,.ptr i4 0),(5,.int .i64 a97)] s') (fun J98 hF=>?_) ?_
   ·refine Bw ?_;refine A2 rfl B0 Bj (by rw [Ab];rfl) ?_;refine AE rfl (AK Dv Bj (congrArg (List.drop 4) (Ab p0))) ?_;refine Tc ?_;refine BA (σ:=Int × Int) hF (fun (v:Int × Int) s'=>match v with | (a99,a100)=>Zs h [(i4,.cells [.bool a40,.bool a41,.bool a42,.bool a43,.bool a44,.bool a45,.bool a46])] 98 [(4,.ptr i4 0),(5,.int .i64 a99),(73,.sl 6 (List.map Ad p0.Kids) 0),(74,.int .i64 (p0.Kids.length:Int)),(75,.int .i64 a100)] s') ?_ ?_
    ·exact ⟨oy ok,wy ok⟩
    ·rintro G101 hG102 rec103 ⟨a99,a100⟩ s' ih104 hF ⟨ok,hws⟩;refine AD hws ?_;rw [CG] at hF;refine Im ?_;refine AU rfl hF (fun hb105 hF=>?_) fun hb105 hF=>?_
     ·refine Dq ?_;refine AG hF (fun (a109:Int) s'=>Zs h [(i4,.cells [.bool a40,.bool a41,.bool a42,.bool a43,.bool a44,.bool a45,.bool a46])] 98 [(4,.ptr i4 0),(5,.int .i64 a109),(73,.sl 6 (List.map Ad p0.Kids) 0),(74,.int .i64 (p0.Kids.length:Int)),(75,.int .i64 a100)] s') (fun J110 hF=>?_) ?_
      ·refine Qy ?_;refine Cy (mdl [(9,1)]) ?_;refine Fr rfl rfl Dt Aw hF (fun x111 _ hF=>?_);refine AE rfl (AX (vs:=Ad x111) A6 Aw (by rw [Ab];rfl) (by rw [Ab];rfl)) ?_;refine Ca ok rfl DI ?_;intro i112 hi112 ok;refine F3 (j:=0) (cs':=[.int .i64 x111.Kind,.str x111.Name.URI,.str x111.Name.Local,.sl 3 (List.map Ao x111.Attrs) 0,.sl 6 (List.map Ad x111.Kids) 0,.str x111.Text]) ok rfl (congrArg D.agg (Ab x111)) rfl hi112 rfl Aw rfl rfl (fun ok=>?_);refine F0 ?_;refine YO ?_;refine SV ?_;refine Q8 ?_;refine AU rfl hF (fun hb113 hF=>?_) fun hb113 hF=>?_
       ·refine Rn ?_;exact ⟨(IntKind.wrap .i64 (a99 + 1)),hF,oy ok,wy ok⟩
       ·refine Dq ?_;exact ⟨a99,hF,oy ok,wy ok⟩
      ·rintro a109 s' hF ⟨ok,hws⟩;refine AD hws ?_;refine Nb ?_;refine ih104 (a109,(IntKind.wrap .i64 (a100 + 1))) _ hF ?_;exact ⟨oy ok,wy ok⟩
     ·refine Fh ?_;replace hF:=hG102 _ (Ap hF);exact ⟨a99,hF,oy ok,wy ok⟩
   ·rintro a97 s' hF ⟨ok,hws⟩;refine AD hws ?_;refine AG hF (fun (_:Unit) s'=>Zs h [] 98 [(5,.int .i64 a97)] s') (fun J119 hF=>?_) ?_
    ·refine Gz ?_;refine Abm ?_;refine BA (σ:=Int) hF (fun (a120:Int) s'=>Zs h [(i4,.cells [.bool a40,.bool a41,.bool a42,.bool a43,.bool a44,.bool a45,.bool a46])] 98 [(4,.ptr i4 0),(5,.int .i64 a97),(85,.int .i64 a120)] s') ?_ ?_
     ·exact ⟨oy ok,wy ok⟩
     ·rintro G121 hG122 rec123 a120 s' ih124 hF ⟨ok,hws⟩;refine AD hws ?_;rw [Er] at hF;refine Im ?_;refine AU rfl hF (fun hb125 hF=>?_) fun hb125 hF=>?_
      ·refine WR ?_;refine Gz ?_;refine Af8 (a:=([a40,a41,a42,a43,a44,a45,a46]:List Bool)) rfl rfl EJ BN hF (fun x126 hxx126 hF=>?_);refine Cr (j:=0) ok rfl rfl rfl hi4 (Agg (g:=D.bool) (a:=([a40,a41,a42,a43,a44,a45,a46]:List Bool)) hxx126 MN BN) ?_;refine UJ ?_;refine AU rfl hF (fun hb127 hF=>?_) fun hb127 hF=>?_
       ·refine Bw ?_;refine Dz (v:=.agg (List.map (D.int .i64) [33,31,5,24,21,34,32])) (Adb Xy WM RH Ax rfl) ?_;refine Fy ?_;refine Aik (g:=(D.int .i64)) rfl rfl RH Ax B3 hF (fun x128 _ hF=>?_);refine W8 ?_;replace hF:=hG122 _ (Ap hF);exact rt
       ·refine Qv ?_;refine ih124 (IntKind.wrap .i64 (a120 + 1)) _ hF ?_;exact ⟨oy ok,wy ok⟩
      ·refine Fh ?_;replace hF:=hG122 _ (Ap hF);exact ⟨(),hF,oy ok,wy ok⟩
    ·rintro ⟨⟩ s' hF ⟨ok,hws⟩;refine AD hws ?_;refine Lq ?_;refine Tg ?_;refine AU rfl hF (fun hb129 hF=>?_) fun hb129 hF=>?_
     ·refine Lr ?_;exact rt
     ·refine YT ?_;exact rt
theorem HY {β:Type} {f:Int -> Option β} {G:β -> Prop} {R:D -> Heap -> Prop} {p0:Ac} (h:Heap) (hF:OptP ((BE p0).bind f) G) (hk:∀ r,BE p0=some r -> OptP (f r) G -> R (.int .i64 r) h):CallsA prog 15 [.agg (Ad p0)] h R:=by
 obtain ⟨r0,hr,hF⟩:=A8 hF;refine (Iv (G:=fun r=>r=r0) p0 h ⟨r0,hr,rfl⟩).mono ?_;rintro _ _ ⟨r,rfl,rfl,rfl⟩;exact hk _ hr hF
theorem Iz:∀ (N:Nat) (v:Ac) (G:(List (List Int)) -> Prop) (h:Heap),OptP (iter BD N v) G -> CallsA prog 19 [.agg (Ad v)] h fun d h'=>∃ r,G r /\ d=.sl 1 (List.map (NW 1 B1) r) 0 /\ h'=h:=by
 intro N
 induction N with
 | zero=>intro v G h hF;exact Lj hF
 | succ N ih0=>
 intro p0 G h hF;show CallsA prog 19 [.agg (Ad p0)] h fun d h'=>∃ r,G r /\ d=.sl 1 (List.map (NW 1 B1) r) 0 /\ h'=h;replace hF:OptP (BD (iter BD N) p0) G:=hF;refine CallsA.ret ?_;refine AQ func19 rfl Ahl ntmps19 rfl (fun ok=>?_);rw [BD] at hF;refine Bw ?_;refine Cc (v:=.agg (Ad p0)) (cs:=Ad p0) rfl rfl rfl rfl ?_;refine S_a (v:=.snil) rfl ?_;refine Em 2 (v:=.sl 1 (List.map (NW 1 B1) []) 0) (.nil _) ?_;refine Jk ?_;refine Cy (mdl [(9,2)]) ?_;refine Dh (cs:=[]) (es:=(List.map B1 ([]:List Int))) rfl Fa rfl (by kernel_rfl) (by kernel_rfl) ?_;refine PQ (cs:=[.sl 1 (List.map B1 ([]:List Int)) 0]) (es:=(List.map (NW 1 B1) [[]])) ok rfl On rfl (by kernel_rfl) (by kernel_rfl) ?_;intro r1 hr1 ok;refine Rz ?_;refine AG hF (fun (a30:(List (List Int))) s'=>∃ g31:Nat,g31 ≠ 0 /\ Zs h [(g31,.room)] 35 [(3,.sl 1 (List.map (NW 1 B1) a30) g31)] s') (fun J32 hF=>?_) ?_
 ·refine Bw ?_;refine A2 rfl B0 Bj (by rw [Ab];rfl) ?_;refine AE rfl (AK Dv Bj (congrArg (List.drop 4) (Ab p0))) ?_;refine Tc ?_;refine BA (σ:=(List (List Int)) × Int) hF (fun (v:(List (List Int)) × Int) s'=>match v with | (a33,a35)=>∃ g34:Nat,g34 ≠ 0 /\ Zs h [(g34,.room)] 35 [(3,.sl 1 (List.map (NW 1 B1) a33) g34),(11,.sl 6 (List.map Ad p0.Kids) 0),(12,.int .i64 (p0.Kids.length:Int)),(13,.int .i64 a35)] s') ?_ ?_
  ·exact ⟨r1,hr1,oy ok,wy ok⟩
  ·rintro G36 hG37 rec38 ⟨a33,a35⟩ s' ih39 hF ⟨g34,hg34,ok,hws⟩;refine AD hws ?_;rw [CI] at hF;refine Im ?_;refine AU rfl hF (fun hb40 hF=>?_) fun hb40 hF=>?_
   ·refine Dq ?_;refine AG hF (fun (a52:(List (List Int))) s'=>∃ g53:Nat,g53 ≠ 0 /\ Zs h [(g53,.room)] 35 [(3,.sl 1 (List.map (NW 1 B1) a52) g53),(11,.sl 6 (List.map Ad p0.Kids) 0),(12,.int .i64 (p0.Kids.length:Int)),(13,.int .i64 a35)] s') (fun J54 hF=>?_) ?_
    ·refine Qy ?_;refine Cy (mdl [(5,1)]) ?_;refine Fy ?_;refine Fr rfl rfl Dt Aw hF (fun x55 _ hF=>?_);refine AE rfl (AX (vs:=Ad x55) A6 Aw (by rw [Ab];rfl) (by rw [Ab];rfl)) ?_;refine Ca ok rfl DI ?_;intro i56 hi56 ok;refine JZ ?_;refine F3 (j:=0) (cs':=[.int .i64 x55.Kind,.str x55.Name.URI,.str x55.Name.Local,.sl 3 (List.map Ao x55.Attrs) 0,.sl 6 (List.map Ad x55.Kids) 0,.str x55.Text]) ok rfl (congrArg D.agg (Ab x55)) rfl hi56 rfl Aw rfl rfl (fun ok=>?_);refine F0 ?_;refine Cr (j:=0) ok rfl rfl rfl hi56 (AX (vs:=Ad x55) A6 Aw rfl (Ab x55).symm) ?_;refine cl (BX (enc:=fun r=>.sl 1 (List.map (NW 1 B1) r) 0) (fun G h hF=>ih0 x55 G h hF) _ hF fun x57 _ hF=>?_);refine FA rfl Ox ?_;refine Ow ?_;refine BA (σ:=(List (List Int)) × Int) hF (fun (v:(List (List Int)) × Int) s'=>match v with | (a58,a60)=>∃ g59:Nat,g59 ≠ 0 /\ Zs h [(g59,.room)] 35 [(3,.sl 1 (List.map (NW 1 B1) a58) g59),(4,.int .i64 a35),(11,.sl 6 (List.map Ad p0.Kids) 0),(12,.int .i64 (p0.Kids.length:Int)),(13,.int .i64 a35),(19,.sl 1 (List.map (NW 1 B1) x57) 0),(20,.int .i64 (x57.length:Int)),(21,.int .i64 a60)] s') ?_ ?_
     ·exact ⟨g34,hg34,oy ok,wy ok⟩
     ·rintro G61 hG62 rec63 ⟨a58,a60⟩ s' ih64 hF ⟨g59,hg59,ok,hws⟩;refine AD hws ?_;rw [CC] at hF;refine Im ?_;refine AU rfl hF (fun hb65 hF=>?_) fun hb65 hF=>?_
      ·refine Xv ?_;refine Bw ?_;refine Fr rfl rfl Ox H7 hF (fun x66 _ hF=>?_);refine Aa6 ?_;refine Rz ?_;refine Cy (mdl [(27,2),(29,2),(31,2)]) ?_;refine YC ?_;refine PQ (cs:=[.int .i64 a35]) (es:=(List.map B1 [a35])) ok rfl Fa rfl (by kernel_rfl) (by kernel_rfl) ?_;intro r67 hr67 ok;refine Kl ?_;refine Gq (j:=0) ok rfl rfl rfl rfl hr67 Fa KM hF ?_;intro r68 hr68 ok hF;refine Em 29 (v:=.sl 1 (List.map B1 ([a35] ++ x66)) 0) (.zero _ _ _) ?_;refine Dh (cs:=[.sl 1 (List.map B1 ([a35] ++ x66)) 0]) (es:=(List.map (NW 1 B1) [([a35] ++ x66)])) rfl On rfl (by kernel_rfl) (by kernel_rfl) ?_;refine Gq (j:=1) ok rfl rfl rfl rfl hg59 On Xl hF ?_;intro r69 hr69 ok hF;refine Rz ?_;refine Nb ?_;refine ih64 ((a58 ++ [([a35] ++ x66)]),(IntKind.wrap .i64 (a60 + 1))) _ hF ?_;exact ⟨r69,hr69,oy ok,wy ok⟩
      ·refine Fh ?_;replace hF:=hG62 _ (Ap hF);exact ⟨a58,hF,g59,hg59,oy ok,wy ok⟩
    ·rintro a52 s' hF ⟨g53,hg53,ok,hws⟩;refine AD hws ?_;refine Nb ?_;refine ih39 (a52,(IntKind.wrap .i64 (a35 + 1))) _ hF ?_;exact ⟨g53,hg53,oy ok,wy ok⟩
   ·refine Fh ?_;replace hF:=hG37 _ (Ap hF);exact ⟨a33,hF,g34,hg34,oy ok,wy ok⟩
 ·rintro a30 s' hF ⟨g31,hg31,ok,hws⟩;refine AD hws ?_;refine Ki ?_;refine Em 34 (v:=.sl 1 (List.map (NW 1 B1) a30) 0) (.zero _ _ _) ?_;refine Aa5 ?_;exact rt
theorem IC (p0:Ac) {G:(List (List Int)) -> Prop} (h:Heap) (hF:OptP (Dm p0) G):CallsA prog 19 [.agg (Ad p0)] h fun d h'=>∃ r,G r /\ d=.sl 1 (List.map (NW 1 B1) r) 0 /\ h'=h:=Iz FUEL p0 G h hF
theorem H3 {β:Type} {f:(List (List Int)) -> Option β} {G:β -> Prop} {R:D -> Heap -> Prop} {p0:Ac} (h:Heap) (hF:OptP ((Dm p0).bind f) G) (hk:∀ r,Dm p0=some r -> OptP (f r) G -> R (.sl 1 (List.map (NW 1 B1) r) 0) h):CallsA prog 19 [.agg (Ad p0)] h R:=by
 obtain ⟨r0,hr,hF⟩:=A8 hF;refine (IC (G:=fun r=>r=r0) p0 h ⟨r0,hr,rfl⟩).mono ?_;rintro _ _ ⟨r,rfl,rfl,rfl⟩;exact hk _ hr hF
theorem Lb (p0:Al) (p1:Al) {G:Int -> Prop} (h:Heap) (hF:OptP (EV p0 p1) G):CallsA prog 23 [.agg (Au p0),.agg (Au p1)] h fun d h'=>∃ r,G r /\ d=.int .i64 r /\ h'=h:=by
 refine CallsA.ret ?_;refine AQ func23 rfl Agn ntmps23 rfl (fun ok=>?_);rw [EV] at hF;refine Bw ?_;refine Cc rfl rfl rfl rfl ?_;refine Cc rfl rfl rfl rfl ?_;refine IS ?_;refine AG hF (fun (_:Unit) s'=>Zs h [] 61 [(2,.iptr (Au p0)),(3,.iptr (Au p1))] s') (fun J7 hF=>?_) ?_
 ·refine Bw ?_;refine Aap ?_;refine V3 ?_;refine Aap ?_;refine V3 ?_;refine Aei rfl rfl ?_;refine Ow ?_;refine BA (σ:=Int) hF (fun (a8:Int) s'=>Zs h [] 61 [(2,.iptr (Au p0)),(3,.iptr (Au p1)),(14,.int .i64 (if (p1.Steps.length:Int) < (p0.Steps.length:Int) then (p1.Steps.length:Int) else (p0.Steps.length:Int))),(15,.int .i64 a8)] s') ?_ ?_
  ·exact ⟨oy ok,wy ok⟩
  ·rintro G9 hG10 rec11 a8 s' ih12 hF ⟨ok,hws⟩;refine AD hws ?_;rw [Dg] at hF;refine Im ?_;refine AU rfl hF (fun hb13 hF=>?_) fun hb13 hF=>?_
   ·refine WR ?_;refine Hs ?_;refine Ho (mdl [(19,3),(22,3),(24,3),(27,3)]) (by kernel_rfl) (by kernel_rfl) ?_;refine Aap ?_;refine Fy ?_;refine Fr rfl rfl Fo Ax hF (fun x14 _ hF=>?_);refine X9 ?_;refine Aap ?_;refine Fy ?_;refine Fr rfl rfl Fo Ax hF (fun x15 _ hF=>?_);refine X9 ?_;refine cl (BX (fun _ h hF=>GL _ _ h hF) _ hF fun x16 _ hF=>?_);refine IS ?_;refine Afc ?_;refine AU rfl hF (fun hb17 hF=>?_) fun hb17 hF=>?_
    ·refine We ?_;replace hF:=hG10 _ (Ap hF);exact rt
    ·refine Qv ?_;refine ih12 (IntKind.wrap .i64 (a8 + 1)) _ hF ?_;exact ⟨oy ok,wy ok⟩
   ·refine Fh ?_;replace hF:=hG10 _ (Ap hF);exact ⟨(),hF,oy ok,wy ok⟩
 ·rintro ⟨⟩ s' hF ⟨ok,hws⟩;refine AD hws ?_;refine VQ ?_;refine Aap ?_;refine V3 ?_;refine Aap ?_;refine V3 ?_;refine cl (BX (fun _ h hF=>GL _ _ h hF) _ hF fun x18 _ hF=>?_);refine IS ?_;refine Afc ?_;refine AU rfl hF (fun hb19 hF=>?_) fun hb19 hF=>?_
  ·refine We ?_;exact rt
  ·refine Xv ?_;refine Bw ?_;refine Aba ?_;refine ZG ?_;refine C3 ?_;refine A3 (b:=p0.Attr) 3 49 (.bool (p0.Attr && p1.Attr)) (fun hb20=>?_) (fun hb20=>?_) ?_
   ·refine DY ?_;refine Aba ?_;refine Bi ?_;refine ZG ?_;refine Gp ?_;exact th
   ·refine Ht ?_;exact th
   refine Fg ?_;refine AU rfl hF (fun hb21 hF=>?_) fun hb21 hF=>?_
   ·refine Bw ?_;refine Afx ?_;refine AE rfl (AX (vs:=Ar p0.Name) Bv AA rfl rfl) ?_;refine Afx ?_;refine AE rfl (AX (vs:=Ar p1.Name) Bv AA rfl rfl) ?_;refine cl (BX (fun _ h hF=>JP _ _ h hF) _ hF fun x22 _ hF=>?_);refine W8 ?_;exact rt
   ·refine Bw ?_;refine Aba ?_;refine ZG ?_;refine Fg ?_;refine AU rfl hF (fun hb23 hF=>?_) fun hb23 hF=>?_
    ·refine Lr ?_;exact rt
    ·refine Bw ?_;refine Aba ?_;refine ZG ?_;refine Fg ?_;refine AU rfl hF (fun hb24 hF=>?_) fun hb24 hF=>?_
     ·refine Lr ?_;exact rt
     ·refine YT ?_;exact rt
theorem ID (p0:List By8) {G:Bool -> Prop} (h:Heap) (hF:OptP (Dn p0) G):CallsA prog 26 [.str p0] h fun d h'=>∃ r,G r /\ d=.bool r /\ h'=h:=by
 refine CallsA.ret ?_;refine AQ func26 rfl Ahg ntmps26 rfl (fun ok=>?_);rw [Dn] at hF;refine M8 ?_;refine AG hF (fun (_:Unit) s'=>Zs h [] 20 [] s') (fun J9 hF=>?_) ?_
 ·refine Yt ?_;refine BA (σ:=Int) hF (fun (a10:Int) s'=>Zs h [] 20 [(0,.str p0),(3,.int .i64 a10)] s') ?_ ?_
  ·exact ⟨oy ok,wy ok⟩
  ·rintro G11 hG12 rec13 a10 s' ih14 hF ⟨ok,hws⟩;refine AD hws ?_;rw [CD] at hF;refine Lq ?_;refine Zb ?_;refine Ob ?_;refine AU rfl hF (fun hb15 hF=>?_) fun hb15 hF=>?_
   ·refine Xv ?_;refine YJ ?_;refine Gj rfl rfl AS hF (fun x16 _ hF=>?_);refine Qp ?_;refine Bf 5 19 hF (fun J18 hb17 hF=>?_) (fun J18 hb17 hF=>?_) (fun v19 hF=>?_)
    ·refine SA ?_;exact tw
    ·refine Ns ?_;refine X6 ?_;refine Gj rfl rfl AS hF (fun x20 _ hF=>?_);refine Abl ?_;exact tw
    ·refine A9 ?_;refine AU rfl hF (fun hb21 hF=>?_) fun hb21 hF=>?_
     ·refine Hg ?_;replace hF:=hG12 _ (Ap hF);exact rt
     ·refine Dq ?_;refine Rn ?_;refine ih14 (IntKind.wrap .i64 (a10 + 1)) _ hF ?_;exact ⟨oy ok,wy ok⟩
   ·refine Fh ?_;replace hF:=hG12 _ (Ap hF);exact ⟨(),hF,oy ok,wy ok⟩
 ·rintro ⟨⟩ s' hF ⟨ok,hws⟩;refine AD hws ?_;refine Hg ?_;exact rt
theorem GX (p0 : Ac) (p1 : List By8) {G : Bool -> Prop} (h : Heap) (hF : OptP (Di p0 p1) G) : CallsA prog 6 [.agg (Ad p0), .str p1] h fun d h' => ∃ r, G r /\ d = .bool r := by
 refine CallsA.ret ?_;refine AQ func6 rfl Ajl ntmps6 rfl (fun ok=>?_);rw [Di] at hF;refine Bw ?_;refine Cc (v:=.agg (Ad p0)) (cs:=Ad p0) rfl rfl rfl rfl ?_;refine Y6 ?_;refine cl (BX (fun _ h hF=>In h hF) _ hF fun x1 _ hF=>?_);refine UJ ?_;refine AU rfl hF (fun hb2 hF=>?_) fun hb2 hF=>?_
 ·refine Hg ?_;exact rt
 ·refine TR ?_;refine AE rfl (AX (vs := Ad p0) A6 Aw (by rw [Ab]; rfl) (by rw [Ab]; rfl)) ?_;refine cl (BX (fun _ h hF => Gx _ _ h hF) _ hF fun x3 _ hF => ?_);refine YU ?_;refine LJ ?_;refine Bw ?_;refine AE rfl (AX (vs := Ad p0) A6 Aw (by rw [Ab]; rfl) (by rw [Ab]; rfl)) ?_;refine S5 ?_;refine Agq rfl rfl hF (fun hF => ?_);refine cl (BX (fun _ h hF => Gx _ _ h hF) _ hF fun x4 _ hF => ?_);refine YU ?_;refine Wg ?_;refine Za ?_;refine A3 (b := (x3.2.2 != 0)) 3 39 (.bool ((x3.2.2 != 0) || (x4.2.2 != 0))) (fun hb5 => ?_) (fun hb5 => ?_) ?_
  ·refine LC ?_;exact th
  ·refine Lx ?_;refine V1 ?_;refine Kh ?_;exact th
  refine A9 ?_;refine AU rfl hF (fun hb6 hF=>?_) fun hb6 hF=>?_
  ·refine VN ?_;refine Bf 5 47 hF (fun J8 hb7 hF=>?_) (fun J8 hb7 hF=>?_) (fun v9 hF=>?_)
   ·refine SA ?_;exact tw
   ·refine Lx ?_;refine AE rfl (AX (vs:=Ad p0) A6 Aw (by rw [Ab];rfl) (by rw [Ab];rfl)) ?_;refine Bi ?_;refine cl (HY _ hF fun x10 _ hF=>?_);refine Abl ?_;exact tw
   ·refine Fu ?_;exact rt
  ·refine TR ?_;refine LJ ?_;refine Bw ?_;refine AE rfl (AX (vs := Ad p0) A6 Aw (by rw [Ab]; rfl) (by rw [Ab]; rfl)) ?_;refine cl (H3 _ hF fun x11 _ hF => ?_);refine Rz ?_;refine AG hF (fun (v : Int × Int) s' => match v with | (a195, a196) => Zs h [] 149 [(1, .str p1), (5, .sl 4 (List.map Au x3.1) 0), (8, .sl 4 (List.map Au x4.1) 0), (11, .int .i64 a195), (12, .int .i64 a196)] s') (fun J197 hF => ?_) ?_
   ·refine Bw ?_;refine AE rfl (AX (vs := Ad p0) A6 Aw (by rw [Ab]; rfl) (by rw [Ab]; rfl)) ?_;refine cl (FT _ hF fun x198 _ hF => ?_);refine Tc ?_;refine BA (σ := Int × Int × Int) hF (fun (v : Int × Int × Int) s' => match v with | (a199, a200, a201) => Zs h [] 149 [(1, .str p1), (5, .sl 4 (List.map Au x3.1) 0), (8, .sl 4 (List.map Au x4.1) 0), (11, .int .i64 a199), (12, .int .i64 a200), (13, .sl 1 (List.map (NW 1 B1) x11) 0), (51, .sl 6 (List.map Ad x198) 0), (52, .int .i64 (x198.length : Int)), (53, .int .i64 a201)] s') ?_ ?_
    ·exact ⟨oy ok,wy ok⟩
    ·rintro G202 hG203 rec204 ⟨a199, a200, a201⟩ s' ih205 hF ⟨ok, hws⟩;refine AD hws ?_;rw [BI] at hF;refine Im ?_;refine AU rfl hF (fun hb206 hF => ?_) fun hb206 hF => ?_
     ·refine Dq ?_;refine AG hF (fun (v : Int × Int) s' => match v with | (a295, a296) => Zs h [] 149 [(1, .str p1), (5, .sl 4 (List.map Au x3.1) 0), (8, .sl 4 (List.map Au x4.1) 0), (11, .int .i64 a295), (12, .int .i64 a296), (13, .sl 1 (List.map (NW 1 B1) x11) 0), (51, .sl 6 (List.map Ad x198) 0), (52, .int .i64 (x198.length : Int)), (53, .int .i64 a201)] s') (fun J297 hF => ?_) ?_
      ·refine Qy ?_;refine Cy (mdl [(15, 1)]) ?_;refine Fy ?_;refine Fr rfl rfl Dt Aw hF (fun x298 _ hF => ?_);refine AE rfl (AX (vs := Ad x298) A6 Aw (by rw [Ab]; rfl) (by rw [Ab]; rfl)) ?_;refine Ca ok rfl DI ?_;intro i299 hi299 ok;refine JZ ?_;refine F3 (j := 0) (cs' := [.int .i64 x298.Kind, .str x298.Name.URI, .str x298.Name.Local, .sl 3 (List.map Ao x298.Attrs) 0, .sl 6 (List.map Ad x298.Kids) 0, .str x298.Text]) ok rfl (congrArg D.agg (Ab x298)) rfl hi299 rfl Aw rfl rfl (fun ok => ?_);refine F0 ?_;refine DH rfl Bz AW ?_;refine Cr (j := 0) ok rfl rfl rfl (by assumption) (AK (v := .sl _ _ _) CR AW rfl) ?_;refine Aam ?_;refine BA (σ := Int × Int × Int) hF (fun (v : Int × Int × Int) s' => match v with | (a300, a301, a302) => Zs h [] 149 [(1, .str p1), (5, .sl 4 (List.map Au x3.1) 0), (8, .sl 4 (List.map Au x4.1) 0), (11, .int .i64 a300), (12, .int .i64 a301), (13, .sl 1 (List.map (NW 1 B1) x11) 0), (14, .int .i64 a201), (51, .sl 6 (List.map Ad x198) 0), (52, .int .i64 (x198.length : Int)), (53, .int .i64 a201), (59, .sl 3 (List.map Ao x298.Attrs) 0), (60, .int .i64 (x298.Attrs.length : Int)), (61, .int .i64 a302)] s') ?_ ?_
       ·exact ⟨oy ok,wy ok⟩
       ·rintro G303 hG304 rec305 ⟨a300,a301,a302⟩ s' ih306 hF ⟨ok,hws⟩;refine AD hws ?_;rw [BG] at hF;refine Im ?_;refine AU rfl hF (fun hb307 hF=>?_) fun hb307 hF=>?_
        ·refine Dq ?_;refine AG hF (fun (v:Int × Int) s'=>match v with | (a348,a349)=>Zs h [] 149 [(1,.str p1),(5,.sl 4 (List.map Au x3.1) 0),(8,.sl 4 (List.map Au x4.1) 0),(11,.int .i64 a348),(12,.int .i64 a349),(13,.sl 1 (List.map (NW 1 B1) x11) 0),(14,.int .i64 a201),(51,.sl 6 (List.map Ad x198) 0),(52,.int .i64 (x198.length:Int)),(53,.int .i64 a201),(59,.sl 3 (List.map Ao x298.Attrs) 0),(60,.int .i64 (x298.Attrs.length:Int)),(61,.int .i64 a302)] s') (fun J350 hF=>?_) ?_
         ·refine Qy ?_;refine Cy (mdl [(17,1)]) ?_;refine Fr rfl rfl Fp CQ hF (fun x351 _ hF=>?_);refine AE rfl (AX (vs:=Ao x351) Jn CQ rfl rfl) ?_;refine Ca ok rfl Id ?_;intro i352 hi352 ok;refine F3 (j:=0) (cs':=[.str x351.Name.URI,.str x351.Name.Local,.str x351.Value]) ok rfl rfl rfl hi352 rfl CQ rfl rfl (fun ok=>?_);refine Jk ?_;refine AG hF (fun (a364:Bool) s'=>Zs h [(i352,.cells [.str x351.Name.URI,.str x351.Name.Local,.str x351.Value])] 149 [(1,.str p1),(5,.sl 4 (List.map Au x3.1) 0),(8,.sl 4 (List.map Au x4.1) 0),(11,.int .i64 a300),(12,.int .i64 a301),(13,.sl 1 (List.map (NW 1 B1) x11) 0),(14,.int .i64 a201),(17,.ptr i352 0),(51,.sl 6 (List.map Ad x198) 0),(52,.int .i64 (x198.length:Int)),(53,.int .i64 a201),(59,.sl 3 (List.map Ao x298.Attrs) 0),(60,.int .i64 (x298.Attrs.length:Int)),(61,.int .i64 a302),(99,.bool a364)] s') (fun J365 hF=>?_) ?_
          ·refine Ho (mdl [(74,3),(82,3),(92,3),(96,3)]) (by kernel_rfl) (by kernel_rfl) ?_;refine Fy ?_;refine Kl ?_;refine Abd ?_;refine Aa8 ?_;refine QB (b:=(decide ((x3.1.length:Int) <= a300))) hF (fun hb366 hF=>?_) (fun hb367 hF=>?_)
           ·refine Ii ?_;refine M9 ?_;refine VP ?_;refine YW ?_;refine KS (v:=.bool _) rfl rfl rfl ?_;refine YW ?_;refine VW ?_;refine Af0 ?_;refine KS (v:=.bool _) rfl rfl rfl ?_;refine A9 ?_;exact ⟨true,hF,oy ok,wy ok⟩
           ·refine Abi ?_;refine RM ?_;refine Fr rfl rfl GB F8 hF (fun x368 _ hF=>?_);refine Bi ?_;refine Aba ?_;refine Bi ?_;refine ZG ?_;refine Abg ?_;refine A9 ?_;refine VV ?_;refine C3 ?_;refine QB (b:=(!x368.Attr)) hF (fun hb369 hF=>?_) (fun hb370 hF=>?_)
            ·refine Qz ?_;refine VP ?_;refine YW ?_;refine VW ?_;refine Af0 ?_;refine KS (v:=.bool _) rfl rfl rfl ?_;refine A9 ?_;exact ⟨true,hF,oy ok,wy ok⟩
            ·refine Abi ?_;refine RM ?_;refine Fr rfl rfl GB F8 hF (fun x371 _ hF=>?_);refine Bi ?_;refine Afx ?_;refine Bi ?_;refine AE rfl (AX (vs:=Ar x371.Name) Bv AA rfl rfl) ?_;refine Bi ?_;refine YP ?_;refine Bi ?_;refine Cr (j:=0) ok rfl rfl rfl hi352 (AX (vs:=Ar x351.Name) Bv AA rfl rfl) ?_;refine Bi ?_;refine DN rfl rfl (UG (b:=((x371.Name.URI == x351.Name.URI) && ((x371.Name.Local == x351.Name.Local) && true))) DL DK (by simp only [Ar,El,E6,HZ,DK,DL,By,Ay,AS,By,Ay,AS,FN,FB,EX,FD,E7,EY,Es,List.drop_zero,List.drop_succ_cons,bi,bj,List.take_succ_cons,List.take_zero,Option.isSome_some,if_true,ba,Option.map_some,Nat.reduceAdd,Nat.reduceLeDiff])) ?_;refine A9 ?_;refine VV ?_;refine C3 ?_;refine QB (b:=(!((x371.Name.URI == x351.Name.URI) && ((x371.Name.Local == x351.Name.Local) && true)))) hF (fun hb372 hF=>?_) (fun hb373 hF=>?_)
             ·refine Qz ?_;refine Nz ?_;exact ⟨true,hF,oy ok,wy ok⟩
             ·refine Abi ?_;refine RM ?_;refine Fr rfl rfl GB F8 hF (fun x374 _ hF=>?_);refine Bi ?_;refine Aho ?_;refine Yi ?_;refine Kl ?_;refine RM ?_;refine Fr rfl rfl Ox H7 hF (fun x375 _ hF=>?_);refine Yi ?_;refine cl (Fc _ hF fun x376 _ hF=>?_);refine Zg ?_;exact ⟨(!x376),hF,oy ok,wy ok⟩
          ·rintro a364 s' hF ⟨ok,hws⟩;refine AD hws ?_;refine AU rfl hF (fun hb377 hF=>?_) fun hb377 hF=>?_
           ·refine Hg ?_;replace hF:=hG304 _ (Ap hF);replace hF:=hG203 _ (Ap hF);exact rt
           ·refine Dq ?_;refine Gz ?_;refine YS ?_;refine Bw ?_;refine YP ?_;refine TO ?_;refine R3 ?_;refine Lu ?_;refine C3 ?_;refine A3 (b:=(x351.Name.URI == [])) 6 112 (.bool ((x351.Name.URI == []) && (x351.Name.Local == p1))) (fun hb378=>?_) (fun hb378=>?_) ?_
            ·refine DY ?_;refine YP ?_;refine Bi ?_;refine Z9 ?_;refine VK ?_;refine Z1 ?_;refine Lu ?_;refine Gp ?_;exact th
            ·refine Ii ?_;refine Sq ?_;exact th
            refine A9 ?_;refine AU rfl hF (fun hb379 hF=>?_) fun hb379 hF=>?_
            ·refine Hs ?_;refine AG hF (fun (a385:Bool) s'=>Zs h [] 149 [(1,.str p1),(5,.sl 4 (List.map Au x3.1) 0),(8,.sl 4 (List.map Au x4.1) 0),(11,.int .i64 (IntKind.wrap .i64 (a300 + 1))),(12,.int .i64 a301),(13,.sl 1 (List.map (NW 1 B1) x11) 0),(14,.int .i64 a201),(51,.sl 6 (List.map Ad x198) 0),(52,.int .i64 (x198.length:Int)),(53,.int .i64 a201),(59,.sl 3 (List.map Ao x298.Attrs) 0),(60,.int .i64 (x298.Attrs.length:Int)),(61,.int .i64 a302),(129,.bool a385)] s') (fun J386 hF=>?_) ?_
             ·refine Ho (mdl [(121,3),(126,3)]) (by kernel_rfl) (by kernel_rfl) ?_;refine Fy ?_;refine Kl ?_;refine Abd ?_;refine Aa8 ?_;refine QB (b:=(decide ((x4.1.length:Int) <= a301))) hF (fun hb387 hF=>?_) (fun hb388 hF=>?_)
              ·refine Qz ?_;refine Nz ?_;exact ⟨true,hF,oy ok,wy ok⟩
              ·refine Abi ?_;refine RM ?_;refine Fr rfl rfl GB F8 hF (fun x389 _ hF=>?_);refine Bi ?_;refine AE rfl (AX (vs:=Au x389) RF F8 rfl rfl) ?_;refine Bi ?_;refine Kl ?_;refine Zf ?_;refine Fr rfl rfl GB F8 hF (fun x390 _ hF=>?_);refine Bi ?_;refine AE rfl (AX (vs:=Au x390) RF F8 rfl rfl) ?_;refine Bi ?_;refine cl (BX (fun _ h hF=>Lb _ _ h hF) _ hF fun x391 _ hF=>?_);refine Aar ?_;refine Kh ?_;exact ⟨(x391 != 0),hF,oy ok,wy ok⟩
             ·rintro a385 s' hF ⟨ok,hws⟩;refine AD hws ?_;refine AU rfl hF (fun hb392 hF=>?_) fun hb392 hF=>?_
              ·refine Hg ?_;replace hF:=hG304 _ (Ap hF);replace hF:=hG203 _ (Ap hF);exact rt
              ·refine Dq ?_;refine Rn ?_;exact ⟨((IntKind.wrap .i64 (a300 + 1)),(IntKind.wrap .i64 (a301 + 1))),hF,oy ok,wy ok⟩
            ·refine Dq ?_;exact ⟨((IntKind.wrap .i64 (a300 + 1)),a301),hF,oy ok,wy ok⟩
         ·rintro ⟨a348,a349⟩ s' hF ⟨ok,hws⟩;refine AD hws ?_;refine Nb ?_;refine ih306 (a348,a349,(IntKind.wrap .i64 (a302 + 1))) _ hF ?_;exact ⟨oy ok,wy ok⟩
        ·refine Fh ?_;replace hF:=hG304 _ (Ap hF);exact ⟨(a300,a301),hF,oy ok,wy ok⟩
      ·rintro ⟨a295,a296⟩ s' hF ⟨ok,hws⟩;refine AD hws ?_;refine Nb ?_;refine ih205 (a295,a296,(IntKind.wrap .i64 (a201 + 1))) _ hF ?_;exact ⟨oy ok,wy ok⟩
     ·refine Fh ?_;replace hF:=hG203 _ (Ap hF);exact ⟨(a199,a200),hF,oy ok,wy ok⟩
   ·rintro ⟨a195,a196⟩ s' hF ⟨ok,hws⟩;refine AD hws ?_;refine Gz ?_;refine Kl ?_;refine Abd ?_;refine Qp ?_;refine Bf 10 148 hF (fun J394 hb393 hF=>?_) (fun J394 hb393 hF=>?_) (fun v395 hF=>?_)
    ·refine Lx ?_;refine Kl ?_;refine Bi ?_;refine Abd ?_;refine Aa2 ?_;refine Bf 4 147 hF (fun J397 hb396 hF=>?_) (fun J397 hb396 hF=>?_) (fun v398 hF=>?_)
     ·refine ZJ ?_;exact tw
     ·refine Ns ?_;refine cl (BX (fun _ h hF=>ID _ h hF) _ hF fun x399 _ hF=>?_);refine Abg ?_;refine UH ?_;exact tw
     ·refine SD ?_;exact tw
    ·refine Ii ?_;refine SO ?_;refine V4 ?_;refine Sq ?_;exact tw
    ·refine Fu ?_;exact rt
end Go.Proofs.YtmnbjcpikllknaaGreatDoor
