/- Calls that take a slice with a right to append: nil as nothing with such a right. No condition. -/
import Derived.Shelf.SlSortCmp.NoneTotal
import Derived.Recover
import Derived.Tactics
import Derived.Test.YtmnbjcpikllknaaGreatDoorEng34
set_option linter.unusedSimpArgs false
set_option linter.unusedVariables false
namespace Go.Proofs.YtmnbjcpikllknaaGreatDoor
theorem CallsA.ghost {P:Program} {f:FuncId} {ds:List D} {h:Heap} {O:List (Nat × AObj)} {R:D -> Heap -> Prop} (j q:Nat) (he:CA P f=true) (ok:OK h O) (hj:ds[j]?=some .snil) (hc:∀ r,r ≠ 0 -> OK h ((r,.room) :: O) -> CallsA P f (ds.set j (.sl q [] r)) (Hp h ((r,.room) :: O)) R):CallsA P f ds (Hp h O) R:=
 .inl ⟨he,fun K w vs H hl hv=>by
  obtain ⟨E,H'⟩:=H.ghost q;have hnz:K.nx ≠ 0:=by have:=H.nz;omega
  obtain ⟨e1,e2⟩:=Hp_new (x:=.room) ok H.fresh hnz;simp only [e1] at H';refine (((hc K.nx hnz e2).ent he).2 (K.ghost q) w vs H' (by simpa using hl) (fun i=>?_)).mono fun e w' ⟨v,d,K',h',a,b,c,dd,ee⟩=>⟨v,d,K',h',a,E.trans b,c,dd,ee⟩
  by_cases hi:i=j
  ·subst hi;have hlt:i < ds.length:=(List.getElem?_eq_some_iff.1 hj).1;have hvi:=hv i;rw [show ds.getD i .any=.snil by rw [List.getD_eq_getElem?_getD,hj];rfl] at hvi;rw [show (ds.set i (.sl q [] K.nx)).getD i .any=.sl q [] K.nx by rw [List.getD_eq_getElem?_getD,List.getElem?_set_self hlt];rfl];generalize vs.getD i undef=z at hvi;cases hvi;exact .sln q K.nx (by simp [Kn.ghost])
  ·rw [show (ds.set j (.sl q [] K.nx)).getD i .any=ds.getD i .any by rw [List.getD_eq_getElem?_getD,List.getD_eq_getElem?_getD,List.getElem?_set_ne (Ne.symm hi)]]
   exact (hv i).mono E⟩
theorem WdC.eqR {cs cs' X:List D} (h:WdC cs cs') (e:X=cs'):WdC cs X:=by rw [e];exact h
section
variable {P:Program} {md:Nat -> Nat} {ops:Array Oper} {os:List Oper} {k:St -> Prop} {n:Nat} {l:List (Nat × D)} {h:Heap} {O:List (Nat × AObj)}
end

set_option linter.unusedSimpArgs false
set_option linter.unusedVariables false
def Hk (pv:Value):List PanicEntry:=[{ v:=pv,recovered:=false }]
def CallsP (P:Program) (pv:Value) (f:FuncId) (args:List D) (h:Heap) (R:D -> Heap -> Prop) (Rp:Heap -> Prop):Prop:=
 CA P f=true /\ ∀ (K:Kn) (w:World) (vs:Array Value),HR K h w -> vs.size=args.length -> (∀ i,VR K (vs.getD i undef) (args.getD i .any)) ->
  Calls P f vs w fun e w'=>(∃ v d K' h',e=.returned v /\ Ext K K' /\ HR K' h' w' /\ VR K' v d /\ R d h') \/ ∃ K' h',e=.panicked (Hk pv) /\ Ext K K' /\ HR K' h' w' /\ Rp h'
theorem CallsP.mono {P:Program} {pv:Value} {f:FuncId} {args:List D} {h:Heap} {R S:D -> Heap -> Prop} {Rp Sp:Heap -> Prop} (c:CallsP P pv f args h R Rp) (hRS:∀ d h',R d h' -> S d h') (hp:∀ h',Rp h' -> Sp h'):CallsP P pv f args h S Sp:=
 ⟨c.1,fun K w vs H hl hv=>(c.2 K w vs H hl hv).mono fun e w' hh=>hh.imp (fun ⟨v,d,K',h',a,b,cc,dd,ee⟩=>⟨v,d,K',h',a,b,cc,dd,hRS _ _ ee⟩) fun ⟨K',h',a,b,cc,dd⟩=>⟨K',h',a,b,cc,hp _ dd⟩⟩
section
variable {P:Program} {pv:Value} {df:List Deferred}
def Aa1 (P:Program) (pv:Value) (o:Oper) (s:St) (k kp:St -> Prop):Prop:=
 ∃ g c,o.op=.call c /\ c.callee=.value (.func g) /\ o.guard=none /\ CallsP P pv g (c.args.toList.map (opD s.sl)) s.h (fun d h'=>k ⟨Gn s.sl o.dst d,h'⟩) (fun h'=>kp ⟨s.sl,h'⟩)
theorem Us {ops:Array Oper} {i:Nat} {o:Oper} (hi:ops[i]?=some o) {K:Kn} {s:St} {a:Act} {w:World} (S:Sim df K s a w) {k kp:St -> Prop} {next:Act -> World -> Prop} {Q:Exit -> Act -> World -> Prop}
  (h:Aa1 P pv o s k kp) (hk:∀ K' s' a' w',Ext K K' -> Sim df K' s' a' w' -> k s' -> next a' w') (hp:∀ K' s' w',Ext K K' -> Sim df K' s' a w' -> kp s' -> Q (.panic (Hk pv)) a w'):wpOp P ops Q i next a w:=by
 obtain ⟨g,c,ho,hc,hg,hent,hcall⟩:=h;unfold wpOp;rw [hi];simp only [Region.wanted,hg,if_true];refine .inl ?_;have hent0:=hent;unfold CA at hent;split at hent
 ·rename_i fn hfn;simp only [Bool.and_eq_true,Bool.not_eq_true'] at hent;obtain ⟨hb1,hb2⟩:=hent;have hrun:(execOp a.eval o).run P w=.ok (.enter g (c.args.map a.eval)) w:=by
   have hbn:fn.body ≠ none:=fun e=>by simp [e] at hb1
   have hne : fn.name ≠ "runtime.NumGoroutine" := by simpa using hb2
   obtain ⟨dst,op,ty,pos,after,guard⟩:=o;simp only at ho;subst ho;simp [execOp,resolve,hc,Act.eval,Deferred.ofValue,invoke,callFunc,hfn,hne,hbn]
  have:=hcall K w (c.args.map a.eval) S.h (by simp) (H8 S.eval c.args);simp only [Oper.wp,hrun,Oper.upon_enter];refine this.mono ?_;rintro e w' (⟨v,d,K',h',rfl,E,H',hv,hRd⟩ | ⟨K',h',rfl,E,H',hRd⟩)
  ·exact hk K' _ _ _ E (S.put E H' hv) hRd
  ·exact hp K' ⟨s.sl,h'⟩ w' E ⟨H',S.d,S.n,fun i=>(S.v i).mono E⟩ hRd
 ·simp at hent
theorem QF {ops:Array Oper} {md:Nat -> Nat} {K0:Kn} {Q:Exit -> St -> Prop} {k:St -> Prop} (rest:List Nat) (hk:∀ K s a u,Ext K0 K -> Sim df K s a u -> k s -> wpOps P ops (PostS df K0 Q) rest a u) :
  ∀ (l:List Oper) (k0:Nat) {K:Kn} {s:St} {a:Act} {u:World},(∀ j,j < l.length -> l[j]?=ops[k0 + j]?) -> Ext K0 K -> Sim df K s a u -> AO P md true ops l s k -> wpOps P ops (PostS df K0 Q) (List.range' k0 l.length ++ rest) a u
 | [],k0,K,s,a,u,_,E0,S,h=>by
  obtain ⟨K',t,E,S',q⟩:=h df K a u S;exact hk _ _ _ _ (E0.trans E) S' q
 | o :: l,k0,K,s,a,u,hl,E0,S,h=>by
  have h0:ops[k0]?=some o:=by simpa using (hl 0 (by simp)).symm
  obtain ⟨K',t,E,S',q⟩:=h df K a u S;simp only [bi,List.range'_succ,List.cons_append];rw [wpOps_cons];exact LI (Oa P) h0 S' q (fun K2 s2 a2 w2 E2 S2 h2=>QF rest hk l (k0 + 1) (fun j hj=>by have:=hl (j + 1) (by simpa using hj);simpa [Nat.add_assoc,Nat.add_comm 1 j] using this) ((E0.trans E).trans E2) S2 h2)
theorem DE (md:Nat -> Nat) (p:Nat) {id:Nat} {l:List Oper} {o:Oper} {Q:Exit -> St -> Prop} {s:St} (ho:l[p]?=some o)
  (h:AO P md true l.toArray (l.take p) s fun s1=>Aa1 P pv o s1 (fun s2=>AO P md true l.toArray (l.drop (p + 1)) s2 (Q .normal)) (Q (.panic (Hk pv)))):WP P (.region id l.toArray false) Q s:=fun df K a u S=>by
 refine wp_region ?_;have hp:p < l.length:=(List.getElem?_eq_some_iff.1 ho).1;have hr:List.range l.toArray.size=List.range' 0 (l.take p).length ++ p :: (List.range' (p + 1) (l.drop (p + 1)).length ++ []):=by
  have e1:(l.take p).length=p:=by rw [List.length_take];omega
  have e2:(l.drop (p + 1)).length=l.length - (p + 1):=List.length_drop;rw [e1,e2,List.append_nil,List.range_eq_range',List.size_toArray];have e3:p :: List.range' (p + 1) (l.length - (p + 1))=List.range' p (l.length - p):=by
   have:l.length - p=(l.length - (p + 1)) + 1:=by omega
   rw [this,List.range'_succ]
  rw [e3];have:=List.range'_append (s:=0) (m:=p) (n:=l.length - p) (step:=1);simp only [Nat.zero_add,Nat.one_mul] at this;rw [this];congr 1;omega
 rw [hr];refine QF _ (fun K1 s1 a1 u1 E1 S1 h1=>?_) (l.take p) 0 (fun j hj=>?_) (Ext.refl K) S h
 ·rw [wpOps_cons];refine Us (by simpa using ho) S1 h1 (fun K2 s2 a2 w2 E2 S2 h2=>?_) fun K2 s2 w2 E2 S2 h2=>⟨K2,s2,E1.trans E2,S2,h2⟩
  refine QF [] (fun K3 s3 a3 u3 E3 S3 h3=>⟨K3,s3,E3,S3,h3⟩) (l.drop (p + 1)) (p + 1) (fun j hj=>by simp [List.getElem?_drop]) (E1.trans E2) S2 h2
 ·have e1:j < p:=by rw [List.length_take] at hj;omega
  simp [List.getElem?_take,e1]
theorem CallsP.arg {f:FuncId} {ds0 ds:List D} {h:Heap} {R:D -> Heap -> Prop} {Rp:Heap -> Prop} (hw:WdC ds0 ds) (c:CallsP P pv f ds h R Rp):CallsP P pv f ds0 h R Rp:=
 ⟨c.1,fun K w vs H hl hv=>c.2 K w vs H (hl.trans hw.l) fun i=>(hw.c i).rel (hv i)⟩
theorem CallsP.ret {f:FuncId} {ds:List D} {h:Heap} {R:D -> Heap -> Prop} {Rp:Heap -> Prop} (c:CallsP P pv f ds h (fun d h'=>∃ d2 h2,Wd d d2 /\ WH h' h2 /\ R d2 h2) fun h'=>∃ h2,WH h' h2 /\ Rp h2):CallsP P pv f ds h R Rp:=
 ⟨c.1,fun K w vs H hl hv=>(c.2 K w vs H hl hv).mono fun e w' hh=>hh.imp (fun ⟨v,d,K',h',a,b,cc,dd,d2,h2,w1,w2,r⟩=>⟨v,d2,K',h2,a,b,cc.weaken w2,w1.rel dd,r⟩) fun ⟨K',h',a,b,cc,h2,w2,r⟩=>⟨K',h2,a,b,cc.weaken w2,r⟩⟩
theorem CB {n:Nat} {l:List (Nat × D)} {h:Heap} {d:Nat} {ty:TypeId} {pos:String} {af:Array Edge} {g:FuncId} {args:Array Operand} {ts:Array TypeId} {ds:List D} {k kp:St -> Prop}
  (hc:CallsP P pv g ds h (fun v h'=>k ⟨AI n ((d,v) :: l),h'⟩) (fun h'=>kp ⟨AI n l,h'⟩)) (hw:WdC (args.toList.map (opL n l)) ds):Aa1 P pv ⟨some d,.call ⟨.value (.func g),args,ts⟩,ty,pos,af,none⟩ ⟨AI n l,h⟩ k kp:=by
 refine ⟨g,_,rfl,rfl,rfl,?_⟩;simp only [Gn,Oy,I9];exact hc.arg hw
def RetPP (P:Program) (pv:Value) (fn:Func) (R:D -> Heap -> Prop) (Rp:Heap -> Prop):Exit -> St -> Prop
 | .panic c,s=>c=Hk pv /\ Rp s.h
 | e,s=>RetP P fn R e s
theorem CallsP_body {f:FuncId} {fn:Func} {c:Code} {args:List D} {h:Heap} {R:D -> Heap -> Prop} {Rp:Heap -> Prop} (hf:P.funcs[f]?=some fn) (hb:fn.body=some c) (he:CA P f=true)
  (hw:WP P c (RetPP P pv fn R Rp) ⟨args ++ List.replicate (fn.ntmps - args.length) .any,h⟩):CallsP P pv f args h R Rp:=by
 refine ⟨he,fun K w vs H hl hv=>calls_of_wp hf hb ?_⟩;have S:Sim [] K ⟨args ++ List.replicate (fn.ntmps - args.length) .any,h⟩ { tmps:=vs ++ Array.replicate (fn.ntmps - vs.size) undef,defers:=[] } w:=by
  refine ⟨H,rfl,by simp [hl],fun i=>?_⟩;refine F2 hl hv (fun j=>?_) i;by_cases hj:j < fn.ntmps - args.length
  ·simp [List.getD,hj];exact .any _
  ·simp [List.getD,hj];exact .any _
 refine Code.wp_mono ?_ (hw [] K _ w S);rintro e a w' ⟨K',s',E,S',q⟩
 cases e with
 | normal=>
  obtain ⟨v,d,hr,hvr,hRd⟩:=HE S' q;exact ⟨S'.d,v,hr,.inl ⟨v,d,K',s'.h,rfl,E,S'.h,hvr,hRd⟩⟩
 | ret=>
  obtain ⟨v,d,hr,hvr,hRd⟩:=HE S' q;exact ⟨S'.d,v,hr,.inl ⟨v,d,K',s'.h,rfl,E,S'.h,hvr,hRd⟩⟩
 | panic c=>
  obtain ⟨rfl,q⟩:=q;exact ⟨S'.d,.inr ⟨K',s'.h,rfl,E,S'.h,q⟩⟩
 | exit id=>exact (show False from q).elim
 | goto l=>exact (show False from q).elim
 | outgrown=>exact (show False from q).elim
theorem J0 {f:FuncId} {fn:Func} {c:Code} {args:List D} {h:Heap} {R:D -> Heap -> Prop} {Rp:Heap -> Prop} {N:Nat} (hf:P.funcs[f]?=some fn) (hb:fn.body=some c) (he:CA P f=true) (hn:fn.ntmps=N) (ha:args.length + (N - args.length)=N)
  (hw:WP P c (RetPP P pv fn R Rp) ⟨AI N (TI 0 args),h⟩):CallsP P pv f args h R Rp:=by
 refine CallsP_body hf hb he ?_;rw [hn,R7,ha];exact hw
theorem XY {md:Nat -> Nat} {wk:Bool} {ops:Array Oper} {os:List Oper} {k:St -> Prop} {n:Nat} {l:List (Nat × D)} {h:Heap} {d:Nat} {t ty:TypeId} {pos:String} {af:Array Edge} {x y:Operand} {β:Type} {G:β -> Prop} {O:List (Nat × AObj)} {α:Type} {q r r2 j B:Nat} {zs:List D} {c:α -> List D} {L M:List α} {u:TypeId} {f:List α -> Option β} (ok:OK h O) (hm:md d=0) (hx:opL n l x=.sl q (L.map c) r) (hy:opL n l y=.sl q (M.map c) r2)
  (hj:O[j]?=some (r,.room)) (hr:r ≠ 0) (he:elD P t=some (q,B,zs)) (hu:EE P u=true) (hF:OptP ((app B L M).bind f) G)
  (hk:OK h (O.set j (0,.room)) -> OptP (f (L ++ M)) G -> AO P md wk ops os ⟨AI n ((d,.sl q ((L ++ M).map c) 0) :: l),Hp h (O.set j (0,.room))⟩ k) :
  AO P md wk ops (⟨some d,.call ⟨.builtin .append,#[x,y],#[t,u]⟩,ty,pos,af,none⟩ :: os) ⟨AI n l,Hp h O⟩ k:=F6 (by
 obtain ⟨v,hv,hF⟩:=A8 hF;unfold app at hv;split at hv
 ·rename_i hc;injection hv with hv;subst hv
  simp only [Cz,Fi,List.map_cons,List.map_nil,hx,hy,hm,GE,he,S7,if_true,hu,true_and,List.length_map,Hp_get j ok hj hr,HC];refine ⟨hc.1,hc.2,by decide,?_⟩;obtain ⟨e1,e2⟩:=Hp_rel j ok hj hr;rw [e1,<- List.map_append];exact hk e2 hF
 ·simp at hv)
def pnc {σ α ρ:Type} (x:σ ⊕ α) (f:σ -> Option ρ) (g:α -> Option ρ):Option ρ:=match x with
 | .inl s=>f s
 | .inr a=>g a
theorem Hy {n:Nat} {l:List (Nat × D)} {h:Heap} {fn:Func} {rs:List ResultVar} {vs:List D} {R:D -> Heap -> Prop} {Rp:Heap -> Prop} (hr:fn.results.toList=rs) (hv:RV P n l h rs vs) (hR:R (S9 vs) h):RetPP P pv fn R Rp .ret ⟨AI n l,h⟩:=KH hr hv hR
theorem Zx {n:Nat} {l:List (Nat × D)} {h:Heap} {fn:Func} {rs:List ResultVar} {vs:List D} {R:D -> Heap -> Prop} {Rp:Heap -> Prop} (hr:fn.results.toList=rs) (hv:RV P n l h rs vs) (hR:R (S9 vs) h):RetPP P pv fn R Rp .normal ⟨AI n l,h⟩:=KH hr hv hR
theorem Exit.sel_pan {A:St -> Prop} {Q:Exit -> St -> Prop} {c:List PanicEntry} {s:St} (h:Q (.panic c) s):Exit.sel A Q (.panic c) s:=h
theorem Exit.blk_pan {i:Nat} {Q:Exit -> St -> Prop} {c:List PanicEntry} {s:St} (h:Q (.panic c) s):Exit.blk i Q (.panic c) s:=h
end

set_option linter.unusedSimpArgs false
set_option linter.unusedVariables false
set_option linter.unusedSectionVars false
open Go.Shelf Go.RowKit Go.Lib Go.Sort
def WD {T:Type} (cf:T -> T -> Int):List T -> Bool
 | []=>true
 | x :: l=>l.all (fun y=>cf x y != 0) && WD cf l
def Abe {T:Type} (cf:T -> T -> Int) (x:T):List T -> List T
 | []=>[x]
 | y :: l=>cond (decide (cf x y < 0)) (x :: y :: l) (y :: Abe cf x l)
def LZ {T:Type} (cf:T -> T -> Int):List T -> List T
 | []=>[]
 | x :: l=>Abe cf x (LZ cf l)
def PG {T:Type} (gd:T -> Bool) (cf:T -> T -> Int) (l:List T):Option (List T):=if WD cf l && l.all gd && decide (l.length < 4611686018427387904) then some (LZ cf l) else none
theorem NJ {T:Type} {gd:T -> Bool} {cf:T -> T -> Int} {l r:List T} (h:PG gd cf l=some r):WD cf l=true /\ (∀ x ∈ l,gd x=true) /\ l.length < 4611686018427387904 /\ r=LZ cf l:=by
 unfold PG at h;split at h
 ·rename_i h1;simp only [Bool.and_eq_true,List.all_eq_true,decide_eq_true_eq] at h1;exact ⟨h1.1.1,h1.1.2,h1.2,(Option.some.inj h).symm⟩
 ·simp at h
section
variable {T:Type} {cf:T -> T -> Int}
theorem Mb (ha:∀ x y,cf y x=- cf x y):∀ {l:List T},WD cf l=true -> l.Pairwise fun a b=>cf a b ≠ 0
 | [],_=>.nil
 | x :: l,h=>by
  simp only [WD,Bool.and_eq_true,List.all_eq_true,bne_iff_ne] at h;exact .cons h.1 (Mb ha h.2)
theorem Qd (ha:∀ x y,cf y x=- cf x y):∀ {l m:List T},l.Perm m -> l.Pairwise (fun a b=>cf a b < 0) -> m.Pairwise (fun a b=>cf a b < 0) -> l=m
 | [],m,hp,_,_=>by have:=hp.length_eq;cases m with | nil=>rfl | cons _ _=>simp at this
 | x :: l,[],hp,_,_=>by have:=hp.length_eq;simp at this
 | x :: l, y :: m, hp, h1, h2 => by
  have h1':=List.pairwise_cons.1 h1;have h2':=List.pairwise_cons.1 h2;have hx:x ∈ y :: m:=hp.subset List.mem_cons_self;have hy:y ∈ x :: l:=hp.symm.subset List.mem_cons_self;have e:x=y:=by
   rcases List.mem_cons.1 hx with e | e
   ·exact e
   ·rcases List.mem_cons.1 hy with e' | e'
    ·exact e'.symm
    ·have a:=h1'.1 _ e';have b:=h2'.1 _ e;rw [ha] at b;omega
  subst e;rw [Qd ha ((List.perm_cons x).1 hp) h1'.2 h2'.2]
theorem Mk {l m:List T} (ha:∀ x y,cf y x=- cf x y) (hp:l.Perm m) (hd:l.Pairwise fun a b=>cf a b ≠ 0) (hs:m.Pairwise fun a b=>cf b a < 0 -> False):m.Pairwise fun a b=>cf a b < 0:=by
 have hd':m.Pairwise fun a b=>cf a b ≠ 0:=hp.pairwise hd (fun {a b} h=>by rw [ha];omega);refine (hs.and hd').imp fun {a b} h=>?_;have h1:¬ cf b a < 0:=h.1;have h2:=h.2;have h3:=ha a b;omega
theorem Me (x:T):∀ l:List T,(Abe cf x l).Perm (x :: l)
 | []=>.refl _
 | y :: l=>by
  unfold Abe
  cases decide (cf x y < 0) with
  | true=>exact .refl _
  | false=>exact ((Me x l).cons y).trans (.swap x y l)
theorem KD:∀ l:List T,(LZ cf l).Perm l
 | []=>.refl _
 | x :: l=>(Me x (LZ cf l)).trans ((KD l).cons x)
theorem Pj (ha:∀ x y,cf y x=- cf x y) (hO:SWO (ltOf cf)) (x:T):∀ l:List T,l.Pairwise (fun a b=>ltOf cf b a=false) -> (Abe cf x l).Pairwise fun a b=>ltOf cf b a=false
 | [],_=>List.pairwise_singleton _ _
 | y :: l, h => by
  obtain ⟨h1,h2⟩:=List.pairwise_cons.1 h;unfold Abe;by_cases hc:cf x y < 0
  ·rw [bf hc,bb];have hyx:ltOf cf y x=false:=by unfold ltOf;rw [decide_eq_false_iff_not];have:=ha x y;omega
   refine .cons (fun z hz=>?_) h;rcases List.mem_cons.1 hz with rfl | hz
   ·exact hyx
   ·exact hO.ntrans _ _ _ (h1 z hz) hyx
  ·rw [bg hc,bc];refine .cons (fun z hz=>?_) (Pj ha hO x l h2);rcases List.mem_cons.1 ((Me x l).subset hz) with rfl | hz
   ·unfold ltOf;rw [decide_eq_false_iff_not];exact hc
   ·exact h1 z hz
theorem PB (ha:∀ x y,cf y x=- cf x y) (hO:SWO (ltOf cf)):∀ l:List T,(LZ cf l).Pairwise fun a b=>ltOf cf b a=false
 | []=>.nil
 | x :: l=>Pj ha hO x _ (PB ha hO l)
theorem Mg (ha:∀ x y,cf y x=- cf x y) (hO:SWO (ltOf cf)) {l:List T} (h:WD cf l=true):(LZ cf l).Perm l /\ (LZ cf l).Pairwise fun a b=>cf a b < 0:=by
 have hp:(LZ cf l).Perm l:=KD l;refine ⟨hp,Mk ha hp.symm (Mb ha h) ?_⟩;exact (PB ha hO l).imp fun {a b} h=>by
  simpa [ltOf] using h
end
structure SE (K:Kn) {T:Type} (gd:T -> Bool) (c:T -> List D) (k:Nat) where
 x:T
 hg:gd x=true
 vs:List Value
 hl:vs.length=k
 hv:LR K vs (c x)
theorem LR.one' {K:Kn}:∀ {vs:List Value} {ds:List D},LR K vs ds -> ∀ v ∈ vs,v.oneCell'=true
 | _,_,.nil,v,h=>by simp at h
 | _,_,.cons h1 _ r,v,h=>by
  rcases List.mem_cons.1 h with e | e
  ·rw [e];exact h1
  ·exact r.one' v e
theorem LR.of {K:Kn}:∀ {vs:List Value} {ds:List D},vs.length=ds.length -> (∀ j,j < vs.length -> (vs.getD j undef).oneCell'=true) -> (∀ j,VR K (vs.getD j undef) (ds.getD j .any)) -> LR K vs ds
 | [],[],_,_,_=>.nil
 | [],_ :: _,h,_,_=>by simp at h
 | _ :: _,[],h,_,_=>by simp at h
 | v :: vs,d :: ds,h,h1,h2=>.cons (by simpa using h1 0 (by simp)) (by simpa using h2 0) (LR.of (by simpa using h) (fun j hj=>by simpa using h1 (j + 1) (by simpa using hj)) (fun j=>by simpa using h2 (j + 1)))
section
variable {P:Program} {ρ:Ren} {T:Type} {K:Kn} {h:Heap} {w:World} {O:List (Nat × AObj)}
theorem Hp_cons_ne {i j:Nat} {x:AObj} (hne:j ≠ i):Hp h ((i,x) :: O) j=Hp h O j:=by
 show (if i=0 then Hp h O else (Hp h O).upd i (some x)) j=_;split
 ·rfl
 ·exact Heap.upd_ne _ _ hne
theorem OK_none {i:Nat} {x:AObj} (ok:OK h ((i,x) :: O)) (hi:i ≠ 0):Hp h O i=none:=by
 rcases ok.1 with h0 | h1
 ·exact absurd h0.1 hi
 ·exact h1.2
theorem Nn (w:World) (blk b:Nat) (f:Array Value -> Array Value) (hf:∀ c,(f c).size=c.size):(mapBlock w blk f).shape? b=w.shape? b:=by
 simp only [World.shape?,mapBlock,Array.getElem?_modify];by_cases hb:blk=b
 ·subst hb;simp only [if_true]
  cases w.heap[blk]? with
  | none=>rfl
  | some o=>cases o with
   | cells c e fr=>simp only [Option.map_some,onCells,hf]
   | _=>rfl
 ·simp [hb]
theorem Keep.sort {α:Type} [Inhabited α] (enc:α -> List Value) (k:Nat) (w:World) (blk m:Nat) (d:Array α) (os:Array Obj):Keep w (sortWorldK enc k w blk 0 m d os) (fun b _=>b=blk):=by
 have hsz:(sortWorldK enc k w blk 0 m d os).heap.size=w.heap.size + os.size:=by simp [sortWorldK,grow,putRowK,Sort.ahead]
 refine ⟨fun b o hb hS=>?_,fun b hb hS=>?_,by rw [hsz];omega,rfl,rfl,rfl⟩
 ·have hlt:b < (putRowK enc k (Sort.ahead w m) blk 0 d).heap.size:=by simpa [putRowK,Sort.ahead] using hb
  refine ⟨?_,?_⟩
  ·show (grow (putRowK enc k (Sort.ahead w m) blk 0 d) os).cell? ⟨b,o,none⟩=_;rw [cell?_grow _ _ _ hlt];exact cell?_putRow_other id (Sort.ahead w m) blk 0 (flatK enc k d) ⟨b,o,none⟩ (.inl hS)
  ·show (grow (putRowK enc k (Sort.ahead w m) blk 0 d) os).frozen? ⟨b,o,none⟩=_;rw [frozen?_grow _ _ _ hlt];exact frozen?_putRow id (Sort.ahead w m) blk 0 (flatK enc k d) ⟨b,o,none⟩
 ·have hne:blk ≠ b:=fun e=>hS 0 e.symm;have hlt:b < (putRowK enc k (Sort.ahead w m) blk 0 d).heap.size:=by simpa [putRowK,Sort.ahead] using hb
  show (grow (putRowK enc k (Sort.ahead w m) blk 0 d) os).heap[b]?=_;rw [heap_grow_old _ _ hlt];simp [putRowK,putRow,mapBlock,Sort.ahead,Array.getElem?_modify,hne]
set_option maxHeartbeats 2000000 in
theorem SH (L:SlLaysF0.n6 P ρ) {k:Nat} (hk0:0 < k) (aE:∀ w,(isAgg (ρ.t 24)).run P w=.ok true w) (zE:∀ w,(Go.sizeOf (ρ.t 24)).run P w=.ok k w) {c:T -> List D} (hc:∀ x,(c x).length=k) {cf:T -> T -> Int} (ha:∀ x y,cf y x=- cf x y)
  (hO:SWO (ltOf cf)) {g:Nat} (eg:∀ args w,(callFunc g args).run P w=.ok (.enter g args) w) (he:CA P (ρ.f 6)=true) {gd:T -> Bool} (hz:∀ K:Kn,∃ z vs,gd z=true /\ LR K vs (c z))
  (hcmp:∀ (K:Kn) (h:Heap) (w:World) (x y:T) (vx vy:List Value),gd x=true -> gd y=true -> HR K h w -> LR K vx (c x) -> LR K vy (c y) -> Calls P g #[.agg vx.toArray,.agg vy.toArray] w fun e w'=>e=.returned (.int .i64 (cf x y)) /\ ∃ q os,w'=grow (w.drewN q) os)
  {id:Nat} {e e':List T} (ok:OK h ((id,.cells (fl c e)) :: O)) (hid:id ≠ 0) (hs:PG gd cf e=some e') :
  CallsA P (ρ.f 6) [.msl k id 0 e.length,.fn (.func g) [] []] (Hp h ((id,.cells (fl c e)) :: O)) fun d h'=>d=.tup [] /\ OK h ((id,.cells (fl c e')) :: O) /\ h'=Hp h ((id,.cells (fl c e')) :: O):=by
 obtain ⟨hapt,hgd,hsz,rfl⟩:=NJ hs;have hnone:=OK_none ok hid;refine .inl ⟨he,fun K w vs H hl hv=>?_⟩;have h0:=hv 0;have h1:=hv 1;have hvs:vs=#[vs.getD 0 undef,vs.getD 1 undef]:=XC hl;rw [hvs];generalize vs.getD 0 undef=v0 at h0;generalize vs.getD 1 undef=v1 at h1;simp only [List.getD_cons_zero,List.getD_cons_succ] at h0 h1;have hget:Hp h ((id,.cells (fl c e)) :: O) id=some (.cells (fl c e)):=Hp_get 0 ok rfl hid;have hob:=H.ok id _ hget;obtain ⟨hlen,hcells,⟨s,hsh⟩,hfz⟩:=hob;have hfl:(fl c e).length=e.length * k:=Fk hc e;have hblk:K.io id < w.heap.size:=by
  rcases Nat.lt_or_ge (K.io id) w.heap.size with h | h
  ·exact h
  ·simp [World.shape?,Array.getElem?_eq_none h] at hsh
 cases h1 with
 | fn _ _ _ x y hx hy _ _=>
 have ex:x=#[]:=Array.eq_empty_of_size_eq_zero (by simpa using hx);have ey:y=#[]:=Array.eq_empty_of_size_eq_zero (by simpa using hy);subst ex ey
 cases h0 with
 | msl _ _ _ _ cap hlt hn hcap=>
 have hcell:∀ j,j < K.sz id -> w.cell? ⟨K.io id,j,none⟩=some ((w.cell? ⟨K.io id,j,none⟩).getD undef) /\ ((w.cell? ⟨K.io id,j,none⟩).getD undef).oneCell'=true /\ VR K ((w.cell? ⟨K.io id,j,none⟩).getD undef) ((fl c e).getD j .any):=fun j hj=>by
  obtain ⟨v,h1,h2,h3⟩:=hcells j hj;rw [h1];exact ⟨rfl,h2,h3⟩
 generalize hcv:(fun j=>(w.cell? ⟨K.io id,j,none⟩).getD undef)=cv at *;have hcell':∀ j,j < K.sz id -> w.cell? ⟨K.io id,j,none⟩=some (cv j) /\ (cv j).oneCell'=true /\ VR K (cv j) ((fl c e).getD j .any):=by subst hcv;exact hcell
 have hbd:∀ i,i < e.length -> i * k + k <= e.length * k:=fun i hi=>by
  have:=Nat.mul_le_mul_right k (show i + 1 <= e.length from hi);rwa [Nat.add_mul,Nat.one_mul] at this
 have hel:∀ (i:Nat) (hi:i < e.length) (q:Nat),q < k -> (fl c e).getD (i * k + q) .any=(c e[i]).getD q .any:=fun i hi q hq=>by
  obtain ⟨a1,a2⟩:=LV hc (List.getElem?_eq_getElem hi);rw [a1,List.getD_eq_getElem?_getD,<- a2,List.getElem?_append_right (by omega),Nat.add_sub_cancel_left,List.getElem?_append_left (by rw [hc];exact hq),<- List.getD_eq_getElem?_getD]
 let mk:(i:Nat) -> i < e.length -> SE K gd c k:=fun i hi=>⟨e[i],hgd _ (bm hi),(List.range k).map fun q=>cv (i * k + q),by simp,by
  refine LR.of (by simp [hc]) (fun j hj=>?_) fun j=>?_
  ·have hj':j < k:=by simpa using hj
   have:=(hcell' (i * k + j) (by have:=hbd i hi;omega)).2.1;simpa [List.getD,hj'] using this
  ·by_cases hj:j < k
   ·have:=(hcell' (i * k + j) (by have:=hbd i hi;omega)).2.2;rw [hel i hi j hj] at this;simpa [List.getD,hj] using this
   ·have e1:(c e[i]).getD j .any=.any:=by rw [List.getD_eq_getElem?_getD,List.getElem?_eq_none (by rw [hc];omega)];rfl
    rw [e1];exact .any _⟩
 obtain ⟨z0,vz,hgz,hz0⟩:=hz K
 haveI:Inhabited (SE K gd c k):=⟨⟨z0,hgz,vz,by rw [hz0.length,hc],hz0⟩⟩
 let d:Array (SE K gd c k):=(List.ofFn fun i:Fin e.length=>mk i.1 i.2).toArray
 have hds:d.size=e.length:=by simp [d]
 have hdg:∀ i (hi:i < e.length),d[i]! = mk i hi:=fun i hi=>by
  rw [getElem!_pos d i (by rw [hds];exact hi)];simp [d]
 have hdx:d.toList.map (·.x)=e:=by
  refine List.ext_getElem (by simp [d]) fun i h1 h2=>?_;simp [d,mk]
 let enc:SE K gd c k -> List Value:=fun s=>s.vs
 have hflat:∀ t,t < e.length * k -> (flatK enc k d)[t]! = cv t:=fun t ht=>by
  rw [get_flatK _ _ _ _ (by rw [hds];exact ht)];have hq:t / k < e.length:=by rw [Nat.div_lt_iff_lt_mul hk0];exact ht
  rw [hdg _ hq];have hr:t % k < k:=Nat.mod_lt _ hk0;have:(mk (t / k) hq).vs[t % k]! = cv ((t / k) * k + t % k):=by simp [mk,hr]
  show (mk (t / k) hq).vs[t % k]! = _;rw [this,Nat.div_add_mod']
 have hH:HoldsK enc k w (K.io id) 0 d:=fun j hj=>by
  have hj':j < e.length * k:=by simpa [hds] using hj
  rw [Nat.zero_add,hflat j hj'];exact ⟨(hcell' j (by omega)).1,hfz j⟩
 have own0:own K id (.cells (fl c e))=fun b _=>b=K.io id:=rfl;have rest:∀ (x':AObj) j,¬ j=id -> Hp h ((id,x') :: O) j=Hp h ((id,.cells (fl c e)) :: O) j \/ Hp h ((id,x') :: O) j=none:=fun x' j hj=>.inl (by rw [Hp_cons_ne hj,Hp_cons_ne hj]);have HR1:∀ (m:Nat) (dk:Array (SE K gd c k)) (os:Array Obj),HR K (Hp h O) (sortWorldK enc k w (K.io id) 0 m dk os):=fun m dk os=>
  HR.change (C:=fun i=>i=id) H (Ext.refl K) (Keep.sort enc k w (K.io id) m dk os) (fun b o hb=>⟨id,_,rfl,hget,hb⟩) (fun j hj=>.inl (Hp_cons_ne hj).symm) (fun _ _ _ hv=>.inl hv) (by rw [<- Hp_cons_ne (i:=id) (x:=.cells (fl c e)) (Ne.symm hid)];exact H.z) fun i x hi hx=>by
   subst hi;rw [hnone] at hx;cases hx
 have hcl:CmpLays P g #[] enc k (fun a b=>cf a.x b.x) (K.io id) 0 d.size w:=fun m os dk hdk x y=>
  (hcmp K _ _ x.x y.x x.vs y.vs x.hg y.hg (HR1 m dk os) x.hv y.hv).mono fun e1 w1 ⟨a1,q,os1,a2⟩=>⟨a1,q,os1,a2⟩
 have hO':SWO (ltOf fun a b:SE K gd c k=>cf a.x b.x):=⟨fun a=>hO.irrefl a.x,fun a b cc=>hO.trans a.x b.x cc.x,fun a b cc=>hO.ntrans a.x b.x cc.x⟩
 have key:=AnyQ.slices_SortFunc L k aE zE enc (fun s=>s.hl) (fun s=>s.hv.one') (fun a b=>cf a.x b.x) hO' g #[] (K.io id) 0 cap d w eg hcl hH hblk (by rw [hds];exact hsz);rw [hds] at key;refine key.mono ?_;rintro _ w' ⟨rfl,d',n,os,hp,hsd,rfl⟩;have hd's:d'.size=e.length:=by rw [hp.1,hds]
 have hperm:d'.toList.Perm d.toList:=by
  have:=hp.2.2;rw [<- hds] at this;have e1:d.extract 0 d.size=d:=by simp
  have e2:d'.extract 0 d.size=d':=by rw [<- hp.1];simp
  rw [e1,e2] at this;exact this
 have hxe:d'.toList.map (·.x)=LZ cf e:=by
  obtain ⟨b1,b2⟩:=Mg ha hO hapt;have p1:(d'.toList.map (·.x)).Perm e:=by rw [<- hdx];exact hperm.map _
  refine Qd ha (p1.trans b1.symm) (Mk ha p1.symm (Mb ha hapt) ?_) b2;rw [List.pairwise_iff_getElem];intro i j hi hj hij hlt;have:=hsd i j (Nat.zero_le _) hij (by simpa [hd's] using hj);have hi':i < d'.size:=by simpa using hi
  have hj':j < d'.size:=by simpa using hj
  rw [getElem!_pos d' i hi',getElem!_pos d' j hj'] at this;simp only [ltOf,decide_eq_false_iff_not] at this;exact this (by simpa using hlt)
 have hlen':(LZ cf e).length=e.length:=(Mg ha hO hapt).1.length_eq;have hfl':(fl c (LZ cf e)).length=e.length * k:=by rw [Fk hc,hlen']
 have hOK':OK h ((id,.cells (fl c (LZ cf e))) :: O):=⟨.inr ⟨hid,hnone⟩,ok.2⟩
 have hput:∀ j,j < e.length * k -> (sortWorldK enc k w (K.io id) 0 n d' os).cell? ⟨K.io id,j,none⟩=some ((flatK enc k d')[j]!):=fun j hj=>by
  have h1:(putRowK enc k (Sort.ahead w n) (K.io id) 0 d').cell? ⟨K.io id,0 + j,none⟩=some (_root_.id (flatK enc k d')[j]!):=cell?_putRow _root_.id (Sort.ahead w n) (K.io id) 0 (flatK enc k d) (flatK enc k d') hH (by simp [hds,hd's]) j (by simpa [hd's] using hj);rw [Nat.zero_add] at h1;show (grow (putRowK enc k (Sort.ahead w n) (K.io id) 0 d') os).cell? _=_;rw [cell?_grow _ _ _ (by simpa [putRowK,Sort.ahead] using hblk)];exact h1
 refine ⟨.tuple #[],.tup [],K,Hp h ((id,.cells (fl c (LZ cf e))) :: O),rfl,Ext.refl K,?_,.tup _ _ rfl (fun i=>by simp;exact .any _),rfl,hOK',rfl⟩;refine HR.change (C:=fun i=>i=id) H (Ext.refl K) (Keep.sort enc k w (K.io id) n d' os) (fun b o hb=>⟨id,_,rfl,hget,hb⟩) (rest _) (fun _ _ _ hv=>.inl hv) (by rw [Hp_cons_ne (Ne.symm hid),<- Hp_cons_ne (i:=id) (x:=.cells (fl c e)) (Ne.symm hid)];exact H.z) fun i x hi hx=>?_;have hi:=hi.symm;subst hi;rw [Hp_get 0 hOK' rfl hid] at hx;injection hx with hx
 subst hx;refine ⟨H.lt _ _ hget,⟨by omega,fun j hj=>?_,⟨s,?_⟩,fun o=>?_⟩,fun b o hb=>⟨H.ge _ _ hget b o hb,H.nomu _ _ hget b o hb,fun j y hj hy=>H.sep _ _ _ _ (Ne.symm hj) hget hy b o hb,fun j y hj hne _ _=>hne hj⟩⟩
 ·by_cases hjk:j < e.length * k
  ·rw [hput j hjk];have hq:j / k < d'.size:=by rw [hd's,Nat.div_lt_iff_lt_mul hk0];exact hjk
   have hr:j % k < k:=Nat.mod_lt _ hk0;rw [get_flatK _ _ _ _ (by rw [hd's];exact hjk)];have hq2:j / k < (LZ cf e).length:=by rw [hlen',<- hd's];exact hq
   have hxx:(d'[j / k]!).x=(LZ cf e)[j / k]:=by
    rw [getElem!_pos d' _ hq];have h1:(d'.toList.map (·.x))[j / k]?=(LZ cf e)[j / k]?:=by rw [hxe]
    rw [List.getElem?_map,List.getElem?_eq_getElem hq2,List.getElem?_eq_getElem (by simpa using hq)] at h1;simpa using h1
   have hcd:(fl c (LZ cf e)).getD j .any=(c (LZ cf e)[j / k]).getD (j % k) .any:=by
    obtain ⟨a1,a2⟩:=LV hc (List.getElem?_eq_getElem hq2)
    conv=>lhs;rw [<- Nat.div_add_mod' j k]
    rw [a1,List.getD_eq_getElem?_getD,<- a2,List.getElem?_append_right (by omega),Nat.add_sub_cancel_left,List.getElem?_append_left (by rw [hc];exact hr),<- List.getD_eq_getElem?_getD]
   have hL:=(d'[j / k]!).hv;rw [hxx] at hL;have hvl:=(d'[j / k]!).hl;have hg:=hL.get (j % k);have e3:(enc d'[j / k]!)[j % k]! = (d'[j / k]!).vs.getD (j % k) undef:=by
    show (d'[j / k]!).vs[j % k]! = _;rw [List.getD_eq_getElem?_getD,List.getElem?_eq_getElem (by omega),List.getElem!_eq_getElem?_getD,List.getElem?_eq_getElem (by omega)];rfl
   rw [e3,hcd];exact ⟨_,rfl,hg.2 (by omega),hg.1⟩
  ·obtain ⟨v,hv1,hv2,hv3⟩:=hcells j hj;refine ⟨v,?_,hv2,?_⟩
   ·show (grow (putRowK enc k (Sort.ahead w n) (K.io id) 0 d') os).cell? _=_;rw [cell?_grow _ _ _ (by simpa [putRowK,Sort.ahead] using hblk)];have:(putRowK enc k (Sort.ahead w n) (K.io id) 0 d').cell? ⟨K.io id,j,none⟩=(Sort.ahead w n).cell? ⟨K.io id,j,none⟩:=cell?_putRow_other _root_.id (Sort.ahead w n) (K.io id) 0 (flatK enc k d') ⟨K.io id,j,none⟩ (.inr (.inr (by simp [hd's];omega)));rw [this];exact hv1
   ·have:(fl c (LZ cf e)).getD j .any=.any:=by rw [List.getD_eq_getElem?_getD,List.getElem?_eq_none (by omega)];rfl
    rw [this];exact .any _
 ·show (grow (putRowK enc k (Sort.ahead w n) (K.io id) 0 d') os).shape? (K.io id)=_;have e1:(grow (putRowK enc k (Sort.ahead w n) (K.io id) 0 d') os).shape? (K.io id)=(putRowK enc k (Sort.ahead w n) (K.io id) 0 d').shape? (K.io id):=by
   simp only [World.shape?];rw [heap_grow_old _ _ (by simpa [putRowK,Sort.ahead] using hblk)]
  rw [e1];exact (Nn (Sort.ahead w n) (K.io id) (K.io id) _ (fun c=>by simp [putCells])).trans hsh
 ·show (grow (putRowK enc k (Sort.ahead w n) (K.io id) 0 d') os).frozen? _=_;rw [frozen?_grow _ _ _ (by simpa [putRowK,Sort.ahead] using hblk)];exact (frozen?_putRow _root_.id (Sort.ahead w n) (K.io id) 0 (flatK enc k d') _).trans (hfz o)
end

set_option linter.unusedSimpArgs false
set_option linter.unusedVariables false
section
variable {P:Program} {pv:Value} {md:Nat -> Nat} {k kp:St -> Prop}
def Td (P:Program) (pv:Value) (md:Nat -> Nat) (l:List Oper) (k kp:St -> Prop):Nat -> Array Bool -> St -> Prop
 | 0,L,s=>Region.ready .any l.toArray L=[] /\ k s
 | f + 1, L, s => (Region.ready .any l.toArray L = [] -> k s) /\ ∀ i ∈ Region.ready .any l.toArray L, ∃ o, l[i]? = some o /\
   ((AO P md true l.toArray [o] s fun s'=>Td P pv md l k kp f (L.setIfInBounds i true) s') \/ AO P md true l.toArray [] s fun t=>Aa1 P pv o t (fun s'=>Td P pv md l k kp f (L.setIfInBounds i true) s') kp)
theorem Q5 {l:List Oper} {df:List Deferred} {K0:Kn} {Q:Exit -> St -> Prop}:∀ (f:Nat) (L:Array Bool) {K:Kn} {s:St} {a:Act} {w:World},Ext K0 K -> Sim df K s a w -> Td P pv md l (Q .normal) (Q (.panic (Hk pv))) f L s -> wpAny P .any l.toArray (PostS df K0 Q) f L a w
 | 0,L,K,s,a,w,E0,S,h=>⟨h.1,K,s,E0,S,h.2⟩
 | f + 1,L,K,s,a,w,E0,S,h=>by
  refine ⟨fun hr=>⟨K,s,E0,S,h.1 hr⟩,fun i hi=>?_⟩;obtain ⟨o,ho,h1 | h1⟩:=h.2 i hi
  ·obtain ⟨K1,t,E1,S1,q⟩:=h1 df K a w S;exact LI (Oa P) (by simpa using ho) S1 q fun K2 s2 a2 w2 E2 S2 h2=>by
    obtain ⟨K3,t3,E3,S3,q3⟩:=h2 df K2 a2 w2 S2;exact Q5 f _ (((E0.trans E1).trans E2).trans E3) S3 q3
  ·obtain ⟨K1,t,E1,S1,q⟩:=h1 df K a w S;exact Us (by simpa using ho) S1 q (fun K2 s2 a2 w2 E2 S2 h2=>Q5 f _ ((E0.trans E1).trans E2) S2 h2) fun K2 s2 w2 E2 S2 h2=>⟨K2,s2,(E0.trans E1).trans E2,S2,h2⟩
theorem XL (md:Nat -> Nat) (hm:P.follows .mixedOrders=true) {id:Nat} {l:List Oper} {Q:Exit -> St -> Prop} {s:St} (h:Td P pv md l (Q .normal) (Q (.panic (Hk pv))) l.length (Array.replicate l.length false) s):WP P (.region id l.toArray true) Q s:=fun df K a w S=>by
 refine wp_region_any hm ?_;have S':Sim df K s a { w with drawn:=w.drawn + 1 }:=S.drew;have:=Q5 _ _ (Ext.refl K) S' h;simpa using this
def stP (P:Program) (pv:Value) (md:Nat -> Nat) (l:List Oper) (k kp:St -> Prop) (f:Nat) (L:Array Bool) (o:Oper) (s:St):Prop:=
 (AO P md true l.toArray [o] s fun s'=>Td P pv md l k kp f L s') \/ AO P md true l.toArray [] s fun t=>Aa1 P pv o t (fun s'=>Td P pv md l k kp f L s') kp
variable {l:List Oper} {s:St} {f:Nat} {L:Array Bool}
theorem AP_end (he:(Region.ready .any l.toArray L).isEmpty=true) (h:k s):Td P pv md l k kp 0 L s:=⟨by simpa using he,h⟩
theorem AP_one (a:Nat) (o:Oper) (L1:Array Bool) (hr:(Region.ready .any l.toArray L == [a])=true) (ha:l[a]?=some o) (hL:L.setIfInBounds a true=L1) (h:stP P pv md l k kp f L1 o s):Td P pv md l k kp (f + 1) L s:=by
 have hr':=beq_iff_eq.1 hr;refine ⟨fun h0=>(by rw [h0] at hr';cases hr'),fun i hi=>?_⟩;rw [hr'] at hi;have:i=a:=by simpa using hi
 subst this;subst hL;exact ⟨o,ha,h⟩
theorem AP_two (a b:Nat) (oa ob:Oper) (la lb:Array Bool) (hr:(Region.ready .any l.toArray L == [a,b])=true) (ha:l[a]?=some oa) (hb:l[b]?=some ob) (hla:L.setIfInBounds a true=la) (hlb:L.setIfInBounds b true=lb) (h1:stP P pv md l k kp f la oa s) (h2:stP P pv md l k kp f lb ob s):Td P pv md l k kp (f + 1) L s:=by
 have hr':=beq_iff_eq.1 hr;refine ⟨fun h0=>(by rw [h0] at hr';cases hr'),fun i hi=>?_⟩;rw [hr'] at hi;have:i=a \/ i=b:=by simpa using hi
 rcases this with rfl | rfl
 ·subst hla;exact ⟨oa,ha,h1⟩
 ·subst hlb;exact ⟨ob,hb,h2⟩
theorem Ao1 (a:Nat) {o:Oper} (h:stP P pv md l k kp f (L.setIfInBounds a true) o s) (hr:(Region.ready .any l.toArray L == [a])=true:=by kernel_rfl) (ha:l[a]?=some o:=by rfl):Td P pv md l k kp (f + 1) L s:=AP_one a o _ hr ha rfl h
theorem Ao2 (a b:Nat) {oa ob:Oper} (h1:stP P pv md l k kp f (L.setIfInBounds a true) oa s) (h2:stP P pv md l k kp f (L.setIfInBounds b true) ob s) (hr:(Region.ready .any l.toArray L == [a,b])=true:=by kernel_rfl) (ha:l[a]?=some oa:=by rfl) (hb:l[b]?=some ob:=by rfl):Td P pv md l k kp (f + 1) L s:=AP_two a b oa ob _ _ hr ha hb rfl rfl h1 h2
theorem SP_op {o:Oper} (h:AO P md true l.toArray [o] s fun s'=>Td P pv md l k kp f L s'):stP P pv md l k kp f L o s:=.inl h
theorem SP_pan {o:Oper} (h:Aa1 P pv o s (fun s'=>Td P pv md l k kp f L s') kp):stP P pv md l k kp f L o s:=.inr (Ls h)
end

set_option linter.unusedSimpArgs false
set_option linter.unusedVariables false
def Tw (pv:Value):Bool -> FrameMode
 | true=>.panicking (Hk pv)
 | false=>.returning
def CallsDA (P:Program) (pv:Value) (f:FuncId) (cap:List D) (b:Bool) (h:Heap) (R:Heap -> Prop):Prop:=
 ∀ (K:Kn) (w:World) (vs:Array Value),HR K h w -> vs.size=cap.length -> (∀ i,VR K (vs.getD i undef) (cap.getD i .any)) ->
  CallsD P f vs (Tw pv b) w fun e u' w'=>(∃ v,e=.returned v) /\ settle u'=.returning /\ ∃ K' h',Ext K K' /\ HR K' h' w' /\ R h'
section
variable {P:Program} {pv:Value}
def DefQ (P:Program) (pv:Value) (g:FuncId) (cap:List D) (fn:Func) (R:D -> Heap -> Prop):Exit -> St -> Prop
 | .normal,s | .ret,s=>CallsDA P pv g cap false s.h fun h'=>RetP P fn R .ret ⟨s.sl,h'⟩
 | .panic c,s=>c=Hk pv /\ CallsDA P pv g cap true s.h fun h'=>RetP P fn R .ret ⟨s.sl,h'⟩
 | _,_=>False
theorem Y2 {id dm:Nat} {g:FuncId} {cs:Array Operand} {ty ty':TypeId} {pos pos':String} {af af':Array Edge} {a:Act} {w:World} {Q:Exit -> Act -> World -> Prop} (hlt:dm < a.tmps.size)
  (h:Q .normal { tmps:=a.tmps.setIfInBounds dm (.func (.func g) #[] (cs.map a.eval)),defers:=⟨.fn (.func g) (cs.map a.eval),#[]⟩ :: a.defers } w) :
  (Code.region id #[⟨some dm,.makeFunc (.func g) #[] cs,ty,pos,af,none⟩,⟨none,.defer ⟨.value (.tmp dm),#[],#[]⟩,ty',pos',af',none⟩] false).wp P Q a w:=by
 have hmf:∀ (fn:Fn) (first cap:Array Value) (w:World),(Instr.makeFunc fn first cap).run P w=.ok (.func fn first cap) w:=fun _ _ _ _=>rfl;refine wp_region ?_;have e:((a.put (some dm) (.func (.func g) #[] (cs.map a.eval))).eval (.tmp dm))=.func (.func g) #[] (cs.map a.eval):=by
  simp [Act.eval,Act.put,Array.getD,hlt]
 show wpOps P _ Q [0,1] a w;unfold wpOps;simp only [List.getElem?_toArray,List.getElem?_cons_zero,Region.wanted,if_true];refine .inl ?_;simp only [Oper.wp,execOp,hmf,Sem.run_bind,Sem.run_map,Sem.run_pure,Array.map_empty,Result.andThen,Oper.upon_value];show wpOps P _ Q [1] (a.put (some dm) (.func (.func g) #[] (cs.map a.eval))) w;unfold wpOps;simp only [List.getElem?_toArray,List.getElem?_cons_zero,List.getElem?_cons_succ,Region.wanted,if_true];refine .inl ?_;simp only [Oper.wp,execOp,e,resolve,Deferred.ofValue,Sem.run_bind,Sem.run_map,Sem.run_pure,Array.map_empty,Array.append_empty,Result.andThen,Oper.upon_defer];exact h
theorem WS_set {n t:Nat} {l l':List (Nat × D)} {h:Heap} (hl:WL n l l') (ht:G3 l' t=.any):WS ⟨(AI n l).set t .any,h⟩ ⟨AI n l',h⟩:=
 ⟨by simp [DC],fun i=>by
  by_cases e:t=i
  ·subst e;have:(AI n l').getD t .any=.any:=by rw [DA,ht];split <;> rfl
   rw [this];exact .any _
  ·have h1:((AI n l).set t .any).getD i .any=(AI n l).getD i .any:=by
    rw [List.getD_eq_getElem?_getD,List.getElem?_set_ne e,<- List.getD_eq_getElem?_getD]
   rw [h1,DA,DA];split
   ·exact hl.spec i
   ·exact .refl _,WH.refl _⟩
theorem CallsA_defer {f g dm N id:Nat} {fn:Func} {r0 r1 c:Code} {cs:Array Operand} {ty ty':TypeId} {pos pos':String} {af af':Array Edge} {args:List D} {h:Heap} {R:D -> Heap -> Prop} {M:St -> Prop} (hf:P.funcs[f]?=some fn)
  (hb:fn.body=some (.seq r0 (.seq r1 (.seq (.region id #[⟨some dm,.makeFunc (.func g) #[] cs,ty,pos,af,none⟩,⟨none,.defer ⟨.value (.tmp dm),#[],#[]⟩,ty',pos',af',none⟩] false) c))))
  (he:CA P f=true) (hg:CA P g=true) (hn:fn.ntmps=N) (ha:args.length + (N - args.length)=N) (hdm:dm < N)
  (h01:WP P r0 (Exit.sel (WP P r1 (Exit.sel M fun _ _=>False)) fun _ _=>False) ⟨AI N (TI 0 args),h⟩)
  (h2:∀ s,M s -> WP P c (DefQ P pv g (cs.toList.map (opD s.sl)) fn R) ⟨s.sl.set dm .any,s.h⟩ /\ s.sl.length=N):CallsA P f args h R:=by
 refine .inl ⟨he,fun K w vs H hl hv=>calls_of_wp_defers hf hb ?_⟩;have S:Sim [] K ⟨AI N (TI 0 args),h⟩ { tmps:=vs ++ Array.replicate (fn.ntmps - vs.size) undef,defers:=[] } w:=by
  rw [<- ha,<- R7];refine ⟨H,rfl,by simp [hl,hn],fun i=>?_⟩;refine F2 hl hv (fun j=>?_) i;by_cases hj:j < N - args.length
  ·simp [List.getD,hj];exact .any _
  ·simp [List.getD,hj];exact .any _
 refine wp_seq (Code.wp_mono ?_ (h01 [] K _ w S));rintro e a w' ⟨K1,s1,E1,S1,q⟩
 cases e with
 | normal =>
  refine wp_seq (Code.wp_mono ?_ (q [] K1 a w' S1));rintro e2 a2 w2 ⟨K2,s2,E2,S2,q⟩
  cases e2 with
  | normal =>
   obtain ⟨hW,hN⟩:=h2 s2 q;refine wp_seq (Y2 (by rw [S2.n,hN];exact hdm) ?_);have S3:Sim [⟨.fn (.func g) (cs.map a2.eval),#[]⟩] K2 ⟨s2.sl.set dm .any,s2.h⟩ { tmps:=a2.tmps.setIfInBounds dm (.func (.func g) #[] (cs.map a2.eval)),defers:=⟨.fn (.func g) (cs.map a2.eval),#[]⟩ :: a2.defers } w2:=by
    have:=S2.put (dst:=some dm) (Ext.refl K2) S2.h (.any (.func (.func g) #[] (cs.map a2.eval)));exact ⟨this.h,by simp [S2.d],this.n,this.v⟩
   have key:∀ (b:Bool) (a3:Act) (K3:Kn) (s3:St) (w3:World),Ext K2 K3 -> Sim [⟨.fn (.func g) (cs.map a2.eval),#[]⟩] K3 s3 a3 w3 -> CallsDA P pv g (cs.toList.map (opD s2.sl)) b s3.h (fun h'=>RetP P fn R .ret ⟨s3.sl,h'⟩) ->
     Leaves P fn a3.tmps (fun e w'=>∃ v d K' h',e=.returned v /\ Ext K K' /\ HR K' h' w' /\ VR K' v d /\ R d h') a3.defers (Tw pv b) w3:=by
    intro b a3 K3 s3 w3 E3 S4 hc;rw [S4.d];have hfg : ∃ fg, P.funcs[g]? = some fg /\ fg.body ≠ none /\ fg.name ≠ "runtime.NumGoroutine" := by
     unfold CA at hg;split at hg
     ·rename_i fg hfg;simp only [Bool.and_eq_true,Bool.not_eq_true'] at hg;exact ⟨fg,hfg,fun e=>by simp [e] at hg,by simpa using hg.2⟩
     ·simp at hg
    obtain ⟨fg,hfg,hbn,hne⟩:=hfg;refine leaves_cons (f:=g) (args:=cs.map a2.eval) (by cases b <;> simp [Tw]) (by simp [invoke,callFunc,hfg,hne,hbn]) ?_;refine (hc K3 w3 (cs.map a2.eval) S4.h (by simp) fun i=>(H8 S2.eval cs i).mono E3).mono ?_;rintro e4 u4 w4 ⟨⟨v4,rfl⟩,hs4,K4,h4,E4,H4,hr⟩;show Leaves P fn a3.tmps _ [] (settle u4) w4;rw [hs4];obtain ⟨v,d,hr,hvr,hRd⟩:=HE (df:=a3.defers) (s:=⟨s3.sl,h4⟩) ⟨H4,rfl,S4.n,fun i=>(S4.v i).mono E4⟩ hr;exact ⟨v,hr,v,d,K4,h4,rfl,((E1.trans E2).trans E3).trans E4,H4,hvr,hRd⟩
   show Code.wp P c _ _ w2;refine Code.wp_mono ?_ (hW _ K2 _ w2 S3);rintro e3 a3 w3 ⟨K3,s3,E3,S4,q⟩
   cases e3 with
   | normal=>exact key false a3 K3 s3 w3 E3 S4 q
   | ret=>exact key false a3 K3 s3 w3 E3 S4 q
   | panic ch=>
    obtain ⟨rfl,q⟩:=q;exact key true a3 K3 s3 w3 E3 S4 q
   | exit id=>exact (show False from q).elim
   | goto l=>exact (show False from q).elim
   | outgrown=>exact (show False from q).elim
  | _=>exact (show False from q).elim
 | _=>exact (show False from q).elim
end

set_option linter.unusedSimpArgs false
set_option linter.unusedVariables false
def GW {α:Type} (q id:Nat) (a e:List α):D:=match id with
 | 0=>.snil
 | i + 1=>.msl q (i + 1) (a.length * q) e.length
theorem Js {α:Type} {q id:Nat} {a e:List α} (h:id ≠ 0):GW q id a e=.msl q id (a.length * q) e.length:=by cases id with | zero=>exact absurd rfl h | succ i=>rfl
theorem Wz {α:Type} {q id:Nat} {a e e':List α} (h:e'.length=e.length):GW q id a e=GW q id a e':=by cases id with | zero=>rfl | succ i=>simp [GW,h]
theorem WN {α:Type} {q id:Nat} {e:List α}:D0 q id e=GW q id [] e:=by cases id with | zero=>rfl | succ i=>simp [GW,D0]
def Wh {α:Type} (q id:Nat) (a:List α) (i:Int) (len:Nat) (b:List α):D:=if id=0 then .snil else if i=0 \/ i < (len:Int) then .msl q id (a.length * q + i.toNat * q) b.length else .sl q [] 0
theorem Uu {α:Type} {a e:List α} {i:Int} {x:α} (h:idx e i=some x):idx (a ++ e) ((a.length:Int) + i)=some x:=by
 obtain ⟨h0,h1,_⟩:=I4 h;unfold idx;rw [if_pos (by omega)];have:((a.length:Int) + i).toNat=a.length + i.toNat:=by omega
 rw [this,List.getElem?_append_right (by omega),Nat.add_sub_cancel_left,h1]
theorem M0 {n:Nat} {i:Int} {q:Nat} (h:0 <= i):((n:Int) + i).toNat * q=n * q + i.toNat * q:=by
 have:((n:Int) + i).toNat=n + i.toNat:=by omega
 rw [this,Nat.add_mul]
section
variable {P:Program} {md:Nat -> Nat} {w:Bool} {ops:Array Oper} {os:List Oper} {k:St -> Prop} {n:Nat} {l:List (Nat × D)} {h:Heap} {d:Nat} {t ty:TypeId} {pos:String} {af:Array Edge} {x y z:Operand}
variable {β:Type} {G:β -> Prop} {O:List (Nat × AObj)} {α:Type} {c:α -> List D} {a e:List α} {q id:Nat}
theorem Q0 {et:TypeId} (hz:id=0 -> e=[]) (hx:opL n l x=GW q id a e) (ht:slD P t=some et) (hk:AO P md w ops os ⟨AI n ((d,.int .i64 (e.length:Int)) :: l),h⟩ k) :
  AO P md w ops (⟨some d,.call ⟨.builtin .len,#[x],#[t]⟩,ty,pos,af,none⟩ :: os) ⟨AI n l,h⟩ k:=by
 cases id with
 | zero=>exact Yr hx ht (by have e1:=hz rfl;subst e1;exact hk)
 | succ i=>exact XH hx ht hk
theorem UT {et:TypeId} {K:IntKind} {i:Int} {f:α -> Option β} (hz:id=0 -> e=[]) (hx:opL n l x=GW q id a e) (hy:opL n l y=.int K i) (hs:slD P t=some et) (hq:szD P et=some q)
  (hF:OptP ((idx e i).bind f) G) (hk:∀ b,idx e i=some b -> OptP (f b) G -> AO P md w ops os ⟨AI n ((d,.ptr id (a.length * q + i.toNat * q)) :: l),h⟩ k):AO P md w ops (⟨some d,.indexAddr t x y,ty,pos,af,none⟩ :: os) ⟨AI n l,h⟩ k:=by
 obtain ⟨b,hb,hFb⟩:=A8 hF;have h0:id ≠ 0:=UO hz hb;have hx':opL n l x=.msl q id (a.length * q) e.length:=by rw [hx,Js h0]
 obtain ⟨c0,_,hlt⟩:=I4 hb;refine F6 ?_;simp only [Cz,hx',hy,D9,hs,hq,c0,hlt,true_and,and_self,if_true,OptP_some];exact hk b hb hFb
theorem Yw {off f0 j:Nat} {i:Int} {b:α} {v:D} (ok:OK h O) (hm:md d=0) (hz:id=0 -> e=[]) (hx:opL n l x=.ptr id off) (hj:O[j]?=some (mo id c (a ++ e))) (hc:∀ a,(c a).length=q)
  (hi:idx e i=some b) (ho:off=a.length * q + i.toNat * q + f0) (hle:Nat.ble f0 q=true) (hp:Fd P t ((c b).drop f0)=some v)
  (hk:AO P md w ops os ⟨AI n ((d,v) :: l),Hp h O⟩ k):AO P md w ops (⟨some d,.load t x,ty,pos,af,none⟩ :: os) ⟨AI n l,Hp h O⟩ k:=
 have h0:=UO hz hi
 Ab8 ok hm hx (by rw [hj,EI h0]) h0 hc (Uu hi) (by rw [M0 (I4 hi).1];exact ho) hle hp hk
theorem Ab0 {off f0 j:Nat} {i:Int} {b b':α} {v:D} (ok:OK h O) (hz:id=0 -> e=[]) (hx:opL n l x=.ptr id off) (hy:opL n l y=v) (hj:O[j]?=some (mo id c (a ++ e))) (hc:∀ a,(c a).length=q)
  (hi:idx e i=some b) (ho:off=a.length * q + i.toNat * q + f0) (h1:v.lay=true) (h2:szD P t=some v.cells.length) (hle:Nat.ble (f0 + v.cells.length) q=true) (hb:GH (c b) f0 v.cells=c b')
  (hk:(id=0 -> e.set i.toNat b'=[]) -> OK h (O.set j (mo id c (a ++ e.set i.toNat b'))) -> AO P md w ops os ⟨AI n l,Hp h (O.set j (mo id c (a ++ e.set i.toNat b')))⟩ k) :
  AO P md w ops (⟨none,.store t x y,ty,pos,af,none⟩ :: os) ⟨AI n l,Hp h O⟩ k:=by
 have h0:=UO hz hi;have c0:=(I4 hi).1;have es:(a ++ e).set ((a.length:Int) + i).toNat b'=a ++ e.set i.toNat b':=by
  have:((a.length:Int) + i).toNat=a.length + i.toNat:=by omega
  rw [this,List.set_append_right _ _ (by omega),Nat.add_sub_cancel_left]
 refine Acv ok hx hy (by rw [hj,EI h0]) h0 hc (Uu (a:=a) hi) (by rw [M0 c0];exact ho) h1 h2 hle hb fun ok'=>?_;have:=hk (fun h=>absurd h h0);rw [EI h0] at this;rw [es] at ok' ⊢;exact this ok'
theorem Ad1 {et:TypeId} {lo hi:Option Operand} {i j:Int} {f:List α -> Option β} (hz:id=0 -> e=[]) (hx:opL n l x=GW q id a e) (hs:slD P t=some et) (hq:szD P et=some q)
  (h1:C2 (lo.map (opL n l)) 0=some i) (h2:C2 (hi.map (opL n l)) e.length=some j) (hF:OptP ((slc e i j).bind f) G)
  (hk:∀ b,slc e i j=some b -> OptP (f b) G -> AO P md w ops os ⟨AI n ((d,Wh q id a i e.length b) :: l),h⟩ k) :
  AO P md w ops (⟨some d,.slice t x lo hi none,ty,pos,af,none⟩ :: os) ⟨AI n l,h⟩ k:=by
 obtain ⟨b,hb,hFb⟩:=A8 hF;obtain ⟨c1,c2,c3,c4⟩:=Q2 hb;refine F6 ?_
 cases id with
 | zero=>
  have e1:=hz rfl;subst e1;simp at c3;have g1:i=0:=by omega
  have g2:j=0:=by omega
  have hx':opL n l x=.snil:=hx;simp only [Cz,hx',IX,hs,h1,hq];have h2':C2 (hi.map (opL n l)) 0=some j:=h2;simp only [h2',g1,g2,hq,Option.isSome_some,and_self,if_true,OptP_some];exact hk b hb hFb
 | succ m =>
  have hx':opL n l x=.msl q (m + 1) (a.length * q) e.length:=hx;have:=hk b hb hFb;unfold Wh at this;rw [if_neg (by simp)] at this;simp only [Cz,hx',Lo,hs,ba,hq,h1,h2,if_true];by_cases hc:i=0 \/ i < (e.length:Int)
  ·rw [if_pos ⟨c1,c2,c3,hc⟩,OptP_some];rw [if_pos hc] at this;have hl:j.toNat - i.toNat=b.length:=by rw [c4];simp;omega
   rw [hl];exact this
  ·rw [if_neg hc] at this;rw [if_neg (fun h=>hc h.2.2.2),if_pos ⟨c1,by omega,by omega⟩,OptP_some];exact this
theorem ZQ {v:List α} {et:TypeId} {zs:List D} {f:Unit -> Option β} {i:Int} (j:Nat) (ok:OK h O) (hz:id=0 -> e=[]) (hO:O[j]?=some (mo id c (a ++ e))) (hq:∀ a,(c a).length=q) (h0:Nat.blt 0 q=true)
  (hv:slc e i (e.length:Int)=some v) (hx:opL n l x=Wh q id a i e.length v) (hs:slD P t=some et) (hzc:zcD P et=some zs) (hzl:zs.length=q) (hF:OptP ((ltL i e.length).bind f) G)
  (hk:OptP (f ()) G -> id ≠ 0 -> 0 <= i /\ i < (e.length:Int) -> OK h (O.set j (mo id c (a ++ e.take i.toNat))) -> AO P md true ops os ⟨AI n l,Hp h (O.set j (mo id c (a ++ e.take i.toNat)))⟩ k) :
  AO P md true ops (⟨none,.call ⟨.builtin .clear,#[x],#[t]⟩,ty,pos,af,none⟩ :: os) ⟨AI n l,Hp h O⟩ k:=by
 obtain ⟨_,hg,hF⟩:=A8 hF;unfold ltL at hg;split at hg
 case isFalse=>cases hg
 rename_i hi;have hid:id ≠ 0:=fun h=>by have:=hz h;subst this;simp at hi;omega
 have et':(a ++ e).take ((a.length:Int) + i).toNat=a ++ e.take i.toNat:=by
  have:((a.length:Int) + i).toNat=a.length + i.toNat:=by omega
  rw [this,List.take_length_add_append]
 have hs2:slc (a ++ e) ((a.length:Int) + i) ((a ++ e).length:Int)=some v:=by
  obtain ⟨g1,g2,g3,g4⟩:=Q2 hv;unfold slc;rw [if_pos (by simp;omega),g4];have:((a.length:Int) + i).toNat=a.length + i.toNat:=by omega
  rw [this,List.drop_length_add_append];congr 2;simp;omega
 refine Ae1 (e:=a ++ e) (i:=(a.length:Int) + i) (f:=fun _=>f ()) j ok (fun h=>absurd h hid) hO hq h0 hs2 ?_ hs hzc hzl (G:=G) ?_ fun hF _ _ ok'=>?_
 ·rw [hx];unfold Wh Aiq;rw [if_neg hid,if_neg hid,if_pos (.inr hi.2),if_pos (.inr (by simp;omega)),M0 hi.1]
 ·unfold ltL;rw [if_pos (by simp;omega)];exact hF
 ·rw [et'] at ok' ⊢;exact hk hF hid hi ok'
theorem YL {N:Nat} {i:Int} {w:Bool} {et:TypeId} (hid:id ≠ 0) (hx:opL n l x=.msl q id (a.length * q) N) (hy:opL n l y=.int .i64 i) (hs:slD P t=some et) (hq:szD P et=some q) (h0:0 <= i) (h1:i <= (N:Int)) (he:(e.length:Int)=i)
  (hk:AO P md w ops os ⟨AI n ((d,GW q id a e) :: l),h⟩ k):AO P md w ops (⟨some d,.slice t x none (some y) none,ty,pos,af,none⟩ :: os) ⟨AI n l,h⟩ k:=F6 (by
 have e1:i.toNat=e.length:=by omega
 simp only [Cz,Option.map_none,Option.map_some,hx,hy,IX,hs,hq,if_true,C2];rw [if_pos (by omega)];rw [Js hid] at hk;simp only [OptP_some]
 simpa [e1] using hk)
end

set_option linter.unusedSimpArgs false
set_option linter.unusedVariables false
def Kn.frzR (K:Kn) (w:World) (id m q n cap:Nat):Kn:=
 { K with mu:=(fun b o=>if b=K.io id then (if o < m then w.cell? ⟨b,o,none⟩ else none) else K.mu b o),ro:=(fun i=>if i=K.nx then ⟨K.io id,m,q,cap - n⟩ else K.ro i),nx:=K.nx + 1 }
theorem HR.frzR {K:Kn} {h:Heap} {w:World} (H:HR K h w) {id:Nat} {cs:List D} (hx:h id=some (.cells cs)) {q n cap off:Nat} (hm:cs.length=off + n * q) (hn:n <= cap) (hc:off + cap * q <= K.sz id) :
  Ext K (K.frzR w id cs.length q n cap) /\ HR (K.frzR w id cs.length q n cap) ((h.upd id none).upd K.nx (some .room)) w:=by
 obtain ⟨hl,hcs,_,hfz⟩:=H.ok id _ hx;have hlt:=H.lt id _ hx;have h0:id ≠ 0:=fun e=>by have:=H.z;rw [<- e,hx] at this;simp at this
 have E:Ext K (K.frzR w id cs.length q n cap):=by
  refine ⟨fun b o v hv=>?_,fun _ _=>rfl,fun _ _=>rfl,fun i hi=>?_,Nat.le_succ _,rfl,rfl⟩
  ·by_cases e:b=K.io id
   ·have:=H.nomu id _ hx b o e;rw [hv] at this;simp at this
   ·simp only [Kn.frzR,if_neg e];exact hv
  ·simp [Kn.frzR,Nat.ne_of_lt hi]
 have hne:id ≠ K.nx:=Nat.ne_of_lt hlt;have hid':((h.upd id none).upd K.nx (some .room)) id=none:=by rw [Heap.upd_ne _ _ hne,Heap.upd_same]
 refine ⟨E,HR.change (C:=fun i=>i=id \/ i=K.nx) H E (Keep.refl w (fun _ _=>False)) (fun _ _ h=>h.elim) (fun j hj=>.inl ?_) (fun b o v hv=>?_) ?_ (fun i z hi hz=>?_)⟩
 ·rw [Heap.upd_ne _ _ (fun e=>hj (.inr e)),Heap.upd_ne _ _ (fun e=>hj (.inl e))]
 ·by_cases e:b=K.io id
  ·right;simp only [Kn.frzR,if_pos e] at hv;split at hv
   ·rename_i ho;obtain ⟨u,hu,h1,_⟩:=hcs o (by omega);rw [<- e,hv] at hu;injection hu with hu
    subst hu;exact ⟨hv,h1,fun j y hj hy hoy=>H.sep id j _ y (fun e'=>hj (.inl e'.symm)) hx hy b o e hoy⟩
   ·simp at hv
  ·left;simpa only [Kn.frzR,if_neg e] using hv
 ·have:=H.nz;rw [Heap.upd_ne _ _ (by omega),Heap.upd_ne _ _ (Ne.symm h0)];exact H.z
 ·rcases hi with rfl | rfl
  ·rw [hid'] at hz;simp at hz
  ·rw [Heap.upd_same] at hz;injection hz with hz
   subst hz;have hro:(K.frzR w id cs.length q n cap).ro K.nx=⟨K.io id,cs.length,q,cap - n⟩:=by simp [Kn.frzR]
   have hmul:cs.length + (cap - n) * q <= K.sz id:=by
    rw [Nat.sub_mul,hm];have:n * q <= cap * q:=Nat.mul_le_mul_right _ hn;omega
   refine ⟨Nat.lt_succ_self _,fun o h1 h2=>?_,fun b o ho=>?_⟩
   ·rw [hro] at h1 h2 ⊢;simp only at h1 h2 ⊢;obtain ⟨u,hu,_⟩:=hcs o (by omega);exact ⟨u,hu,hfz o⟩
   ·obtain ⟨hb,h1,h2⟩:=ho;rw [hro] at hb h1 h2;simp only at hb h1 h2;refine ⟨H.ge id _ hx b o hb,?_,fun j y hj hy hoy=>H.sep id j _ y (fun e=>hj (.inl e.symm)) hx hy b o hb hoy,fun j y hj hji hy=>?_⟩
    ·simp only [Kn.frzR,if_pos hb,if_neg (Nat.not_lt.2 h1)]
    ·rcases hj with rfl | rfl
     ·rw [hid'] at hy;simp at hy
     ·exact absurd rfl hji
theorem VR.frzR {K:Kn} {h:Heap} {w:World} (H:HR K h w) {id q:Nat} {bs es:List (List D)} (hx:h id=some (.cells (bs.flatten ++ es.flatten))) (ha:bs.flatten.length=bs.length * q) (hk:∀ r ∈ es,r.length=q) {v:Value} (hv:VR K v (.msl q id (bs.length * q) es.length)) :
  ∃ cap,es.length <= cap /\ bs.length * q + cap * q <= K.sz id /\ VR (K.frzR w id (bs.flatten ++ es.flatten).length q es.length cap) v (.sl q es K.nx):=by
 obtain ⟨hn,hc,_,_⟩:=H.ok id _ hx;have hfl:es.flatten.length=es.length * q:=by
  have:=(Df q es (fun i hi=>by simpa [List.getD,hi] using hk _ (bm hi))).1;exact this
 cases hv with
 | msl _ _ _ _ cap hid hcn hcap =>
  refine ⟨cap,hcn,hcap,?_⟩;have E:=(H.frzR hx (q:=q) (n:=es.length) (cap:=cap) (off:=bs.length * q) (by rw [bk,ha,hfl]) hcn hcap).1;have hlen:(bs.flatten ++ es.flatten).length=bs.length * q + es.flatten.length:=by rw [bk,ha]
  refine .sl (K.io id) (bs.length * q) q es K.nx cap (fun i j=>(w.cell? ⟨K.io id,bs.length * q + i * q + j,none⟩).getD undef) (fun i hi=>by simpa [List.getD,hi] using hk _ (bm hi)) (fun i j hi hj=>?_) (fun i j=>?_) hcn (fun _=>⟨Nat.lt_succ_self _,?_,?_⟩)
  ·obtain ⟨e,hlt⟩:=OV hk hi hj;obtain ⟨u,hu,_⟩:=hc (bs.length * q + i * q + j) (by omega);have hlt':bs.length * q + i * q + j < (bs.flatten ++ es.flatten).length:=by omega
   simp only [Kn.frzR,if_true,if_pos hlt',hu,Option.getD_some]
  ·by_cases hi:i < es.length
   ·by_cases hj:j < q
    ·obtain ⟨e,hlt⟩:=OV hk hi hj;obtain ⟨u,hu,_,hur⟩:=hc (bs.length * q + i * q + j) (by omega);have e2:(bs.flatten ++ es.flatten).getD (bs.length * q + i * q + j) .any=es.flatten.getD (i * q + j) .any:=by
      rw [List.getD_eq_getElem?_getD,List.getElem?_append_right (by omega),<- List.getD_eq_getElem?_getD];congr 1;omega
     rw [e2,e] at hur;rw [hu,Option.getD_some];exact hur.mono E
    ·have:(es.getD i []).length=q:=by simpa [List.getD,hi] using hk _ (bm hi)
     rw [List.getD_eq_getElem?_getD,List.getElem?_eq_none (by omega)];exact .any _
   ·have:es.getD i []=[]:=by simp [List.getD,Nat.le_of_not_lt hi]
    rw [this];exact .any _
  ·simp only [Kn.frzR,if_true,hlen,hfl]
  ·exact H.ge id _ hx _ 0 rfl
def Afy {α:Type} (e:List α) (i j:Int):Option (List α):=if 0 <= i /\ i < j /\ j <= (e.length:Int) then some ((e.drop i.toNat).take (j.toNat - i.toNat)) else none
section
variable {P:Program} {md:Nat -> Nat} {ops:Array Oper} {os:List Oper} {k:St -> Prop} {n:Nat} {l:List (Nat × D)} {h:Heap} {d:Nat} {t ty:TypeId} {pos:String} {af:Array Edge} {x y z:Operand}
variable {β:Type} {G:β -> Prop} {O:List (Nat × AObj)} {α:Type} {c:α -> List D} {a e:List α} {q id:Nat}
theorem ZT {et:TypeId} {lo hi:Option Operand} {i j:Int} {f:List α -> Option β} (jj:Nat) (ok:OK h O) (hz:id=0 -> e=[]) (hO:O[jj]?=some (mo id c (a ++ e))) (hc:∀ a,(c a).length=q)
  (hx:opL n l x=GW q id a e) (hs:slD P t=some et) (hq:szD P et=some q)
  (h1:C2 (lo.map (opL n l)) 0=some i) (h2:C2 (hi.map (opL n l)) e.length=some j) (hF:OptP ((Afy e i j).bind f) G)
  (hk:∀ b,id ≠ 0 -> OK h (O.set jj (mo id c ((a ++ e.take i.toNat) ++ b))) -> OptP (f b) G -> AO P md true ops os ⟨AI n ((d,GW q id (a ++ e.take i.toNat) b) :: l),Hp h (O.set jj (mo id c ((a ++ e.take i.toNat) ++ b)))⟩ k) :
  AO P md true ops (⟨some d,.slice t x lo hi none,ty,pos,af,none⟩ :: os) ⟨AI n l,Hp h O⟩ k:=by
 obtain ⟨b,hb,hF⟩:=A8 hF;unfold Afy at hb;split at hb
 case isFalse=>cases hb
 rename_i hc';injection hb with hb
 obtain ⟨c1,c2,c3⟩:=hc';have hid:id ≠ 0:=fun h=>by have:=hz h;subst this;simp at c3;omega
 have hx':opL n l x=.msl q id (a.length * q) e.length:=by rw [hx,Js hid]
 refine F6 ?_;simp only [Cz,hx',Lo,hs,ba,hq,h1,h2,if_true];rw [if_pos ⟨c1,by omega,c3,by omega⟩,OptP_some];have hl:j.toNat - i.toNat=b.length:=by rw [<- hb];simp;omega
 have htl:(e.take i.toNat).length=i.toNat:=by rw [List.length_take];omega
 have hoff:a.length * q + i.toNat * q=(a ++ e.take i.toNat).length * q:=by rw [bk,htl,Nat.add_mul]
 rw [hl,hoff];have hO':O[jj]?=some (id,.cells (fl c (a ++ e.take i.toNat ++ b) ++ fl c ((e.drop i.toNat).drop (j.toNat - i.toNat)))):=by
  rw [hO,EI hid,<- P9,<- hb,List.append_assoc,List.append_assoc,List.take_append_drop,List.take_append_drop]
 refine Yf jj ok hO' hid fun ok'=>?_;have:=hk b hid (by rw [EI hid];exact ok') hF;rw [EI hid,Js hid] at this;exact this
theorem ZV (j d:Nat) (ok:OK h O) (hz:id=0 -> e=[]) (hv:G3 l d=GW q id a e) (hd:Nat.blt d n=true) (hO:O[j]?=some (mo id c (a ++ e))) (hc:∀ a,(c a).length=q)
  (hk:∀ r,r ≠ 0 -> OK h ((r,.room) :: O.set j (0,.room)) -> AO P md true ops os ⟨AI n ((d,.sl q (e.map c) r) :: l),Hp h ((r,.room) :: O.set j (0,.room))⟩ k):AO P md true ops os ⟨AI n l,Hp h O⟩ k:=by
 by_cases hid:id=0
 ·subst hid;have e1:=hz rfl;subst e1;have hset:O.set j (0,.room)=O:=by
   obtain ⟨hlt,he⟩:=List.getElem?_eq_some_iff.1 hO;have he':O[j]=(0,.room):=he;rw [<- he'];exact List.set_getElem_self hlt
  rw [hset] at hk;exact Kc d q ok hv hd hk
 ·rw [EI hid] at hO;rw [Js hid] at hv;refine Wf fun df K u w S=>?_;have hx:=Hp_get j ok hO hid;have hfl:fl c (a ++ e)=(a.map c).flatten ++ (e.map c).flatten:=by rw [P9];rfl
  rw [hfl] at hx;have hvd:VR K (u.tmps.getD d undef) (.msl q id (a.length * q) e.length):=by
   have:=S.v d;simp only [] at this;rw [DA,if_pos (Nat.blt_eq.mp hd),hv] at this;exact this
  obtain ⟨cap,k1,k2,k3⟩:=VR.frzR (bs:=a.map c) (es:=e.map c) S.h hx (by have:=Fk hc a;simpa [fl] using this) (by simp;exact fun a _=>hc a) (by simpa only [List.length_map] using hvd);obtain ⟨E,H'⟩:=S.h.frzR hx (q:=q) (n:=(e.map c).length) (cap:=cap) (off:=(a.map c).length * q) (by rw [<- hfl,Fk hc];simp [Nat.add_mul]) k1 k2;obtain ⟨e1,e2⟩:=Hp_rel j ok hO hid;have hnx:K.nx ≠ 0:=Nat.ne_of_gt S.h.nz;have hfree:Hp h (O.set j (0,.room)) K.nx=none:=by
   rw [<- e1];by_cases e:K.nx=id
   ·rw [e];exact Heap.upd_same ..
   ·rw [Heap.upd_ne _ _ e]
    cases hh:Hp h O K.nx with
    | none=>rfl
    | some y=>exact absurd (S.h.lt _ _ hh) (Nat.lt_irrefl _)
  have ok3:OK h ((K.nx,.room) :: O.set j (0,.room)):=⟨.inr ⟨hnx,hfree⟩,e2⟩
  have hH:Hp h ((K.nx,.room) :: O.set j (0,.room))=((Hp h O).upd id none).upd K.nx (some .room):=by simp [Hp,hnx,e1]
  refine ⟨_,⟨AI n ((d,.sl q (e.map c) K.nx) :: l),Hp h ((K.nx,.room) :: O.set j (0,.room))⟩,E,⟨by rw [hH];exact H',S.d,by rw [S.n];simp [DC],fun i=>?_⟩,hk _ hnx ok3⟩;have hvi:=S.v i;simp only [DA] at hvi ⊢;split
  ·rename_i hi;rw [if_pos hi] at hvi;show VR _ _ (match Nat.beq d i with | true=>_ | false=>G3 l i)
   cases hb:Nat.beq d i with
   | true=>
    rw [Nat.beq_eq] at hb;subst hb;exact k3
   | false=>exact hvi.mono E
  ·exact .any _
end
end Go.Proofs.YtmnbjcpikllknaaGreatDoor
