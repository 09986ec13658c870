/- Jumps to a label, in step with a plain function. No condition. -/
import Derived.Test.YtmnbjcpikllknaaGreatDoorRows
import Derived.Test.YtmnbjcpikllknaaGreatDoorEng24
import Derived.Test.YtmnbjcpikllknaaGreatDoorEng17
set_option linter.unusedSimpArgs false
set_option linter.unusedVariables false
namespace Go.Proofs.YtmnbjcpikllknaaGreatDoor
section
variable {P:Program} {Q:Exit -> St -> Prop} {s:St} {β:Type} {G:β -> Prop}
theorem Exit.sel_goto {n:St -> Prop} {l:Nat} (h:Q (.goto l) s):Exit.sel n Q (.goto l) s:=h
theorem Exit.blk_goto {id l:Nat} (h:Q (.goto l) s):Exit.blk id Q (.goto l) s:=h
theorem Exit.jmp_ret {body:Code} (h:Q .ret s):Exit.jmp P body Q .ret s:=h
theorem LK {body rest:Code} {l:Nat} (hf:findLabel body l=some (.seq .skip rest)) (h:WP P rest (Exit.jmp P body Q) s):Exit.jmp P body Q (.goto l) s:=by
 simp only [Exit.jmp,hf];exact JW_step (T3 (Of h))
theorem Vq {σ ρ:Type} {rest:Code} {b:(σ -> Option ρ) -> σ -> Option ρ} {n:Nat} {x0:σ} {k:ρ -> Option β} (hF:OptP ((iter b n x0).bind k) G) (R:σ -> St -> Prop) (hR:R x0 s)
  (hs:∀ G1:ρ -> Prop,(∀ o,G1 o -> OptP (k o) G) -> ∀ (rec:σ -> Option ρ) (x:σ) (s':St),(∀ (y:σ) (t:St),OptP (rec y) G1 -> R y t -> WP P rest Q t) -> OptP (b rec x) G1 -> R x s' -> WP P rest Q s'):WP P rest Q s:=by
 rw [OptP_bind] at hF;have key:∀ (n:Nat) (x:σ) (s:St),OptP (iter b n x) (fun o=>OptP (k o) G) -> R x s -> WP P rest Q s:=by
  intro n
  induction n with
  | zero=>intro x s h _;exact Lj h
  | succ n ih=>
   intro x s h hr;exact hs _ (fun _ h=>h) (iter b n) x s (fun y t hy hr=>ih y t hy hr) h hr
 exact key n x0 s hF hR
theorem ZA {σ:Type} {body rest:Code} {b:σ -> Option β} {f:(σ -> Option β) -> Option β} (l:Nat) (hf:findLabel body l=some (.seq .skip rest)) (hF:OptP (letJ b f) G) (R:σ -> St -> Prop) (hb:∀ (x:σ) (s':St),OptP (b x) G -> R x s' -> WP P rest Q s')
  (ha:∀ J:σ -> Option β,(∀ (x:σ) (t:St),OptP (J x) G -> R x t -> WP P rest Q t) -> OptP (f J) G -> WP P body Q s):WP P body Q s:=ha b hb hF
end

set_option linter.unusedSimpArgs false
set_option linter.unusedVariables false
def UU (a b:Nat):Option Nat:=FloatKind.f64.format.add a b
def Uo (a b:Nat):Option Nat:=FloatKind.f64.format.sub a b
def PD (a b:Nat):Option Nat:=FloatKind.f64.format.mul a b
def feq (a b:Nat):Bool:=FloatKind.f64.format.order a b == some .eq
def fne (a b:Nat):Bool:=FloatKind.f64.format.order a b != some .eq
def flt (a b:Nat):Bool:=FloatKind.f64.format.order a b == some .lt
def fle (a b:Nat):Bool:=FloatKind.f64.format.order a b == some .lt || FloatKind.f64.format.order a b == some .eq
def fgt (a b:Nat):Bool:=FloatKind.f64.format.order a b == some .gt
def fge (a b:Nat):Bool:=FloatKind.f64.format.order a b == some .gt || FloatKind.f64.format.order a b == some .eq
def Aa3 (a:Nat):Nat:=Op.negFloat .f64 a
def i2f (n:Int):Nat:=FloatKind.f64.nearest n
def f2i (k:IntKind) (b:Nat):Option Int:=match (FloatKind.f64.decode b).toInt .zero with
 | some n=>if k.min <= n /\ n <= k.max then some n else none
 | none=>none
def XS (x y:Nat × Nat):Option (Nat × Nat):=(UU x.1 y.1).bind fun r=>(UU x.2 y.2).map fun s=>(r,s)
def Abh (x y:Nat × Nat):Option (Nat × Nat):=(Uo x.1 y.1).bind fun r=>(Uo x.2 y.2).map fun s=>(r,s)
def Afu (x y:Nat × Nat):Option (Nat × Nat):=(PD x.1 y.1).bind fun r=>(PD x.2 y.2).bind fun s=>(PD x.1 y.2).bind fun u=>(PD x.2 y.1).bind fun v=>
 (Uo r s).bind fun p=>(UU u v).map fun q=>(p,q)
def ceq (x y:Nat × Nat):Bool:=feq x.1 y.1 && feq x.2 y.2
section
variable {P:Program} {md:Nat -> Nat} {w:Bool} {ops:Array Oper} {os:List Oper} {k:St -> Prop} {n:Nat} {l:List (Nat × D)} {h:Heap} {d:Nat} {t ty:TypeId} {pos:String} {af:Array Edge} {x y z:Operand}
variable {β:Type} {G:β -> Prop}
theorem Qa {op:BinOp} {a b:Nat}:E5 P h op t (.float .f64 a) (.float .f64 b)=Gh op .f64 a b:=by
 simp only [E5,if_true]
theorem UC {op:BinOp} {a b:Nat × Nat}:E5 P h op t (.cplx .f64 a.1 a.2) (.cplx .f64 b.1 b.2)=G6 op .f64 a.1 a.2 b.1 b.2:=by
 simp only [E5,if_true]
theorem Aey {a b:Nat}:E5 P h .eql t (.float .f64 a) (.float .f64 b)=some (.bool (feq a b)):=Qa
theorem Aid {a b:Nat}:E5 P h .lss t (.float .f64 a) (.float .f64 b)=some (.bool (flt a b)):=Qa
theorem UE {a b:Nat}:E5 P h .leq t (.float .f64 a) (.float .f64 b)=some (.bool (fle a b)):=Qa
theorem Zo {a b:Nat}:E5 P h .gtr t (.float .f64 a) (.float .f64 b)=some (.bool (fgt a b)):=Qa
theorem Z4 {s:TypeId} {K:IntKind} {a:Int} (hk:kiD P t=none) (hf:faD P t=some .f64) (hs:(P.underlying s).isSome=true):KX P h s t (.int K a)=some (.float .f64 (i2f a)):=Ajs hk hf hs
theorem YF {u:TypeId} {a b:Nat} {f:Nat -> Option β} (hx:opL n l x=.float .f64 a) (hy:opL n l y=.float .f64 b) (hF:OptP ((PD a b).bind f) G)
  (hk:∀ r,PD a b=some r -> OptP (f r) G -> AO P md w ops os ⟨AI n ((d,.float .f64 r) :: l),h⟩ k):AO P md w ops (⟨some d,.binOp .mul t x y u,ty,pos,af,none⟩ :: os) ⟨AI n l,h⟩ k:=by
 obtain ⟨r,hr,hF⟩:=A8 hF;exact DN hx hy (by rw [Qa];show (PD a b).map _=_;rw [hr];rfl) (hk r hr hF)
theorem Xh {a b r:Nat × Nat} (h:XS a b=some r):UU a.1 b.1=some r.1 /\ UU a.2 b.2=some r.2:=by
 unfold XS at h
 cases h1:UU a.1 b.1 with
 | none=>rw [h1] at h;simp at h
 | some p=>cases h2:UU a.2 b.2 with
  | none=>rw [h1,h2] at h;simp at h
  | some q=>rw [h1,h2] at h;simp at h;subst h;exact ⟨rfl,rfl⟩
theorem Xo {a b r:Nat × Nat} (h:Abh a b=some r):Uo a.1 b.1=some r.1 /\ Uo a.2 b.2=some r.2:=by
 unfold Abh at h
 cases h1:Uo a.1 b.1 with
 | none=>rw [h1] at h;simp at h
 | some p=>cases h2:Uo a.2 b.2 with
  | none=>rw [h1,h2] at h;simp at h
  | some q=>rw [h1,h2] at h;simp at h;subst h;exact ⟨rfl,rfl⟩
theorem Sc {u:TypeId} {a b:Nat × Nat} {f:Nat × Nat -> Option β} (hx:opL n l x=.cplx .f64 a.1 a.2) (hy:opL n l y=.cplx .f64 b.1 b.2) (hF:OptP ((XS a b).bind f) G)
  (hk:∀ r:Nat × Nat,XS a b=some r -> OptP (f r) G -> AO P md w ops os ⟨AI n ((d,.cplx .f64 r.1 r.2) :: l),h⟩ k):AO P md w ops (⟨some d,.binOp .add t x y u,ty,pos,af,none⟩ :: os) ⟨AI n l,h⟩ k:=by
 obtain ⟨r,hr,hF⟩:=A8 hF;obtain ⟨h1,h2⟩:=Xh hr;exact DN hx hy (by rw [UC];show ((UU a.1 b.1).bind fun r=>(UU a.2 b.2).map fun s=>D.cplx .f64 r s)=_;rw [h1,h2];rfl) (hk r hr hF)
theorem Yy {u:TypeId} {a b:Nat × Nat} {f:Nat × Nat -> Option β} (hx:opL n l x=.cplx .f64 a.1 a.2) (hy:opL n l y=.cplx .f64 b.1 b.2) (hF:OptP ((Abh a b).bind f) G)
  (hk:∀ r:Nat × Nat,Abh a b=some r -> OptP (f r) G -> AO P md w ops os ⟨AI n ((d,.cplx .f64 r.1 r.2) :: l),h⟩ k):AO P md w ops (⟨some d,.binOp .sub t x y u,ty,pos,af,none⟩ :: os) ⟨AI n l,h⟩ k:=by
 obtain ⟨r,hr,hF⟩:=A8 hF;obtain ⟨h1,h2⟩:=Xo hr;exact DN hx hy (by rw [UC];show ((Uo a.1 b.1).bind fun r=>(Uo a.2 b.2).map fun s=>D.cplx .f64 r s)=_;rw [h1,h2];rfl) (hk r hr hF)
theorem Ad8 {u:TypeId} {a b:Nat × Nat} {f:Nat × Nat -> Option β} (hx:opL n l x=.cplx .f64 a.1 a.2) (hy:opL n l y=.cplx .f64 b.1 b.2) (hF:OptP ((Afu a b).bind f) G)
  (hk:∀ r:Nat × Nat,Afu a b=some r -> OptP (f r) G -> AO P md w ops os ⟨AI n ((d,.cplx .f64 r.1 r.2) :: l),h⟩ k):AO P md w ops (⟨some d,.binOp .mul t x y u,ty,pos,af,none⟩ :: os) ⟨AI n l,h⟩ k:=by
 obtain ⟨r,hr,hF⟩:=A8 hF;refine DN hx hy ?_ (hk r hr hF);rw [UC];show ((PD a.1 b.1).bind fun r=>(PD a.2 b.2).bind fun s=>(PD a.1 b.2).bind fun u=>(PD a.2 b.1).bind fun v=>(Uo r s).bind fun x=>(UU u v).map fun y=>D.cplx .f64 x y)=_;unfold Afu at hr;revert hr
 cases PD a.1 b.1 with
 | none=>intro hr;simp at hr
 | some r1 => cases PD a.2 b.2 with
  | none=>intro hr;simp at hr
  | some r2 => cases PD a.1 b.2 with
   | none=>intro hr;simp at hr
   | some r3 => cases PD a.2 b.1 with
    | none=>intro hr;simp at hr
    | some r4 =>
     simp only [ba]
     cases Uo r1 r2 with
     | none=>intro hr;simp at hr
     | some r5=>cases UU r3 r4 with
      | none=>intro hr;simp at hr
      | some r6=>intro hr;simp at hr;subst hr;rfl
theorem PS {ts:Array TypeId} {a:Nat × Nat} (hx:opL n l x=.cplx .f64 a.1 a.2) (hk:AO P md w ops os ⟨AI n ((d,.float .f64 a.1) :: l),h⟩ k):AO P md w ops (⟨some d,.call ⟨.builtin .real,#[x],ts⟩,ty,pos,af,none⟩ :: os) ⟨AI n l,h⟩ k:=F6 (by
 simp only [Cz,List.map_cons,List.map_nil,hx,Fi,MH,OptP_some];exact hk)
theorem JG {ts:Array TypeId} {a:Nat × Nat} (hx:opL n l x=.cplx .f64 a.1 a.2) (hk:AO P md w ops os ⟨AI n ((d,.float .f64 a.2) :: l),h⟩ k):AO P md w ops (⟨some d,.call ⟨.builtin .imag,#[x],ts⟩,ty,pos,af,none⟩ :: os) ⟨AI n l,h⟩ k:=F6 (by
 simp only [Cz,List.map_cons,List.map_nil,hx,Fi,MH,OptP_some];exact hk)
theorem Mr {ts:Array TypeId} {a b:Nat} (hx:opL n l x=.float .f64 a) (hy:opL n l y=.float .f64 b) (hk:AO P md w ops os ⟨AI n ((d,.cplx .f64 a b) :: l),h⟩ k):AO P md w ops (⟨some d,.call ⟨.builtin .complex,#[x,y],ts⟩,ty,pos,af,none⟩ :: os) ⟨AI n l,h⟩ k:=F6 (by
 simp only [Cz,List.map_cons,List.map_nil,hx,hy,Fi,MH,if_true,OptP_some];exact hk)
end

set_option linter.unusedSimpArgs false
set_option linter.unusedVariables false
def FK {α:Type} (o:Option Nat):List α -> List (α × Option Nat)
 | []=>[]
 | [x]=>[(x,o)]
 | x :: y :: l=>(x,some 0) :: FK o (y :: l)
def lst {α:Type} (e:List α) (i:Int):Option α:=if i + 1=(e.length:Int) then idx e i else none
section
variable {α:Type}
theorem GT (o:Option Nat):∀ (e:List α) (x:α),FK o (e ++ [x])=e.map (fun a=>(a,some 0)) ++ [(x,o)]
 | [],x=>rfl
 | [y],x=>rfl
 | y :: z :: e,x=>by
  have:=GT o (z :: e) x;simp only [List.cons_append,FK,List.map_cons] at this ⊢;rw [this]
theorem My:∀ e:List α,FK (some 0) e=e.map (fun a=>(a,some 0))
 | []=>rfl
 | [y]=>rfl
 | y :: z :: e=>by
  have:=My (z :: e);simp only [FK,List.map_cons] at this ⊢;rw [this]
theorem Jv (o:Option Nat):∀ e:List α,(FK o e).length=e.length
 | []=>rfl
 | [y]=>rfl
 | y :: z :: e=>by
  have:=Jv o (z :: e);simp only [FK,bi] at this ⊢;omega
theorem LQ {e:List α} {i:Int} {a:α} (h:lst e i=some a):∃ m,e=m ++ [a] /\ i=(m.length:Int) /\ idx e i=some a:=by
 unfold lst at h;split at h
 ·rename_i hi;obtain ⟨h1,h2,h3⟩:=I4 h;have hne:e ≠ []:=fun h0=>by subst h0;simp at h2
  have hd:=List.dropLast_concat_getLast hne;have hl:e.dropLast.length=i.toNat:=by simp;omega
  have ha:e.getLast hne=a:=by
   have h4:(e.dropLast ++ [e.getLast hne])[i.toNat]?=some (e.getLast hne):=by
    rw [List.getElem?_append_right (by omega),hl];simp
   rw [hd,h2] at h4;injection h4 with h4;exact h4.symm
  refine ⟨e.dropLast,by rw [<- ha];exact hd.symm,by omega,h⟩
 ·simp at h
theorem Rl {q id:Nat} {β:Type} {e:List α} {f:List β} (h:e.length=f.length):D0 q id e=D0 q id f:=by
 cases id with
 | zero=>rfl
 | succ i=>simp only [D0,h]
theorem WO.setW {i:Nat} {cs cs':List D} (hw:WdC cs cs'):∀ {O:List (Nat × AObj)} {j:Nat},O[j]?=some (i,.cells cs) -> WO O (O.set j (i,.cells cs'))
 | [],j,h=>by simp at h
 | p :: O,0,h=>by
  simp at h;subst h;exact .weak hw (.refl O)
 | p :: O,j + 1,h=>.keep (WO.setW hw (by simpa using h))
end
section
variable {P:Program} {md:Nat -> Nat} {w:Bool} {ops:Array Oper} {os:List Oper} {k:St -> Prop} {n:Nat} {l:List (Nat × D)} {h:Heap} {d:Nat} {t ty:TypeId} {pos:String} {af:Array Edge} {x y z:Operand}
variable {β:Type} {G:β -> Prop} {O:List (Nat × AObj)} {α:Type} {c:α × Option Nat -> List D} {e:List α} {q id r:Nat}
theorem Ad3 {α:Type} (c:α × Option Nat -> List D) (ok:OK h O) (hk:OK h (mo 0 c (FK (some 0) []) :: (0,.room) :: O) -> AO P md w ops os ⟨AI n l,Hp h (mo 0 c (FK (some 0) []) :: (0,.room) :: O)⟩ k):AO P md w ops os ⟨AI n l,Hp h O⟩ k:=by
 have:=hk (OK_nil (OK_nil ok));simpa [mo,Hp] using this
theorem Abu {et:TypeId} {K:IntKind} {i:Int} {f:α -> Option β} (hz:id=0 -> e=[]) (hx:opL n l x=D0 q id e) (hy:opL n l y=.int K i) (hs:slD P t=some et) (hq:szD P et=some q)
  (hF:OptP ((lst e i).bind f) G) (hk:∀ a,lst e i=some a -> OptP (f a) G -> AO P md w ops os ⟨AI n ((d,.ptr id (i.toNat * q)) :: l),h⟩ k):AO P md w ops (⟨some d,.indexAddr t x y,ty,pos,af,none⟩ :: os) ⟨AI n l,h⟩ k:=by
 obtain ⟨a,ha,hFa⟩:=A8 hF;obtain ⟨m,_,_,hi⟩:=LQ ha;exact Zy (f:=fun a=>f a) hz hx hy hs hq (by rw [hi];exact hFa) fun b hb hF'=>by
  rw [hi] at hb;injection hb with hb;subst hb;exact hk a ha hF'
theorem YA {i:Int} {a:α} (hz:id=0 -> e=[]) (hi:lst e i=some a):id ≠ 0:=fun h=>by
 obtain ⟨m,h1,_,_⟩:=LQ hi;rw [hz h] at h1;simp at h1
theorem Adk {off f0 j:Nat} {i:Int} {a:α} {v:D} (ok:OK h O) (hm:md d=0) (hz:id=0 -> e=[]) (hx:opL n l x=.ptr id off) (hj:O[j]?=some (mo id c (FK (some r) e))) (hc:∀ a,(c a).length=q)
  (hi:lst e i=some a) (ho:off=i.toNat * q + f0) (hle:Nat.ble f0 q=true) (hp:Fd P t ((c (a,some r)).drop f0)=some v)
  (hk:AO P md w ops os ⟨AI n ((d,v) :: l),Hp h O⟩ k):AO P md w ops (⟨some d,.load t x,ty,pos,af,none⟩ :: os) ⟨AI n l,Hp h O⟩ k:=by
 obtain ⟨m,h1,h2,h3⟩:=LQ hi;subst h1;rw [GT] at hj;refine Af9 (e:=m.map (fun a=>(a,some 0)) ++ [(a,some r)]) (i:=i) (a:=(a,some r)) ok hm (fun h0=>by have:=hz h0;simp at this) hx hj hc ?_ ho hle hp hk;unfold idx;rw [if_pos (by omega),h2,Int.toNat_natCast,List.getElem?_append_right (by simp)];simp
theorem Abw {off f0 j r':Nat} {i:Int} {a b:α} {v:D} (ok:OK h O) (hz:id=0 -> e=[]) (hx:opL n l x=.ptr id off) (hy:opL n l y=v) (hj:O[j]?=some (mo id c (FK (some r) e))) (hc:∀ a,(c a).length=q)
  (hi:lst e i=some a) (ho:off=i.toNat * q + f0) (h1:v.lay=true) (h2:szD P t=some v.cells.length) (hle:Nat.ble (f0 + v.cells.length) q=true) (hb:GH (c (a,some r)) f0 v.cells=c (b,some r'))
  (hk:(id=0 -> e.set i.toNat b=[]) -> OK h (O.set j (mo id c (FK (some r') (e.set i.toNat b)))) -> AO P md w ops os ⟨AI n l,Hp h (O.set j (mo id c (FK (some r') (e.set i.toNat b))))⟩ k) :
  AO P md w ops (⟨none,.store t x y,ty,pos,af,none⟩ :: os) ⟨AI n l,Hp h O⟩ k:=by
 obtain ⟨m,g1,g2,g3⟩:=LQ hi;subst g1;rw [GT] at hj;have hix:idx (m.map (fun a=>(a,some 0)) ++ [(a,some r)]) i=some (a,some r):=by
  unfold idx;rw [if_pos (by omega),g2,Int.toNat_natCast,List.getElem?_append_right (by simp)];simp
 have hset:(m.map (fun a=>(a,some 0)) ++ [(a,some r)]).set i.toNat (b,some r')=FK (some r') ((m ++ [a]).set i.toNat b):=by
  have h5:i.toNat=m.length:=by omega
  have h6:(m ++ [a]).set i.toNat b=m ++ [b]:=by rw [h5,List.set_append_right _ _ (Nat.le_refl _)];simp
  rw [h6,GT,h5,List.set_append_right _ _ (by simp)];simp
 refine Zr (i:=i) ok (fun h0=>by have:=hz h0;simp at this) hx hy hj hc hix ho h1 h2 hle hb fun h7 ok'=>?_;rw [hset] at ok' ⊢;exact hk (fun h0=>by have:=hz h0;simp at this) ok'
theorem Aea {j:Nat} (ok:OK h O) (hz:id=0 -> e=[]) (hj:O[j]?=some (mo id c (FK (some r) e))) (hw:∀ a,WdC (c (a,some r)) (c (a,some 0))) :
  OK h (O.set j (mo id c (FK (some 0) e))) /\ WS ⟨AI n l,Hp h O⟩ ⟨AI n l,Hp h (O.set j (mo id c (FK (some 0) e)))⟩:=by
 by_cases h0:id=0
 ·subst h0;have e1:=hz rfl;subst e1;have hset:O.set j (0,.room)=O:=by
   obtain ⟨hlt,he⟩:=List.getElem?_eq_some_iff.1 hj;have he':O[j]=(0,.room):=he;rw [<- he'];exact List.set_getElem_self hlt
  show OK h (O.set j (0,.room)) /\ WS _ ⟨AI n l,Hp h (O.set j (0,.room))⟩;rw [hset];exact ⟨ok,.refl _⟩
 ·have hcs:WdC (fl c (FK (some r) e)) (fl c (FK (some 0) e)):=by
   rcases List.eq_nil_or_concat e with h1 | ⟨m,a,h1⟩
   ·subst h1;exact .refl _
   ·subst h1;rw [List.concat_eq_append,GT,GT];simp only [fl,List.map_append,List.flatten_append,List.map_cons,List.map_nil,List.flatten_cons,List.flatten_nil,List.append_nil];exact (WdC.refl _).app (hw a)
  rw [EI h0] at hj ⊢;have hwo:=WO.setW hcs hj;exact ⟨(hwo.spec ok).1,⟨rfl,fun _=>.refl _,(hwo.spec ok).2.2⟩⟩
theorem Ae2 {j off kk B:Nat} {zs:List D} {x0:α} {u:TypeId} {f:List α -> Option β} (ok:OK h O) (hz:id=0 -> e=[]) (hm:md d=1) (hx:opL n l x=D0 q id e) (hy:opL n l y=.sl q [c (x0,none)] 0) (hc:∀ a,(c a).length=q)
  (hj:O[j]?=some (mo id c (FK (some r) e))) (hw:∀ a,WdC (c (a,some r)) (c (a,some 0))) (hn:(c (x0,none)).getD off .any=.snil) (hlt:Nat.blt off q=true) (hC:∀ r,(c (x0,none)).set off (.sl kk [] r)=c (x0,some r))
  (he:elD P t=some (q,B,zs)) (hu:EE P u=true) (hF:OptP ((app B e [x0]).bind f) G)
  (hk:∀ i r,i ≠ 0 -> r ≠ 0 -> OK h ((r,.room) :: O.set j (mo i c (FK (some r) (e ++ [x0])))) -> OptP (f (e ++ [x0])) G -> AO P md true ops os ⟨AI n ((d,D0 q i (e ++ [x0])) :: l),Hp h ((r,.room) :: O.set j (mo i c (FK (some r) (e ++ [x0]))))⟩ k) :
  AO P md true ops (⟨some d,.call ⟨.builtin .append,#[x,y],#[t,u]⟩,ty,pos,af,none⟩ :: os) ⟨AI n l,Hp h O⟩ k:=by
 obtain ⟨ok1,hws⟩:=Aea (n:=n) (l:=l) ok hz hj hw;refine Adx hws ?_;obtain ⟨v,hv,hF⟩:=A8 hF;have hv2:v=e ++ [x0] /\ app B (FK (some 0) e) [(x0,none)]=some (FK (some 0) e ++ [(x0,none)]):=by
  unfold app at hv ⊢;split at hv
  ·rename_i hcc;injection hv with hv
   refine ⟨hv.symm,if_pos ?_⟩;rw [Jv];exact hcc
  ·simp at hv
 obtain ⟨rfl,happ⟩:=hv2;have hlj:j < O.length:=by
  rcases Nat.lt_or_ge j O.length with h | h
  ·exact h
  ·rw [List.getElem?_eq_none h] at hj;simp at hj
 refine Sr (e:=FK (some 0) e) (c:=c) (q:=q) (id:=id) (M:=[(x0,none)]) (f:=fun _=>f (e ++ [x0])) (j:=j) ok1 (fun h0=>by rw [hz h0];rfl) hm (by rw [hx];exact Rl (Jv _ _).symm) (by rw [hy];simp [S7]) hc (by simp [hlj]) he hu (by rw [happ];exact hF) fun i hi ok2 hF2=>?_;have hi0:i ≠ 0:=fun h0=>by have:=hi h0;simp at this
 rw [List.set_set] at ok2 ⊢;have hfl:fl c (FK (some 0) e ++ [(x0,none)])=fl c (FK (some 0) e) ++ c (x0,none):=by rw [P9];simp [fl]
 have hlen:(fl c (FK (some 0) e)).length=e.length * q:=by rw [Fk hc,Jv]
 have hoff:off < q:=by simpa using hlt
 rw [EI hi0] at ok2;have hmsl:D0 q i (FK (some 0) e ++ [(x0,none)])=D0 q i (e ++ [x0]):=Rl (by simp [Jv]);rw [hmsl,EI hi0];refine Ou (i:=i) (cs:=fl c (FK (some 0) e ++ [(x0,none)])) j (e.length * q + off) kk (fun r=>fl c (FK (some r) (e ++ [x0]))) ok2 (by simp [hlj]) hi0 ?_ (fun r=>?_) fun r hr ok3=>?_
 ·rw [hfl,List.getD_eq_getElem?_getD,List.getElem?_append_right (by omega),hlen,Nat.add_sub_cancel_left,<- List.getD_eq_getElem?_getD];exact hn
 ·rw [hfl,List.set_append_right _ _ (by omega),hlen,Nat.add_sub_cancel_left,hC,GT,P9,My];simp [fl]
 ·rw [List.set_set] at ok3 ⊢;have:=hk i r hi0 hr;rw [EI hi0] at this;exact this ok3 hF2
theorem Ac1 {c1:α -> List D} (j d:Nat) (ok:OK h O) (hz:id=0 -> e=[]) (hv:G3 l d=D0 q id e) (hO:O[j]?=some (mo id c (FK (some r) e))) (hc:∀ a,(c a).length=q) (hw:∀ a,WdC (c (a,some r)) (c (a,some 0))) (h1:∀ a,c (a,some 0)=c1 a)
  (hk:OK h (O.set j (0,.room)) -> AO P md true ops os ⟨AI n ((d,.sl q (e.map c1) 0) :: l),Hp h (O.set j (0,.room))⟩ k):AO P md true ops os ⟨AI n l,Hp h O⟩ k:=by
 obtain ⟨ok1,hws⟩:=Aea (n:=n) (l:=l) ok hz hO hw;refine Adx hws ?_;have hlj:j < O.length:=by
  rcases Nat.lt_or_ge j O.length with h | h
  ·exact h
  ·rw [List.getElem?_eq_none h] at hO;simp at hO
 refine XM j d ok1 (e:=FK (some 0) e) (fun h0=>by rw [hz h0];rfl) (by rw [hv];exact Rl (Jv _ _).symm) (by simp [hlj]) hc fun ok2=>?_;rw [List.set_set] at ok2 ⊢;have hm:(FK (some 0) e).map c=e.map c1:=by
  rw [My,List.map_map];exact List.map_congr_left fun a _=>h1 a
 rw [hm];exact hk ok2
end

set_option linter.unusedVariables false
set_option linter.unusedSimpArgs false
set_option maxRecDepth 20000
open Go.ChangeShapes Go.WideShapes Go.ChangeAt Go.RowKit
theorem Rm {H:Type} (d:DataW H):1 <= Rows.uptoBulk d:=by
 cases d with
 | lit l=>cases l <;> simp [Rows.uptoBulk]
 | nil=>simp [Rows.uptoBulk]
 | ptr d=>simp [Rows.uptoBulk]
 | slice elems spare=>simp [Rows.uptoBulk]
 | agg parts=>simp [Rows.uptoBulk]
 | iface t d=>simp [Rows.uptoBulk]
 | map entries=>simp [Rows.uptoBulk]
 | held h=>simp [Rows.uptoBulk]
theorem V7 {H:Type} (l:List (DataW H)):Rows.uptoBulkAll l=(l.map Rows.uptoBulk).sum:=by
 induction l with
 | nil=>simp [Rows.uptoBulkAll]
 | cons x r ih=>simp [Rows.uptoBulkAll,ih]
theorem NG:∀ (l m:List Nat),l.length=m.length -> (∀ i,i < l.length -> l.getD i 0 <= m.getD i 0) -> l.sum <= m.sum
 | [],[],_,_=>by simp
 | a :: l,b :: m,hl,h=>by
  have h0:a <= b:=h 0 (by simp);have:=NG l m (by simpa using hl) (fun i hi=>by have:=h (i + 1) (by simpa using hi);simpa using this);simp only [List.sum_cons];omega
namespace B
section
variable {H:Type} {enc:TypeId × Value -> H} {P:Program} {w:World} {base:Nat} {spare:Nat -> Bool} {held:Bool} {fuel:Nat} {t:TypeId} {cs:List Value} {x:DataW H × List MemPlace} {N:Nat}
def Rds (N:Nat) (enc:TypeId × Value -> H) (P:Program) (w:World) (base:Nat) (spare:Nat -> Bool) (held:Bool) (t:TypeId) {X:Type} (ok:X -> Prop) (sz:X -> Nat) (c:X -> List D):Prop:=
 ∀ fuel,fuel <= N -> ∀ cs x,DataW.trod enc P w base spare held fuel t cs=some x -> ∃ y,(ok y /\ sz y <= Rows.uptoBulk x.1) /\ LR (Kn.init w) cs (c y)
theorem Rds.zero {X:Type} {ok:X -> Prop} {sz:X -> Nat} {c:X -> List D}:Rds 0 enc P w base spare held t ok sz c:=fun fuel hf cs x h=>by
 obtain rfl:fuel=0:=by omega
 simp [DataW.trod] at h
theorem rd_int {k:IntKind} (ht:P.underlying t=some (.int k)):Rds N enc P w base spare held t (okI k) (fun _=>1) (fun n=>[.int k n]):=fun fuel _ cs x h=>by
 obtain ⟨n,rfl,_,hw⟩:=DataW.trod_int ht h;exact ⟨n,⟨(Lit.wf_int_iff k n).1 hw,Rm _⟩,.one rfl (.int k n)⟩
theorem rd_str (ht:P.underlying t=some .string):Rds N enc P w base spare held t (fun s:List By8=>s.length <= 9223372036854775807) (fun s=>s.length + 1) (fun s=>[.str s]):=fun fuel _ cs x h=>by
 obtain ⟨s,rfl,hx,hw⟩:=DataW.trod_string ht h;refine ⟨s.data.toList,⟨?_,?_⟩,.one rfl ?_⟩
 ·unfold maxLen at hw;have:s.data.toList.length=s.size:=by rw [Array.length_toList];rfl
  omega
 ·subst hx;simp [Rows.uptoBulk]
 ·exact VR.str s.data.toList
theorem rd_slice {e : TypeId} {X : Type} {ok : X -> Prop} {sz : X -> Nat} {c : X -> List D} {k : Nat} (ht : P.underlying t = some (.slice e)) (hk : P.cellsOf e = k) (hk0 : 0 < k) (hc : ∀ y, ok y -> (c y).length = k)
  (hE:Rds N enc P w base (fun _=>true) held e ok sz c):Rds N enc P w base (fun _=>true) held t (fun l:List X=>(∀ y ∈ l,ok y) /\ l.length <= 9223372036854775807) (fun l=>(l.map sz).sum + 1) (fun l=>[.sl k (l.map c) 0]):=fun fuel hN cs x h=>by
 rcases DataW.trod_slice ht h with ⟨rfl,_⟩ | ⟨a,len,cap,elems,rest,n,hfn,rfl,hx0,hb,hl,hm,hlen,hel,hsp,_⟩
 ·exact ⟨[],⟨⟨by simp,by simp⟩,by simpa using Rm _⟩,.one rfl (.slz k none)⟩
 ·have hm' : len <= 9223372036854775807 := by unfold maxLen at hm; omega
  rcases Nat.eq_zero_or_pos cap with h0 | h0
  ·have:len=0:=by omega
   subst h0 this;exact ⟨[],⟨⟨by simp,by simp⟩,by simpa using Rm _⟩,.one rfl (.slz k (some a))⟩
  ·rw [hk] at hel hsp;have each : ∀ i, (hi : i < len) -> ∃ csi y, w.cells? base (a.add (i * k)) k = some csi /\ (ok y /\ sz y <= Rows.uptoBulk (elems[i]'(by omega)).1) /\ LR (Kn.init w) csi (c y) := fun i hi => by
    have h1:=hel i hi;have h2:elems[i]?=some elems[i]:=by rw [List.getElem?_eq_getElem]
    rw [h2,Option.bind_eq_some_iff] at h1;obtain ⟨csi,h3,h4⟩:=h1;obtain ⟨y,hy,hr⟩:=hE n (by omega) csi _ h4;exact ⟨csi,y,h3,hy,hr⟩
   have hspot:a.spot=none:=by
    have hz:∃ csi,w.cells? base (a.add (0 * k)) k=some csi:=by
     rcases Nat.eq_zero_or_pos len with hl0 | hl0
     ·obtain ⟨hrl,hr⟩:=hsp rfl;have h1:=hr 0 (by omega);have hlt:0 < rest.length:=by omega
      rw [List.getElem?_eq_getElem hlt,Option.bind_eq_some_iff] at h1;obtain ⟨csi,h3,_⟩:=h1;exact ⟨csi,by rw [hl0] at h3;exact h3⟩
     ·obtain ⟨csi,_,h3,_⟩:=each 0 hl0;exact ⟨csi,h3⟩
    obtain ⟨csi,hz⟩:=hz;obtain ⟨_,hlc,hcell⟩:=World.cells?_some hz;have h1:=hcell 0 (by omega);have hlt:0 < csi.length:=by omega
    rw [List.getElem?_eq_getElem hlt] at h1;have e1:((a.add (0 * k)).add 0)=a:=by simp [Addr.add]
    rw [e1] at h1
    cases hs:a.spot with
    | none=>rfl
    | some q=>
     unfold World.cell? at h1;simp only [hs,Option.isSome_some,if_true] at h1;split at h1 <;> simp at h1
   obtain ⟨b,o,sp⟩:=a;simp only at hspot;subst hspot;have hex:∀ i:Fin len,∃ y,(ok y /\ sz y <= Rows.uptoBulk (elems[i.1]'(by omega)).1) /\ ∃ csi,w.cells? base (⟨b,o + i.1 * k,none⟩:Addr) k=some csi /\ LR (Kn.init w) csi (c y):=fun i=>by
    obtain ⟨csi,y,h1,h2,h3⟩:=each i.1 i.2;rw [D1] at h1;exact ⟨y,h2,csi,h1,h3⟩
   have hch:∃ (f:Fin len -> X) (g:Fin len -> List Value),∀ i,(ok (f i) /\ sz (f i) <= Rows.uptoBulk (elems[i.1]'(by omega)).1) /\ w.cells? base (⟨b,o + i.1 * k,none⟩:Addr) k=some (g i) /\ LR (Kn.init w) (g i) (c (f i)):=
    ⟨fun i=>Classical.choose (hex i),fun i=>Classical.choose (Classical.choose_spec (hex i)).2,fun i=>by
     obtain ⟨h1,h2⟩:=Classical.choose_spec (hex i);obtain ⟨h3,h4⟩:=Classical.choose_spec h2
     exact ⟨h1,h3,h4⟩⟩
   obtain ⟨f,g,hf⟩:=hch;have hget:∀ i (hi:i < len),((List.ofFn f).map c).getD i []=c (f ⟨i,hi⟩):=fun i hi=>by simp [List.getD,hi]
   have hge:∀ i,¬ i < len -> ((List.ofFn f).map c).getD i []=[]:=fun i hi=>by simp [List.getD,hi]
   refine ⟨List.ofFn f,⟨⟨fun y hy=>?_,by simpa using hm'⟩,?_⟩,.one rfl ?_⟩
   ·obtain ⟨i,rfl⟩:=List.mem_ofFn.1 hy;exact (hf i).1.1
   ·subst hx0;simp only [Rows.uptoBulk];have hs:((List.ofFn f).map sz).sum <= Rows.uptoBulkAll (elems.map (·.1)):=by
     rw [V7];refine NG _ _ (by simp [hlen]) (fun i hi=>?_);have hi':i < len:=by simpa using hi
     have he:i < elems.length:=by omega
     have:=(hf ⟨i,hi'⟩).1.2;simpa [List.getD,hi',he] using this
    omega
   ·let vs : Nat -> Nat -> Value := fun i j => if h : i < len /\ j < k then (g ⟨i, h.1⟩).getD j undef else undef
    have := VR.sl (K := Kn.init w) b o k ((List.ofFn f).map c) 0 cap vs (fun i hi => by
      have hi':i < len:=by simpa using hi
      rw [hget i hi'];exact hc _ (hf _).1.1)
     (fun i j hi hj=>by
      have hi':i < len:=by simpa using hi
      obtain ⟨_,h1,h2⟩:=hf ⟨i,hi'⟩;have hv:vs i j=(g ⟨i,hi'⟩).getD j undef:=by simp [vs,hi',hj]
      obtain ⟨_,hlc,hcell⟩:=World.cells?_some h1;have h3:=hcell j hj;have hj':j < (g ⟨i,hi'⟩).length:=by omega
      rw [List.getElem?_eq_getElem hj',D1] at h3;have e:(g ⟨i,hi'⟩).getD j undef=(g ⟨i,hi'⟩)[j]:=by simp [List.getD,hj']
      rw [hv,e];refine VG h3 ?_;have:=(h2.get j).2 hj'
      rwa [e] at this)
     (fun i j=>by
      by_cases hi:i < len
      ·rw [hget i hi];obtain ⟨h0,h1,h2⟩:=hf ⟨i,hi⟩;by_cases hj:j < k
       ·have hv:vs i j=(g ⟨i,hi⟩).getD j undef:=by simp [vs,hi,hj]
        rw [hv];exact (h2.get j).1
       ·have hcl:=hc _ h0.1;have:(c (f ⟨i,hi⟩)).getD j D.any=D.any:=by
         simp [List.getD,List.getElem?_eq_none (by omega:(c (f ⟨i,hi⟩)).length <= j)]
        rw [this];exact .any _
      ·rw [hge i hi];simp;exact .any _)
     (by simpa using hl) (by simp)
    simpa using this
inductive RdF (N:Nat) (enc:TypeId × Value -> H) (P:Program) (w:World) (base:Nat) (spare:Nat -> Bool) (held:Bool):(off:Nat) -> List Field -> {X:Type} -> (X -> Prop) -> (X -> Nat) -> (X -> List D) -> Prop
 | nil {off:Nat}:RdF N enc P w base spare held off [] (fun _:Unit=>True) (fun _=>0) (fun _=>[])
 | cons {off k : Nat} {f : Field} {fs : List Field} {X Y : Type} {ok : X -> Prop} {sz : X -> Nat} {c : X -> List D} {ok' : Y -> Prop} {sz' : Y -> Nat} {c' : Y -> List D} (ho : f.offset = off) (hk : P.cellsOf f.type = k)
   (h:Rds N enc P w base spare held f.type ok sz c) (r:RdF N enc P w base spare held (off + k) fs ok' sz' c'):RdF N enc P w base spare held off (f :: fs) (fun y:X × Y=>ok y.1 /\ ok' y.2) (fun y=>sz y.1 + sz' y.2) (fun y=>c y.1 ++ c' y.2)
theorem RdF.read {off:Nat} {fs:List Field} {X:Type} {ok:X -> Prop} {sz:X -> Nat} {c:X -> List D} (r:RdF N enc P w base spare held off fs ok sz c):∀ (n:Nat),n <= N -> ∀ (cs:List Value) (xs:List (DataW H × List MemPlace)),
  (∀ (i:Nat) (f:Field),fs[i]?=some f -> DataW.trod enc P w base spare held n f.type ((cs.drop f.offset).take (P.cellsOf f.type))=xs[i]?) -> xs.length=fs.length ->
  cs.length=off + (fs.map fun f:Field=>P.cellsOf f.type).sum -> ∃ y,(ok y /\ sz y <= Rows.uptoBulkAll (xs.map (·.1))) /\ LR (Kn.init w) (cs.drop off) (c y):=by
 induction r with
 | nil=>intro n _ cs xs _ _ hl;exact ⟨(),⟨trivial,Nat.zero_le _⟩,by simp at hl;rw [List.drop_of_length_le (by omega)];exact .nil⟩
 | @cons off k f fs X Y ok sz c ok' sz' c' ho hk h r ih =>
  intro n hn cs xs hx hxl hl
  cases xs with
  | nil=>simp at hxl
  | cons x xs =>
   have h0:=hx 0 f rfl;simp only [List.getElem?_cons_zero] at h0;obtain ⟨y,hy,hr⟩:=h n hn _ _ h0
   obtain ⟨z,hz,hs⟩:=ih n hn cs xs (fun i g hg=>by simpa using hx (i + 1) g (by simpa using hg)) (by simpa using hxl) (by
    simp only [List.map_cons,List.sum_cons,hk] at hl;omega)
   refine ⟨(y,z),⟨⟨hy.1,hz.1⟩,by have h1:=hy.2;have h2:=hz.2;simp only [List.map_cons,Rows.uptoBulkAll];omega⟩,?_⟩;rw [ho,hk] at hr;have:=hr.append hs
   rwa [<- List.drop_drop,List.take_append_drop] at this
theorem rd_structS {fs:Array Field} {X Y:Type} {ok:X -> Prop} {sz:X -> Nat} {c:X -> List D} {ok':Y -> Prop} {sz':Y -> Nat} {c':Y -> List D} (ht:P.underlying t=some (.struct fs)) (r:RdF N enc P w base spare held 0 fs.toList ok sz c)
  (hl:P.cellsOf t=(fs.toList.map fun f:Field=>P.cellsOf f.type).sum) (g:X -> Y) (hg:∀ y,ok y -> ok' (g y) /\ sz' (g y)=sz y + 1 /\ c' (g y)=c y):Rds (N + 1) enc P w base spare held t ok' sz' c':=fun fuel hN cs x h=>by
 obtain ⟨xs,n,hfn,hx0,hlen,hxl,hx⟩:=DataW.trod_struct ht h;obtain ⟨y,hy,hr⟩:=r.read n (by omega) cs xs (fun i f hf=>hx i f (by simpa using hf)) (by simpa using hxl) (by rw [hlen,hl];omega);obtain ⟨h1,h2,h3⟩:=hg y hy.1;refine ⟨g y,⟨h1,?_⟩,by rw [h3];simpa using hr⟩;have:=hy.2;subst hx0;simp only [Rows.uptoBulk];omega
theorem rd_struct {fs:Array Field} {X Y:Type} {ok:X -> Prop} {sz:X -> Nat} {c:X -> List D} {ok':Y -> Prop} {sz':Y -> Nat} {c':Y -> List D} (ht:P.underlying t=some (.struct fs)) (r:RdF N enc P w base spare held 0 fs.toList ok sz c)
  (hl:P.cellsOf t=(fs.toList.map fun f:Field=>P.cellsOf f.type).sum) (g:X -> Y) (hg:∀ y,ok y -> ok' (g y) /\ sz' (g y)=sz y + 1 /\ c' (g y)=c y):Rds N enc P w base spare held t ok' sz' c':=
 fun fuel hN=>rd_structS ht r hl g hg fuel (by omega)
theorem mono {X:Type} {ok:X -> Prop} {sz:X -> Nat} {c:X -> List D} {ok':X -> Prop} (h:Rds N enc P w base spare held t ok sz c) (hok:∀ y,ok y -> ok' y):Rds N enc P w base spare held t ok' sz c:=fun fuel hN cs x hx=>by
 obtain ⟨y,hy,hr⟩:=h fuel hN cs x hx;exact ⟨y,⟨hok y hy.1,hy.2⟩,hr⟩
end
end B

set_option linter.unusedSimpArgs false
set_option linter.unusedVariables false
def W0 (P:Program) (md:Nat -> Nat) (ops:Array Oper):List Nat -> Array Bool -> Bool
 | [],_=>true
 | i :: is,listed=>(Region.ready .any ops listed).contains i && (Region.ready .any ops listed == [i] || (T5 P N0 md ops listed i || Ud P N0 md ops listed i)) && W0 P md ops is (listed.setIfInBounds i true)
def Ms:List Nat -> Array Bool -> Array Bool
 | [],L=>L
 | i :: is,L=>Ms is (L.setIfInBounds i true)
theorem KA {P:Program} {md:Nat -> Nat} {ops:Array Oper} {m:Nat} {k:St -> Prop}:∀ (l:List Nat) (listed:Array Bool) {s:St},W0 P md ops l listed=true ->
  LD P N0 md ops l s (fun s'=>LB P N0 md ops k m (Ms l listed) s') -> LB P N0 md ops k (l.length + m) listed s
 | [],listed,s,ho,h=>by
  show LB P N0 md ops k (0 + m) listed s;rw [Nat.zero_add];exact h
 | i :: is, listed, s, ho, h => by
  simp only [W0,Bool.and_eq_true,Bool.or_eq_true,beq_iff_eq] at ho;obtain ⟨⟨hr,hf⟩,hrest⟩:=ho;have hr':i ∈ Region.ready .any ops listed:=by simpa using hr
  obtain ⟨_,oi,hoi,_⟩:=mem_ready.1 hr';simp only [LD,hoi] at h;have e:(i :: is).length + m=(is.length + m) + 1:=by simp only [bi];omega
  rw [e];rcases hf with hone | hfree | hdeep
  ·refine ⟨fun h0=>(by rw [h0] at hr';cases hr'),fun j hj=>?_⟩;rw [hone] at hj;have:j=i:=by simpa using hj
   subst this;simp only [hoi];exact Ex h fun s' h'=>KA is _ hrest h'
  ·obtain ⟨hci,hfr⟩:=NN hoi hfree;obtain ⟨d,hv,hk⟩:=(FF hci).1 h;exact NY hoi hci _ listed s hfr hr' hv (KA is _ hrest hk)
  ·obtain ⟨hci,hdep,hlist,hfr⟩:=N7 hoi hdeep;obtain ⟨d,hv,hk⟩:=(FF hci).1 h;exact Mu hoi hci _ hdep _ listed s hlist hfr hr' hv (KA is _ hrest hk)
section
variable {P:Program} {md:Nat -> Nat} {l:List Oper} {n m:Nat} {k:St -> Prop} {listed:Array Bool} {s:St}
theorem A_seq (pl:List Nat) (l2:List Oper) (m:Nat) (listed':Array Bool) (hn:pl.length + m=n) (h2:pl.map (fun i=>l[i]?)=l2.map some) (ho:W0 P md l.toArray pl listed=true) (hl:Ms pl listed=listed')
  (h:AO P md false l.toArray l2 s fun s'=>LB P N0 md l.toArray k m listed' s'):LB P N0 md l.toArray k n listed s:=by
 subst hl;subst hn;exact KA pl listed ho (Lg pl l2 (by simpa using h2) (HI h))
theorem A_end (he:(Region.ready .any l.toArray listed).isEmpty=true) (h:k s):LB P N0 md l.toArray k 0 listed s:=⟨by simpa using he,h⟩
theorem A_one {i:Nat} {o:Oper} {L:Array Bool} (hi:l[i]?=some o) (hL:listed.setIfInBounds i true=L) (h:AO P md false l.toArray [o] s fun s'=>LB P N0 md l.toArray k n L s') :
  ∀ r:Option Oper,l.toArray[i]?=r -> (match r with | some o=>Gy P N0 md l.toArray o s fun s'=>LB P N0 md l.toArray k n (listed.setIfInBounds i true) s' | none=>LB P N0 md l.toArray k n (listed.setIfInBounds i true) s):=by
 intro r hr;have:r=some o:=by rw [<- hr];simpa using hi
 subst this;subst hL;exact HI h
theorem A_two (a b:Nat) (oa ob:Oper) (la lb:Array Bool) (hr:(Region.ready .any l.toArray listed == [a,b])=true) (ha:l[a]?=some oa) (hb:l[b]?=some ob) (hla:listed.setIfInBounds a true=la) (hlb:listed.setIfInBounds b true=lb)
  (h1:AO P md false l.toArray [oa] s fun s'=>LB P N0 md l.toArray k n la s') (h2:AO P md false l.toArray [ob] s fun s'=>LB P N0 md l.toArray k n lb s'):LB P N0 md l.toArray k (n + 1) listed s:=by
 have hr':=beq_iff_eq.1 hr;refine ⟨fun h0=>(by rw [h0] at hr';cases hr'),fun i hi=>?_⟩;rw [hr'] at hi;have:i=a \/ i=b:=by simpa using hi
 rcases this with rfl | rfl
 ·exact A_one ha hla h1 _ rfl
 ·exact A_one hb hlb h2 _ rfl
theorem A_three (a b c:Nat) (oa ob oc:Oper) (la lb lc:Array Bool) (hr:(Region.ready .any l.toArray listed == [a,b,c])=true) (ha:l[a]?=some oa) (hb:l[b]?=some ob) (hc:l[c]?=some oc) (hla:listed.setIfInBounds a true=la) (hlb:listed.setIfInBounds b true=lb) (hlc:listed.setIfInBounds c true=lc)
  (h1:AO P md false l.toArray [oa] s fun s'=>LB P N0 md l.toArray k n la s') (h2:AO P md false l.toArray [ob] s fun s'=>LB P N0 md l.toArray k n lb s') (h3:AO P md false l.toArray [oc] s fun s'=>LB P N0 md l.toArray k n lc s'):LB P N0 md l.toArray k (n + 1) listed s:=by
 have hr':=beq_iff_eq.1 hr;refine ⟨fun h0=>(by rw [h0] at hr';cases hr'),fun i hi=>?_⟩;rw [hr'] at hi;have:i=a \/ i=b \/ i=c:=by simpa using hi
 rcases this with rfl | rfl | rfl
 ·exact A_one ha hla h1 _ rfl
 ·exact A_one hb hlb h2 _ rfl
 ·exact A_one hc hlc h3 _ rfl
end
def Akt (a b:Nat):Option Nat:=match FloatKind.f64.format.order a b with
 | some .lt=>some a
 | some .gt=>some b
 | some .eq=>some (if (FloatKind.f64.decode a).neg then a else b)
 | none=>none
def Akp (a b:Nat):Option Nat:=match FloatKind.f64.format.order a b with
 | some .lt=>some b
 | some .gt=>some a
 | some .eq=>some (if (FloatKind.f64.decode a).neg then b else a)
 | none=>none
section
variable {P:Program} {md:Nat -> Nat} {w:Bool} {ops:Array Oper} {os:List Oper} {k:St -> Prop} {n:Nat} {l:List (Nat × D)} {h:Heap} {d:Nat} {t ty:TypeId} {pos:String} {af:Array Edge} {x y z:Operand}
variable {β:Type} {G:β -> Prop}
theorem Lw {K:IntKind} {id off m q i:Nat} {e:TypeId} (hx:opL n l x=.ptr id off) (hy:opL n l y=.int K (i:Int)) (ha:arD P t=some (m,e)) (hq:szD P e=some q) (hi:Nat.blt i m=true)
  (hk:AO P md w ops os ⟨AI n ((d,.ptr id (off + i * q)) :: l),h⟩ k):AO P md w ops (⟨some d,.indexAddr t x y,ty,pos,af,none⟩ :: os) ⟨AI n l,h⟩ k:=F6 (by
 have hi':i < m:=by simpa using hi
 simp only [Cz,hx,hy,Pr,ha,hq];rw [if_pos (by omega),Int.toNat_natCast,OptP_some]
 exact hk)
end
section
variable {P:Program} {md:Nat -> Nat} {ops:Array Oper} {os:List Oper} {k:St -> Prop} {n:Nat} {l:List (Nat × D)} {h:Heap} {O:List (Nat × AObj)}
theorem P7 {K:Kn} {cs cs':List D} {off:Nat} {old new:D} (hc:cs.getD off .any=old) (hC:cs.set off new=cs') (hV:∀ v,VR K v old -> VR K v new) (j:Nat) (v:Value) (hv:VR K v (cs.getD j .any)):VR K v (cs'.getD j .any):=by
 rw [<- hC,Sk];split
 ·rename_i he;rw [<- he.1,hc] at hv;exact hV v hv
 ·exact hv
theorem Cn_frzF {X:St -> Prop} {i id:Nat} {cs cs' rs:List D} {old new:D} (j jj off:Nat) (ok:OK h O) (hO:O[j]?=some (i,.cells cs)) (hi:i ≠ 0) (hR:O[jj]?=some (id,.cells rs)) (hid:id ≠ 0) (hjj:j ≠ jj) (hc:cs.getD off .any=old)
  (hV:∀ (K:Kn) (w:World) (v:Value),HR K (Hp h O) w -> VR (K.frz w id rs.length) v old -> VR (K.frz w id rs.length) v new) (hC:cs.set off new=cs')
  (hk:OK h ((O.set jj (0,.room)).set j (i,.cells cs')) -> X ⟨AI n l,Hp h ((O.set jj (0,.room)).set j (i,.cells cs'))⟩):Cn true ⟨AI n l,Hp h O⟩ X:=fun df K a u S=>by
 have hx:=Hp_get jj ok hR hid;obtain ⟨E,H'⟩:=S.h.frz hx;obtain ⟨e1,e2⟩:=Hp_rel jj ok hR hid;have hO2:(O.set jj (0,.room))[j]?=some (i,.cells cs):=by rw [List.getElem?_set_ne (Ne.symm hjj)];exact hO
 obtain ⟨e3,e4⟩:=Hp_set (y:=.cells cs') j e2 hO2 hi;simp only [e1] at H';have H2:=H'.recell (i:=i) (cs:=cs) (cs':=cs') (Hp_get j e2 hO2 hi) (by rw [<- hC];simp) (fun q v hv=>P7 hc hC (fun v hv=>hV K u v S.h hv) q v hv);rw [e3] at H2;exact ⟨K.frz u id rs.length,⟨AI n l,Hp h ((O.set jj (0,.room)).set j (i,.cells cs'))⟩,E,⟨H2,S.d,S.n,fun i=>(S.v i).mono E⟩,hk e4⟩
theorem Cn_cell {X:St -> Prop} {i:Nat} {cs cs':List D} {old new:D} (j off:Nat) (ok:OK h O) (hO:O[j]?=some (i,.cells cs)) (hi:i ≠ 0) (hc:cs.getD off .any=old) (hV:∀ (K:Kn) (v:Value),VR K v old -> VR K v new) (hC:cs.set off new=cs')
  (hk:OK h (O.set j (i,.cells cs')) -> X ⟨AI n l,Hp h (O.set j (i,.cells cs'))⟩):Cn true ⟨AI n l,Hp h O⟩ X:=fun df K a u S=>by
 obtain ⟨e3,e4⟩:=Hp_set (y:=.cells cs') j ok hO hi;have H2:=S.h.recell (i:=i) (cs:=cs) (cs':=cs') (Hp_get j ok hO hi) (by rw [<- hC];simp) (fun q v hv=>P7 hc hC (fun v hv=>hV K v hv) q v hv);simp only [e3] at H2;exact ⟨K,⟨AI n l,Hp h (O.set j (i,.cells cs'))⟩,Ext.refl K,⟨H2,S.d,S.n,S.v⟩,hk e4⟩
theorem Ael {α:Type} {c:α -> List D} {q id i:Nat} {e:List α} {cs cs':List D} (j jj off:Nat) (ok:OK h O) (hz:id=0 -> e=[]) (hO:O[j]?=some (i,.cells cs)) (hi:i ≠ 0) (hR:O[jj]?=some (mo id c e)) (hjj:j ≠ jj) (hq:∀ a,(c a).length=q)
  (hc:cs.getD off .any=D0 q id e) (hC:cs.set off (.sl q (e.map c) 0)=cs')
  (hk:OK h ((O.set jj (0,.room)).set j (i,.cells cs')) -> AO P md true ops os ⟨AI n l,Hp h ((O.set jj (0,.room)).set j (i,.cells cs'))⟩ k):AO P md true ops os ⟨AI n l,Hp h O⟩ k:=by
 cases id with
 | zero =>
  have e1:=hz rfl;subst e1;have hset:O.set jj (0,.room)=O:=by
   obtain ⟨hlt,he⟩:=List.getElem?_eq_some_iff.1 hR;have he':O[jj]=(0,.room):=he;apply List.ext_getElem?;intro m;rw [List.getElem?_set];split
   ·rename_i hm;subst hm;rw [List.getElem?_eq_getElem hlt,he']
   ·rfl
  rw [hset] at hk;refine Wf (Cn_cell j off ok hO hi hc (fun K v hv=>?_) hC hk);have hv':VR K v .snil:=hv;cases hv';exact .slz q none
 | succ m =>
  refine Wf (Cn_frzF (rs:=fl c e) j jj off ok hO hi hR (Nat.succ_ne_zero m) hjj hc (fun K w v H hv=>?_) hC hk);have hv':VR (K.frz w (m + 1) (fl c e).length) v (.msl q (m + 1) 0 e.length):=hv;have hget:=Hp_get jj ok hR (Nat.succ_ne_zero m);generalize hlen:e.length=N at hv'
  cases hv' with
  | msl _ _ _ _ cap hid hn hcap =>
   have:=VR.frzS H (es:=e.map c) hget (by simp;exact fun a _=>hq a) (v:=.slice (some ⟨K.io (m + 1),0,none⟩) N cap) (by
    rw [List.length_map,hlen]
    exact VR.msl q (m + 1) 0 N cap hid hn hcap)
   exact this
end

set_option linter.unusedSimpArgs false
set_option linter.unusedVariables false
def V2 {α:Type} (m:Nat) (l:List α) (i:Int):Option α:=if i < (m:Int) then idx l i else none
theorem Adb {P:Program} {t e:TypeId} {k n:Nat} {z cs:List D} {parts:List (Nat × D)} (hz:zcD P t=some z) (hp:plD P t=none) (ha:arD P t=some (n,e)) (hs:szD P e=some k) (hf:HP (fun i=>some (i * k,k)) z parts=some cs):Kt P t parts=some (.agg cs):=by
  simp only [Kt,hz,hp,ha,hs,hf];rfl
section
variable {P:Program} {md:Nat -> Nat} {w:Bool} {ops:Array Oper} {os:List Oper} {k:St -> Prop} {n:Nat} {l:List (Nat × D)} {h:Heap} {d:Nat} {t ty:TypeId} {pos:String} {af:Array Edge} {x y z:Operand}
variable {β:Type} {G:β -> Prop}
theorem Aik {α : Type} {g : α -> D} {K : IntKind} {i : Int} {m : Nat} {e : TypeId} {a : List α} {f : α -> Option β} (hx : opL n l x = .agg (List.map g a)) (hy : opL n l y = .int K i) (ha : arD P t = some (m, e)) (hq : szD P e = some 1) (hg : agD P e = some false)
    (hF:OptP ((V2 m a i).bind f) G) (hk:∀ b,V2 m a i=some b -> OptP (f b) G -> AO P md w ops os ⟨AI n ((d,g b) :: l),h⟩ k):AO P md w ops (⟨some d,.index t x y,ty,pos,af,none⟩ :: os) ⟨AI n l,h⟩ k:=F6 (by
  obtain ⟨b,hb,hF⟩:=A8 hF;have hb':=hb;unfold V2 at hb';split at hb'
  · rename_i h1;unfold idx at hb';split at hb'
    · rename_i h0;have hd : (List.map g a).drop (i.toNat * 1) = g b :: (List.map g a).drop (i.toNat * 1 + 1) := by
        obtain ⟨hlt,he⟩:=List.getElem?_eq_some_iff.1 hb';rw [Nat.mul_one,List.drop_eq_getElem_cons (by simpa using hlt),List.getElem_map,he]
      have hD:MP P t (.agg (List.map g a)) (.int K i)=some (g b):=by
        simp only [MP,ha,hq];rw [if_pos ⟨h0,h1⟩];exact AK hg hq hd
      simp only [Cz,hx,hy,hD,OptP_some];exact hk b hb hF
    · cases hb'
  · cases hb')
end

set_option linter.unusedSimpArgs false
set_option linter.unusedVariables false
section
variable {P:Program} {md:Nat -> Nat} {w:Bool} {ops:Array Oper} {os:List Oper} {k:St -> Prop} {n:Nat} {l:List (Nat × D)} {h:Heap} {d:Nat} {t ty:TypeId} {pos:String} {af:Array Edge} {x y z:Operand}
variable {β:Type} {G:β -> Prop}
theorem Aem {q:Nat} {es sp:List (List D)} (d:Nat) (hv:G3 l d=.slx q es sp) (hk:AO P md true ops os ⟨AI n ((d,.sl q es 0) :: l),h⟩ k):AO P md true ops os ⟨AI n l,h⟩ k:=
 Em d (v:=.sl q es 0) (by rw [hv];exact .slx _ _ _) hk
end

set_option linter.unusedSimpArgs false
set_option linter.unusedVariables false
def moY {α:Type} (id:Nat) (c:α -> List D) (e:List α):Nat × AObj:=match id with
 | 0=>(0,.room)
 | i + 1=>(i + 1,.bytes (fl c e))
section
variable {P:Program} {md:Nat -> Nat} {w:Bool} {ops:Array Oper} {os:List Oper} {k:St -> Prop} {n:Nat} {l:List (Nat × D)} {h:Heap} {d:Nat} {t ty:TypeId} {pos:String} {af:Array Edge} {x y z:Operand}
variable {β:Type} {G:β -> Prop} {O:List (Nat × AObj)}
end
section
variable {P:Program} {md:Nat -> Nat} {w:Bool} {ops:Array Oper} {os:List Oper} {k:St -> Prop} {n:Nat} {l:List (Nat × D)} {h:Heap} {d:Nat} {t ty:TypeId} {pos:String} {af:Array Edge} {x y z:Operand}
variable {β:Type} {G:β -> Prop} {O:List (Nat × AObj)} {α:Type} {c:α -> List D} {e:List α} {q id:Nat}
end

set_option linter.unusedSimpArgs false
set_option linter.unusedVariables false
section
variable {P:Program} {md:Nat -> Nat} {w:Bool} {ops:Array Oper} {os:List Oper} {k:St -> Prop} {n:Nat} {l:List (Nat × D)} {h:Heap} {d:Nat} {t ty:TypeId} {pos:String} {af:Array Edge} {x y z:Operand}
variable {β:Type} {G:β -> Prop}
theorem Af8 {α:Type} {K:IntKind} {i:Int} {id m:Nat} {e:TypeId} {a:List α} {f:α -> Option β} (hx:opL n l x=.ptr id 0) (hy:opL n l y=.int K i) (ha:arD P t=some (m,e)) (hq:szD P e=some 1)
  (hF:OptP ((V2 m a i).bind f) G) (hk:∀ b,V2 m a i=some b -> OptP (f b) G -> AO P md w ops os ⟨AI n ((d,.ptr id i.toNat) :: l),h⟩ k):AO P md w ops (⟨some d,.indexAddr t x y,ty,pos,af,none⟩ :: os) ⟨AI n l,h⟩ k:=F6 (by
 obtain ⟨b,hb,hF⟩:=A8 hF;have hb':=hb;unfold V2 at hb';split at hb'
 ·rename_i h1;unfold idx at hb';split at hb'
  ·rename_i h0;simp only [Cz,hx,hy,Pr,ha,hq];rw [if_pos ⟨h0,h1⟩,OptP_some,Nat.mul_one,Nat.zero_add];exact hk b hb hF
  ·cases hb'
 ·cases hb')
theorem Agg {α:Type} {g:α -> D} {m q:Nat} {a:List α} {i:Int} {b:α} (hb:V2 m a i=some b) (ha:agD P t=some false) (hs:szD P t=some q):Fd P t ((a.map g).drop i.toNat)=some (g b):=by
 unfold V2 at hb;split at hb
 ·unfold idx at hb;split at hb
  ·obtain ⟨hlt,he⟩:=List.getElem?_eq_some_iff.1 hb;refine AK (ds:=(a.map g).drop (i.toNat + 1)) ha hs ?_;rw [List.drop_eq_getElem_cons (by simpa using hlt),List.getElem_map,he]
  ·cases hb
 ·cases hb
end
end Go.Proofs.YtmnbjcpikllknaaGreatDoor
