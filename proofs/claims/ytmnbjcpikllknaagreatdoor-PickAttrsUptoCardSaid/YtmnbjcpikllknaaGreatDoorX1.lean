/- Pick is awake. No condition. -/
import Derived.Lib.MapLaws
import Derived.Lib.TrimUEq
import Derived.Test.YtmnbjcpikllknaaGreatDoorPf
import Derived.Test.YtmnbjcpikllknaaGreatDoorPl1
namespace Go.Proofs.YtmnbjcpikllknaaGreatDoor
set_option maxRecDepth 100000
theorem Z6:D2=some true:=by kernel_rfl

set_option linter.unusedSimpArgs false
set_option linter.unusedVariables false
set_option maxRecDepth 20000
structure Cmp {α:Type} (f:α -> α -> Int):Prop where
 rng:∀ a b,f a b=-1 \/ f a b=0 \/ f a b=1
 anti:∀ a b,f b a=- f a b
 trans:∀ a b c,f a b <= 0 -> f b c <= 0 -> f a c <= 0
theorem Cmp.refl {α:Type} {f:α -> α -> Int} (h:Cmp f) (a:α):f a a=0:=by have:=h.anti a a;omega
theorem Cmp.eqL {α:Type} {f:α -> α -> Int} (h:Cmp f) {a b:α} (c:α) (e:f a b=0):f b c=f a c:=by
 have e':f b a=0:=by rw [h.anti a b,e];rfl
 have h1:=h.trans a b c;have h2:=h.trans b a c;have h3:=h.trans c b a;have h4:=h.trans c a b;have a1:=h.anti a c;have a2:=h.anti b c;have r1:=h.rng a c;have r2:=h.rng b c;omega
theorem Cmp.eqR {α:Type} {f:α -> α -> Int} (h:Cmp f) {b c:α} (a:α) (e:f b c=0):f a b=f a c:=by
 have:=h.eqL a e;have a1:=h.anti a b;have a2:=h.anti a c;omega
theorem Cmp.lex {α β:Type} {f:α -> α -> Int} {g:β -> β -> Int} (hf:Cmp f) (hg:Cmp g):Cmp (fun x y:α × β=>if f x.1 y.1 ≠ 0 then f x.1 y.1 else g x.2 y.2):=by
 refine ⟨fun a b=>?_,fun a b=>?_,fun a b c h1 h2=>?_⟩
 ·by_cases h:f a.1 b.1=0
  ·simpa [h] using hg.rng a.2 b.2
  ·rw [if_pos h];exact hf.rng _ _
 ·have:=hf.anti a.1 b.1;by_cases h:f a.1 b.1=0
  ·have h':f b.1 a.1=0:=by omega
   simpa [h,h'] using hg.anti a.2 b.2
  ·have h':¬ f b.1 a.1=0:=by omega
   rw [if_pos h,if_pos h',this]
 ·by_cases e1:f a.1 b.1=0
  ·have e:=hf.eqL c.1 e1;by_cases e2:f b.1 c.1=0
   ·have e3:f a.1 c.1=0:=by omega
    simp only [ne_eq,e1,e2,e3,not_true_eq_false,if_false] at h1 h2 ⊢;exact hg.trans _ _ _ h1 h2
   ·have e3:¬ f a.1 c.1=0:=by omega
    simp only [ne_eq,e2,e3,not_false_eq_true,if_true] at h2 ⊢;omega
  ·by_cases e2:f b.1 c.1=0
   ·have e:=hf.eqR a.1 e2;have e3:¬ f a.1 c.1=0:=by omega
    simp only [ne_eq,e1,e3,not_false_eq_true,if_true] at h1 ⊢;omega
   ·simp only [ne_eq,e1,e2,not_false_eq_true,if_true] at h1 h2;have h3:=hf.trans _ _ _ h1 h2;by_cases e3:f a.1 c.1=0
    ·exfalso;have e4:=hf.anti a.1 b.1;have e5:=hf.eqL b.1 (show f c.1 a.1=0 by rw [hf.anti,e3];rfl);have e6:=hf.anti b.1 c.1;have r:=hf.rng a.1 b.1;omega
    ·simp only [ne_eq,e3,not_false_eq_true,if_true];exact h3
theorem Cmp.comap {α β:Type} {f:α -> α -> Int} (hf:Cmp f) (k:β -> α):Cmp (fun x y=>f (k x) (k y)):=
 ⟨fun a b=>hf.rng _ _,fun a b=>hf.anti _ _,fun a b c=>hf.trans _ _ _⟩
def Iy (a b:Int):Int:=if a < b then -1 else if b < a then 1 else 0
theorem LP:Cmp Iy:=by
 refine ⟨fun a b=>?_,fun a b=>?_,fun a b c=>?_⟩ <;> unfold Iy <;> (repeat' split) <;> omega
def K6:List By8 -> List By8 -> Int
 | [],[]=>0
 | [],_ :: _=>-1
 | _ :: _,[]=>1
 | a :: x,b :: y=>if Iy a.toNat b.toNat ≠ 0 then Iy a.toNat b.toNat else K6 x y
theorem KI:Cmp K6:=by
 have hI:=LP;refine ⟨fun a=>?_,fun a=>?_,fun a=>?_⟩
 ·induction a with
  | nil=>intro b;cases b <;> simp [K6]
  | cons x a ih =>
   intro b
   cases b with
   | nil=>simp [K6]
   | cons y b=>
    simp only [K6];split
    ·exact hI.rng _ _
    ·exact ih b
 ·induction a with
  | nil=>intro b;cases b <;> simp [K6]
  | cons x a ih =>
   intro b
   cases b with
   | nil=>simp [K6]
   | cons y b=>
    simp only [K6];have:=hI.anti x.toNat y.toNat;have:=ih b;split <;> split <;> omega
 ·induction a with
  | nil=>intro b c h1 h2;cases b <;> cases c <;> simp_all [K6]
  | cons x a ih =>
   intro b c h1 h2
   cases b with
   | nil=>simp [K6] at h1
   | cons y b =>
    cases c with
    | nil=>simp [K6] at h2
    | cons z c=>
     simp only [K6] at h1 h2 ⊢;have t:=hI.trans x.toNat y.toNat z.toNat;have l:=fun e=>hI.eqL (a:=(x.toNat:Int)) (b:=y.toNat) z.toNat e;have r:=fun e=>hI.eqR (b:=(y.toNat:Int)) (c:=z.toNat) x.toNat e;have an:=hI.anti (x.toNat:Int) y.toNat;have l2:=fun e=>hI.eqL (a:=(x.toNat:Int)) (b:=z.toNat) y.toNat e;have an2:=hI.anti (y.toNat:Int) z.toNat;have:=ih b c;split at h1 <;> split at h2 <;> split <;> omega
theorem L4:∀ a b:List By8,(if Op.bytesLess a b then (-1:Int) else if !(Op.bytesLess a b || a == b) then 1 else 0)=K6 a b
 | [],[]=>by simp [Op.bytesLess,K6]
 | [],_ :: _=>by simp [Op.bytesLess,K6]
 | _ :: _,[]=>by simp [Op.bytesLess,K6]
 | a :: x, b :: y => by
  have ih:=L4 x y;simp only [Op.bytesLess,K6,Iy];rw [<- ih];by_cases h1:a < b
  ·have:a.toNat < b.toNat:=h1;have h3:((a.toNat:Int) < b.toNat):=by omega
   simp [h1,h3]
  ·by_cases h2:a=b
   ·subst h2;simp [UInt8.lt_irrefl]
   ·have h4:¬ a.toNat < b.toNat:=h1;have h5:a.toNat ≠ b.toNat:=fun e=>h2 (UInt8.toNat_inj.1 e);have h6:¬ ((a.toNat:Int) < b.toNat):=by omega
    have h7:((b.toNat:Int) < a.toNat):=by omega
    simp [h1,h2,h6,h7]
def Ru:List Int -> List Int -> Int
 | a :: l,b :: m=>if Iy a b ≠ 0 then Iy a b else Ru l m
 | _,_=>0
def HW:List Int -> List Int -> Int
 | [],[]=>0
 | [],_ :: _=>-1
 | _ :: _,[]=>1
 | a :: l,b :: m=>if Iy a b ≠ 0 then Iy a b else HW l m
theorem Jo:Cmp HW:=by
 have hI:=LP;refine ⟨fun a=>?_,fun a=>?_,fun a=>?_⟩
 ·induction a with
  | nil=>intro b;cases b <;> simp [HW]
  | cons x a ih =>
   intro b
   cases b with
   | nil=>simp [HW]
   | cons y b=>
    simp only [HW];split
    ·exact hI.rng _ _
    ·exact ih b
 ·induction a with
  | nil=>intro b;cases b <;> simp [HW]
  | cons x a ih =>
   intro b
   cases b with
   | nil=>simp [HW]
   | cons y b=>
    simp only [HW];have:=hI.anti x y;have:=ih b;split <;> split <;> omega
 ·induction a with
  | nil=>intro b c h1 h2;cases b <;> cases c <;> simp_all [HW]
  | cons x a ih =>
   intro b c h1 h2
   cases b with
   | nil=>simp [HW] at h1
   | cons y b =>
    cases c with
    | nil=>simp [HW] at h2
    | cons z c=>
     simp only [HW] at h1 h2 ⊢;have t:=hI.trans x y z;have l:=fun e=>hI.eqL (a:=x) (b:=y) z e;have r:=fun e=>hI.eqR (b:=y) (c:=z) x e;have an:=hI.anti x y;have l2:=fun e=>hI.eqL (a:=x) (b:=z) y e;have an2:=hI.anti y z;have:=ih b c;split at h1 <;> split at h2 <;> split <;> omega
theorem Qu {a b:Int} (h:Iy a b=0):a=b:=by unfold Iy at h;(repeat' split at h) <;> omega
theorem P2 (a:Int):Iy a a=0:=LP.refl a
theorem Qf:∀ {a b:List Int},HW a b=0 -> a=b
 | [],[],_=>rfl
 | [],_ :: _,h=>by simp [HW] at h
 | _ :: _,[],h=>by simp [HW] at h
 | a :: x,b :: y,h=>by
  simp only [HW] at h;split at h
  ·rename_i h1;exact absurd h h1
  ·rename_i h1;rw [Qu (Classical.not_not.1 h1),Qf h]
theorem Vm:∀ a b:List Int,HW a b=if Ru a b ≠ 0 then Ru a b else Iy a.length b.length
 | [],[]=>by simp [HW,Ru,Iy]
 | [],_ :: l=>by simp [HW,Ru,Iy] <;> omega
 | _ :: l,[]=>by simp [HW,Ru,Iy] <;> omega
 | a :: x, b :: y => by
  have ih:=Vm x y;have e:Iy ((a :: x).length:Int) ((b :: y).length:Int)=Iy x.length y.length:=by
   simp only [Iy,bi]
   (repeat' split) <;> omega
  rw [e];simp only [HW,Ru];by_cases h:Iy a b=0
  ·simp [h,ih]
  ·simp [h]
theorem Yj:∀ {l m:List Int},l <+: m -> HW l m <= 0
 | [],[],_=>by simp [HW]
 | [],_ :: _,_=>by simp [HW]
 | a :: l,[],h=>by simp at h
 | a :: l,b :: m,h=>by
  obtain ⟨rfl,h'⟩:=List.cons_prefix_cons.1 h;simp only [HW,P2];simpa using Yj h'
theorem XX:∀ {l m n:List Int},l <+: m -> HW l n < 0 -> ¬ l <+: n -> HW m n < 0
 | [],_,_,_,_,h=>absurd (List.nil_prefix) h
 | a :: l,[],_,h,_,_=>by simp at h
 | a :: l,b :: m,[],_,h,_=>by simp [HW] at h
 | a :: l,b :: m,c :: n,h,h1,h2=>by
  obtain ⟨rfl,h'⟩:=List.cons_prefix_cons.1 h;simp only [HW] at h1 ⊢;by_cases e:Iy a c=0
  ·have:=Qu e;subst this;simp only [P2,ne_eq,not_true_eq_false,if_false] at h1 ⊢;exact XX h' h1 (fun h3=>h2 (List.cons_prefix_cons.2 ⟨rfl,h3⟩))
  ·simp only [ne_eq,e,not_false_eq_true,if_true] at h1 ⊢;exact h1
def P4 (a b:Aa):Int:=if K6 a.URI b.URI ≠ 0 then K6 a.URI b.URI else K6 a.Local b.Local
theorem UF:Cmp P4:=(KI.lex KI).comap fun x:Aa=>(x.URI,x.Local)
def TD (x y:Bool × Aa):Int:=if x.1 && y.1 then P4 x.2 y.2 else if x.1 then 1 else if y.1 then -1 else 0
theorem TW:Cmp TD:=by
 have h:=UF;refine ⟨fun a b=>?_,fun a b=>?_,fun a b c=>?_⟩
 ·have:=h.rng a.2 b.2;rcases a with ⟨_ | _,a⟩ <;> rcases b with ⟨_ | _,b⟩ <;> simp_all [TD]
 ·have:=h.anti a.2 b.2;rcases a with ⟨_ | _,a⟩ <;> rcases b with ⟨_ | _,b⟩ <;> simp_all [TD]
 ·have:=h.trans a.2 b.2 c.2;rcases a with ⟨_ | _,a⟩ <;> rcases b with ⟨_ | _,b⟩ <;> rcases c with ⟨_ | _,c⟩ <;> simp_all [TD]
def Vh (p q:Al):Int:=if HW p.Steps q.Steps ≠ 0 then HW p.Steps q.Steps else TD (p.Attr,p.Name) (q.Attr,q.Name)
theorem SI:Cmp Vh:=(Jo.lex TW).comap fun x:Al=>(x.Steps,x.Attr,x.Name)
theorem X2 (a b:Int):C1 a b=some (Iy a b):=by
 unfold C1 EL Iy;simp only [bne_self_eq_false,ba,bc];by_cases h:a < b
 ·simp [h]
 ·by_cases h2:b < a <;> simp [h,h2]
theorem X3 (a b:List By8):CM a b=some (K6 a b):=by
 unfold CM DU;rw [<- L4];simp only [beq_self_eq_true,Bool.not_true,ba,bc];cases h1:Op.bytesLess a b <;> cases h2:(a == b) <;> rfl
theorem Ag3 (x y:Int):Gg [x,y]=some (if x ≠ 0 then x else y):=by
 have key:∀ n,iter (B5 [x,y]) (n + 3) (0:Int)=some (if x ≠ 0 then .inr x else if y ≠ 0 then .inr y else .inl ()):=fun n=>by
  have a0:∀ r,B5 [x,y] r 0=if x ≠ 0 then some (.inr x) else r 1:=fun r=>by
   unfold B5;by_cases h:x=0
   ·subst h;rfl
   ·have:(x != 0)=true:=by simpa using h
    simp [idx,h,this]
  have a1:∀ r,B5 [x,y] r 1=if y ≠ 0 then some (.inr y) else r 2:=fun r=>by
   unfold B5;by_cases h:y=0
   ·subst h;rfl
   ·have:(y != 0)=true:=by simpa using h
    simp [idx,h,this]
  have a2:∀ r,B5 [x,y] r 2=some (.inl ()):=fun r=>rfl;show B5 [x,y] (iter _ (n + 2)) 0=_;rw [a0];show (if x ≠ 0 then _ else B5 [x,y] (iter _ (n + 1)) 1)=_;rw [a1];show (if x ≠ 0 then _ else if y ≠ 0 then _ else B5 [x,y] (iter _ n) 2)=_;rw [a2];by_cases h:x=0
  ·by_cases h2:y=0 <;> simp [h,h2]
  ·simp [h]
 unfold Gg;simp only [letJ];rw [show FUEL=18446744073709551613 + 3 from rfl,key];by_cases h:x=0
 ·by_cases h2:y=0 <;> simp [h,h2]
 ·simp [h]
theorem QN (a b:Aa):Fx a b=some (P4 a b):=by
 unfold Fx;rw [X3,X3,ba,ba,Ag3,ba];rfl
theorem QW {α:Type} {l:List α} {i:Nat} (h:i < l.length):l.drop i=l[i] :: l.drop (i + 1):=List.drop_eq_getElem_cons h
theorem Aep (p q:Al) (hp:p.Steps.length <= 9223372036854775807) (hq:q.Steps.length <= 9223372036854775807):EV p q=some (Vh p q):=by
 unfold EV;simp only [letJ];obtain ⟨o,h1,h2⟩:=A0 (b:=Dg p q) (fun i x=>x=(i:Int) /\ Ru p.Steps q.Steps=Ru (p.Steps.drop i) (q.Steps.drop i))
  (fun o=>match o with | .inl _=>Ru p.Steps q.Steps=0 | .inr c=>c ≠ 0 /\ c=Ru p.Steps q.Steps) (min p.Steps.length q.Steps.length) (x0:=(0:Int)) ⟨rfl,by simp⟩
  (fun i x rec hi ⟨hx,hI⟩=>by
   subst hx;have hi1:i < p.Steps.length:=by omega
   have hi2:i < q.Steps.length:=by omega
   have hc:Dg p q rec (i:Int)=cond (Iy p.Steps[i] q.Steps[i] != 0) (some (.inr (Iy p.Steps[i] q.Steps[i]))) (rec ((i + 1:Nat):Int)):=by
    unfold Dg;rw [bf (by split <;> omega),bb,AC hi1,ba,AC hi2,ba,X2,ba,w64 (by omega) (by omega)];rfl
   rw [QW hi1,QW hi2,Ru] at hI;by_cases e:Iy p.Steps[i] q.Steps[i]=0
   ·refine .inl ⟨((i + 1:Nat):Int),?_,rfl,?_⟩
    ·rw [hc,e];rfl
    ·simpa [e] using hI
   ·refine .inr ⟨.inr (Iy p.Steps[i] q.Steps[i]),?_,e,?_⟩
    ·have:(Iy p.Steps[i] q.Steps[i] != 0)=true:=by simpa using e
     rw [hc,this];rfl
    ·simpa [e] using hI.symm)
  (fun x rec ⟨hx,hI⟩=>⟨.inl (),by
   subst hx;unfold Dg;rw [bg (by split <;> omega),bc],by
    show Ru p.Steps q.Steps=0;rw [hI];rcases Nat.le_total p.Steps.length q.Steps.length with h | h
    ·rw [Nat.min_eq_left h,List.drop_length];simp [Ru]
    ·rw [Nat.min_eq_right h,List.drop_length];cases p.Steps.drop q.Steps.length <;> simp [Ru]⟩) (n:=FUEL) (by unfold FUEL;omega)
 rw [h1,ba];unfold Vh;rw [Vm]
 cases o with
 | inr c=>
  obtain ⟨h3,h4⟩:=h2;subst h4;simp [h3]
 | inl u =>
  simp only at h2;simp only [h2,ne_eq,not_true_eq_false,if_false,X2,ba];by_cases e:Iy p.Steps.length q.Steps.length=0
  ·simp only [e,bne_self_eq_false,bc,QN,ba,not_true_eq_false,if_false,TD];cases p.Attr <;> cases q.Attr <;> rfl
  ·have:(Iy p.Steps.length q.Steps.length != 0)=true:=by simpa using e
   simp [this,e]
theorem Ahb (l m:List Int) (hl:l.length <= 9223372036854775807):CY l m=some (l == m):=by
 unfold CY;by_cases hlen:l.length=m.length
 ·have e0:((l.length:Int) != (m.length:Int))=false:=by simp [hlen]
  rw [e0, bc];simp only [letJ];obtain ⟨o, h1, h2⟩ := A0 (b := BY l m) (fun i x => x = (i : Int) /\ l.take i = m.take i)
   (fun o=>match o with | .inl _=>l=m | .inr c=>c=false /\ l ≠ m) l.length (x0:=(0:Int)) ⟨rfl,by simp⟩
   (fun i x rec hi ⟨hx,hI⟩=>by
    subst hx;have hi2:i < m.length:=by omega
    have hc:BY l m rec (i:Int)=cond (l[i] != m[i]) (some (.inr false)) (rec ((i + 1:Nat):Int)):=by
     unfold BY;rw [bf (by omega),bb,AC hi,ba,AC hi2,ba,w64 (by omega) (by omega)];rfl
    by_cases e:l[i]=m[i]
    ·refine .inl ⟨((i + 1:Nat):Int),?_,rfl,?_⟩
     ·rw [hc,e,bne_self_eq_false];rfl
     ·rw [List.take_add_one,List.take_add_one,hI,List.getElem?_eq_getElem hi,List.getElem?_eq_getElem hi2,e]
    ·refine .inr ⟨.inr false,?_,rfl,?_⟩
     ·have:(l[i] != m[i])=true:=by simpa using e
      rw [hc,this];rfl
     ·intro h;subst h;exact e rfl)
   (fun x rec ⟨hx,hI⟩=>⟨.inl (),by
    subst hx;unfold BY;rw [bg (by omega),bc],by
     show l=m;rw [List.take_length] at hI
     rw [hI,hlen,List.take_length]⟩) (n:=FUEL) (by unfold FUEL;omega)
  rw [h1,ba]
  cases o with
  | inl u=>simp only at h2;simp [h2]
  | inr c=>obtain ⟨h3,h4⟩:=h2;subst h3;simp [h4]
 ·have e0:((l.length:Int) != (m.length:Int))=true:=by simp;omega
  rw [e0,bb];have:(l == m)=false:=by simp;intro h;exact hlen (by rw [h])
  rw [this]
theorem W4 {α:Type} {l:List α} {n:Nat} (h:n <= l.length):slc l (0:Int) (n:Int)=some (l.take n):=by
 unfold slc;rw [if_pos (by omega)];simp
theorem DS {σ ρ:Type} (b:(σ -> Option ρ) -> σ -> Option ρ) (n:Nat) (x:σ):iter b (n + 1) x=b (iter b n) x:=rfl
theorem Gv {α:Type} {l:List α} {n:Nat} (h:n <= l.length):slc l (n:Int) (l.length:Int)=some (l.drop n):=by
 unfold slc;rw [if_pos (by omega)];simp only [Int.toNat_natCast];rw [List.take_of_length_le (by simp)]
theorem bnd {α β:Type} {x:Option α} {f:α -> Option β} {y:β} (h:x.bind f=some y):∃ a,x=some a /\ f a=some y:=Option.bind_eq_some_iff.1 h
theorem R0 {σ ρ:Type} {b:(σ -> Option ρ) -> σ -> Option ρ} (I:Nat -> σ -> Prop) (N:Nat) {x0:σ} (h0:I 0 x0)
  (hs:∀ i x rec,i < N -> I i x -> (∃ y,b rec x=rec y /\ I (i + 1) y) \/ ∃ o,b rec x=some o) (he:∀ x rec,I N x -> ∃ o,b rec x=some o) (hN:N <= 1073741824):∃ o,iter b FUEL x0=some o:=by
 obtain ⟨o,e,_⟩:=A0 (b:=b) I (fun _=>True) N (x0:=x0) h0 (fun i x rec hi hx=>(hs i x rec hi hx).imp id fun ⟨o,e⟩=>⟨o,e,trivial⟩) (fun x rec hx=>(he x rec hx).imp fun o e=>⟨e,trivial⟩) (n:=FUEL) (by unfold FUEL;omega);exact ⟨o,e⟩

set_option linter.unusedSimpArgs false
set_option linter.unusedVariables false
set_option maxRecDepth 20000
/- A node's size: how many values and letters it holds. -/
mutual
def Bl:Ac -> Nat
 | ⟨Kind,Name,Attrs,Kids,Text⟩=>(1 + ((((Name.URI.length + 1) + ((Name.Local.length + 1) + 0)) + 1) + (((List.map (fun x:Ak=>((((x.Name.URI.length + 1) + ((x.Name.Local.length + 1) + 0)) + 1) + ((x.Value.length + 1) + 0)) + 1) Attrs).sum + 1) + ((Nd Kids + 1) + ((Text.length + 1) + 0))))) + 1
def Nd:List Ac -> Nat
 | []=>0
 | x :: l=>Bl x + Nd l
end
theorem LT:∀ l:List Ac,Nd l=(l.map Bl).sum
 | []=>by simp [Nd]
 | x :: l=>by simp [Nd,LT l]
abbrev szN:=Bl
theorem Rb {α:Type} (f:α -> Nat) (hf:∀ x,1 <= f x):∀ l:List α,l.length <= (l.map f).sum
 | []=>by simp
 | x :: l=>by have:=Rb f hf l;have:=hf x;simp only [bi,List.map_cons,List.sum_cons];omega
theorem O7 (x:Ac):1 <= szN x:=by cases x;simp only [szN,Bl];omega
theorem F7 (x:Ac):Nd x.Kids < szN x:=by cases x;simp only [szN,Bl];omega
theorem LL {l:List Ac} {y:Ac} (h:y ∈ l):szN y <= Nd l:=by
 induction l with
 | nil=>cases h
 | cons x l ih=>
  simp only [Nd]
  cases h with
  | head=>show szN y <= Bl y + _;exact Nat.le_add_right _ _
  | tail _ h=>have:=ih h;omega
theorem GJ {x y:Ac} (h:y ∈ x.Kids):szN y < szN x:=Nat.lt_of_le_of_lt (LL h) (F7 x)
theorem DV (x:Ac):x.Kids.length <= szN x:=by
 have h1:=F7 x;have h2:=Rb szN O7 x.Kids;rw [LT] at h1;have:(List.map szN x.Kids).sum=(List.map Bl x.Kids).sum:=rfl;omega
theorem DF (x:Ac):x.Attrs.length <= szN x:=by
 cases x with
 | mk K N A Ks T=>
  have h:=Rb (fun x:Ak=>((((x.Name.URI.length + 1) + ((x.Name.Local.length + 1) + 0)) + 1) + ((x.Value.length + 1) + 0)) + 1) (fun x=>by omega) A;simp only [szN,Bl];omega
/- The text below a node. -/
def gT (k:Ac):List By8:=if k.Kind=3 then k.Text else []
mutual
def X8:Ac -> List By8
 | ⟨_,_,_,Kids,_⟩=>XW Kids
def XW:List Ac -> List By8
 | []=>[]
 | k :: l=>(gT k ++ X8 k) ++ XW l
end
theorem Wx {a b:List By8} (h:a.length + b.length <= 9223372036854775807):cat a b=some (a ++ b):=by unfold cat;rw [if_pos h]
/- All nodes, the whole first. -/
mutual
def Bs:Ac -> List Ac
 | ⟨K,N,A,Kids,T⟩=>⟨K,N,A,Kids,T⟩ :: Et Kids
def Et:List Ac -> List Ac
 | []=>[]
 | k :: l=>Bs k ++ Et l
end
theorem Hc (x:Ac):Bs x=x :: Et x.Kids:=by cases x;simp only [Bs]
theorem IJ:∀ l m:List Ac,Et (l ++ m)=Et l ++ Et m
 | [],m=>by simp [Et]
 | k :: l,m=>by simp [Et,IJ l m]
theorem NK {l:List Ac} {i:Nat} (h:i < l.length):Et (l.take (i + 1))=Et (l.take i) ++ Bs l[i]:=by
 rw [List.take_add_one,List.getElem?_eq_getElem h,IJ];simp [Et]
mutual
theorem GG:∀ x:Ac,(Bs x).length <= szN x
 | ⟨K,N,A,Kids,T⟩=>by
  have h1:=GI Kids;have h2:=F7 ⟨K,N,A,Kids,T⟩;simp only [Bs,bi];simp only at h2;omega
theorem GI:∀ l:List Ac,(Et l).length <= Nd l
 | []=>by simp [Et]
 | k :: l=>by
  have h1:=GG k;have h2:=GI l;simp only [Et,Nd,bk];have:szN k=Bl k:=rfl;omega
end
theorem JF (l:List Ac) (i:Nat):(Et (l.take i)).length <= (Et l).length:=by
 have:=IJ (l.take i) (l.drop i);rw [List.take_append_drop] at this;rw [this];simp
def atP:Ac -> List Int -> Option Ac
 | x,[]=>some x
 | x,s :: r=>if s < 0 \/ (x.Kids.length:Int) <= s then none else (x.Kids[s.toNat]?).bind fun y=>atP y r
theorem Oo:∀ (l:List Int) (x:Ac) (i:Nat),atP x (l ++ [(i:Int)])=(atP x l).bind fun y=>y.Kids[i]?
 | [],x,i=>by
  simp only [List.nil_append,atP,ba];by_cases h:i < x.Kids.length
  ·rw [if_neg (by omega)];simp [h]
  ·rw [if_pos (by omega)];simp [h]
 | s :: r, x, i => by
  simp only [List.cons_append,atP];split
  ·rfl
  ·cases x.Kids[s.toNat]? with
   | none=>rfl
   | some y=>simp only [ba];exact Oo r y i
def Ahu:Ac:=⟨0,⟨[],[]⟩,[],[],[]⟩
def Aeg (K:Int) (nm:Aa):List Ak -> Option (List By8)
 | []=>none
 | a :: l=>if (K == (2:Int)) && ((a.Name.URI == nm.URI) && ((a.Name.Local == nm.Local) && true)) then some a.Value else Aeg K nm l
def Aix (p:Ac) (t:Al):List By8 × Int:=
 match atP p t.Steps with
 | none=>([],35)
 | some y=>if t.Attr then (match Aeg y.Kind t.Name y.Attrs with | some v=>(v,0) | none=>([],7))
  else if ((y.Kind == (3:Int)) || (y.Kind == (4:Int))) || (y.Kind == (5:Int)) then (y.Text,0) else (X8 y,0)

set_option linter.unusedSimpArgs false
set_option linter.unusedVariables false
set_option maxRecDepth 20000
open Go.Lib (decodeL decodeN)
theorem SN (n b0 b1 b2 b3:Nat):(b0 < 128 -> decodeN n b0 b1 b2 b3=(b0,1)) /\ (2 <= (decodeN n b0 b1 b2 b3).2 -> 128 <= b1) /\ (3 <= (decodeN n b0 b1 b2 b3).2 -> 128 <= b2) /\ (4 <= (decodeN n b0 b1 b2 b3).2 -> 128 <= b3) /\ (decodeN n b0 b1 b2 b3).2 <= 4:=by
 unfold decodeN
 repeat' split
 all_goals refine ⟨fun h=>?_,fun h=>?_,fun h=>?_,fun h=>?_,?_⟩
 all_goals first | rfl | omega | (simp only at *;omega)
theorem PZ (p:List By8) (x k:Nat):(p.drop x).getD k 0=p.getD (x + k) 0:=by simp [List.getD,List.getElem?_drop]
theorem Fj (p:List By8) (x:Nat) (hx:x < p.length):1 <= (decodeL (p.drop x)).2 /\ x + (decodeL (p.drop x)).2 <= p.length /\ ((p.getD x 0).toNat < 128 -> decodeL (p.drop x)=((p.getD x 0).toNat,1)) /\ ∀ k,1 <= k -> k < (decodeL (p.drop x)).2 -> 128 <= (p.getD (x + k) 0).toNat:=by
 have hne:p.drop x ≠ []:=by intro h;have:=congrArg List.length h;simp at this;omega
 have h1:=Lib.decodeL_width (p.drop x);have h2:=Lib.decodeL_le (p.drop x) hne;have e:=Lib.decodeL_N (p.drop x);simp only [PZ] at e;have f:=SN (p.drop x).length (p.getD (x + 0) 0).toNat (p.getD (x + 1) 0).toNat (p.getD (x + 2) 0).toNat (p.getD (x + 3) 0).toNat;rw [<- e] at f;obtain ⟨f0,f1,f2,f3,f4⟩:=f;rw [List.length_drop] at h2;refine ⟨h1,by omega,fun h=>f0 h,fun k hk1 hk2=>?_⟩
 match k,hk1,hk2 with
 | 1,_,hk=>exact f1 (by omega)
 | 2,_,hk=>exact f2 (by omega)
 | 3,_,hk=>exact f3 (by omega)
 | k + 4,_,hk=>omega
theorem Sz (p:List By8) (x:Nat):(rnS p x=((decodeL (p.drop x)).1:Int)) /\ wdS p x=(decodeL (p.drop x)).2:=by
 have:=Lib.decodeL_drop ⟨p.toArray⟩ x;simp only at this;unfold rnS wdS;rw [<- this];exact ⟨rfl,rfl⟩
theorem ZI (r:Int) (l:List Am) (hl:l.length <= 9223372036854775807):∃ b,ES r l=some b:=by
 unfold ES;simp only [letJ];obtain ⟨o,h1,_⟩:=A0 (b:=Ef r l) (fun i x=>x=(i:Int)) (fun _=>True) l.length (x0:=(0:Int)) rfl
  (fun i x rec hi hx=>by
   subst hx;unfold Ef;rw [bf (by omega),bb,AC hi,ba,w64 (by omega) (by omega)];cases decide (r <= l[i].hi)
   ·exact .inl ⟨_,rfl,rfl⟩
   ·exact .inr ⟨_,rfl,trivial⟩)
  (fun x rec hx=>⟨_,by
   subst hx;unfold Ef
   rw [bg (by omega),bc],trivial⟩) (n:=FUEL) (by unfold FUEL;omega)
 rw [h1,ba];cases o <;> exact ⟨_,rfl⟩
theorem Rt {γ:Type} (r:Int) (k:Bool -> Option γ) (hk:∀ b,∃ c,k b=some c) (l:List Am) (hl:l.length <= 9223372036854775807):∃ c,(ES r l).bind k=some c:=by
 obtain ⟨b,hb⟩:=ZI r l hl;rw [hb];exact hk b
theorem G4 (r:Int):∃ b,C7 r=some b:=by
 unfold C7;cases decide (r < (128:Int))
 ·rw [bc];exact Rt r _ (fun b=>⟨_,rfl⟩) _ (by decide)
 ·exact ⟨_,rfl⟩
theorem JU (r:Int):∃ b,Du r=some b:=by
 unfold Du;obtain ⟨b,hb⟩:=G4 r;rw [hb,ba];simp only [letJ];generalize ((((b || (r == (45:Int))) || (r == (46:Int))) || ((decide ((48:Int) <= r)) && (decide (r <= (57:Int))))) || (r == (183:Int)))=c;cases c
 ·rw [bc];exact Rt r _ (fun b=>⟨_,rfl⟩) _ (by decide)
 ·exact ⟨_,rfl⟩
theorem Rv (r:Int):∃ b,Eo r=some b:=by
 unfold Eo;simp only [letJ];generalize (((r == (9:Int)) || (r == (10:Int))) || (r == (13:Int)))=c;cases c
 ·rw [bc];exact Rt r _ (fun b=>⟨_,rfl⟩) _ (by decide)
 ·exact ⟨_,rfl⟩
theorem ZD:Du 123=some false:=by kernel_rfl
theorem Pz (p:List By8):∃ b,EN p=some b /\ (b=true -> p.length <= 100 /\ ∀ c ∈ p,c.toNat ≠ 123):=by
 unfold EN;simp only [letJ];by_cases hbad:((p == ([]:List By8)) || decide ((100:Int) < (p.length:Int)))=true
 ·rw [hbad];exact ⟨false,rfl,fun h=>by cases h⟩
 have hb':((p == ([]:List By8)) || decide ((100:Int) < (p.length:Int)))=false:=by simpa using hbad
 have hlen:p.length <= 100:=by
  have h:=(Bool.or_eq_false_iff.1 hb').2;have:=of_decide_eq_false h;omega
 rw [hb',bc];have hv:L_ValidString p=some (Lib.validD p):=by unfold L_ValidString;rw [if_pos (by omega)]
 rw [hv,ba];cases Lib.validD p
 ·exact ⟨false,rfl,fun h=>by cases h⟩
 simp only [Bool.not_true, bc];obtain ⟨o, h1, h2⟩ := A0 (b := C8 p) (fun i x => i <= x /\ x <= p.length /\ ∀ k, k < x -> (p.getD k 0).toNat ≠ 123) (fun o => match o with | .inl _ => ∀ k, k < p.length -> (p.getD k 0).toNat ≠ 123 | .inr b => b = false) p.length (x0 := (0 : Nat)) ⟨Nat.le_refl _, Nat.zero_le _, fun k hk => by omega⟩
  (fun i x rec hi ⟨hx1, hx2, hx3⟩ => by
   by_cases hxl:x < p.length
   ·obtain ⟨d1,d2,d3,d4⟩:=Fj p x hxl;obtain ⟨e1,e2⟩:=Sz p x;obtain ⟨bs,hs⟩:=G4 (rnS p x);obtain ⟨bp,hp⟩:=JU (rnS p x);unfold C8;simp only [letJ];rw [bf hxl,bb,hs,hp];simp only [ba];cases bp
    ·refine .inr ⟨.inr false,?_,rfl⟩;simp only [Bool.not_false,bb];generalize (((x:Nat):Int) == (0:Int))=c;cases c <;> cases bs <;> rfl
    ·have next:(x + wdS p x) <= p.length /\ ∀ k,k < x + wdS p x -> (p.getD k 0).toNat ≠ 123:=by
      rw [e2];refine ⟨d2,fun k hk=>?_⟩;by_cases hkx:k < x
      ·exact hx3 k hkx
      ·by_cases hk0:k=x
       ·subst hk0;intro h123;have:=d3 (by omega);rw [this] at e1;simp only [h123] at e1;rw [e1] at hp;have:=ZD.symm.trans hp;cases this
       ·have:=d4 (k - x) (by omega) (by omega);rw [show x + (k - x)=k by omega] at this;omega
     have hres:∀ c:Bool,(cond c (cond (!bs) (cond true (some (.inr false)) (rec (x + wdS p x))) (cond (!true) (some (.inr false)) (rec (x + wdS p x)))) (cond false (cond true (some (.inr false)) (rec (x + wdS p x))) (cond (!true) (some (.inr false)) (rec (x + wdS p x)))):Option (Unit ⊕ Bool))=rec (x + wdS p x) \/ (cond c (cond (!bs) (cond true (some (.inr false)) (rec (x + wdS p x))) (cond (!true) (some (.inr false)) (rec (x + wdS p x)))) (cond false (cond true (some (.inr false)) (rec (x + wdS p x))) (cond (!true) (some (.inr false)) (rec (x + wdS p x)))):Option (Unit ⊕ Bool))=some (.inr false):=by
      intro c;cases c <;> cases bs <;> first | exact .inl rfl | exact .inr rfl
     rcases hres (((x:Nat):Int) == (0:Int)) with h | h
     ·exact .inl ⟨x + wdS p x,h,by rw [e2];omega,next.1,next.2⟩
     ·exact .inr ⟨.inr false,h,rfl⟩
   ·refine .inr ⟨.inl (),?_,fun k hk=>hx3 k (by omega)⟩;unfold C8
    rw [bg hxl,bc])
  (fun x rec ⟨hx1,hx2,hx3⟩=>⟨.inl (),by
   unfold C8
   rw [bg (by omega),bc],fun k hk=>hx3 k (by omega)⟩) (n:=FUEL) (by unfold FUEL;omega)
 rw [h1,ba]
 cases o with
 | inl u=>
  refine ⟨true,rfl,fun _=>⟨hlen,fun c hc=>?_⟩⟩;obtain ⟨k,hk,e⟩:=List.getElem_of_mem hc;have:=h2 k hk;simpa [List.getD,hk,e] using this
 | inr b=>
  simp only at h2;subst h2;exact ⟨false,rfl,fun h=>by cases h⟩
theorem Uk (p:List By8) (x:Nat) (hx:x < p.length) (hl:p.length <= 1073741824):∃ r,Fv p (x:Int)=some r /\ (r.2.2=0 -> r.2.1=((x + (decodeL (p.drop x)).2:Nat):Int)):=by
 obtain ⟨d1,d2,d3,d4⟩:=Fj p x hx;unfold Fv;rw [bg (by omega),bg (by omega)];simp only [Bool.or_self,bc];have hs:slc p (x:Int) (p.length:Int)=some (p.drop x):=by
  unfold slc;rw [if_pos (by omega)];simp only [Int.toNat_natCast];rw [List.take_of_length_le (by simp)]
 rw [hs,ba];have hne:p.drop x ≠ []:=by intro h;have:=congrArg List.length h;simp at this;omega
 have hd:L_DecodeRune (p.drop x)=some (((decodeL (p.drop x)).1:Int),((decodeL (p.drop x)).2:Int)):=by
  unfold L_DecodeRune Lib.decodeGo
  rw [if_neg hne,if_neg (by
   show ¬ ((p.drop x).toArray.size=0)
   simp;omega)]
  rfl
 rw [hd,ba];obtain ⟨b,hb⟩:=Rv ((decodeL (p.drop x)).1:Int);simp only;cases ((((decodeL (p.drop x)).1:Int) == (65533:Int)) && decide (((decodeL (p.drop x)).2:Int) < (3:Int)))
 ·rw [bc,hb,ba];cases b
  ·exact ⟨_,rfl,fun h=>by simp at h⟩
  ·refine ⟨_,rfl,fun _=>?_⟩;simp only;rw [w64 (by omega) (by omega)];omega
 ·exact ⟨_,rfl,fun h=>by simp at h⟩
theorem Ld (p:List By8) (hl:p.length <= 1073741824):∃ r,Ee p=some r:=by
 unfold Ee;simp only [letJ];obtain ⟨o,h1,_⟩:=A0 (b:=DG p) (fun i x=>∃ j:Nat,x=(j:Int) /\ i <= j /\ j <= p.length) (fun _=>True) p.length (x0:=(0:Int)) ⟨0,rfl,Nat.le_refl _,Nat.zero_le _⟩
  (fun i x rec hi ⟨j,hx,hj1,hj2⟩=>by
   subst hx;unfold DG;by_cases hjl:j < p.length
   ·obtain ⟨r,hr,hn⟩:=Uk p j hjl hl;obtain ⟨d1,d2,d3,d4⟩:=Fj p j hjl;rw [bf (by omega),bb,hr,ba];by_cases e:r.2.2=0
    ·rw [show (r.2.2 != (0:Int))=false by simpa using e,bc];exact .inl ⟨_,rfl,_,hn e,by omega,d2⟩
    ·rw [show (r.2.2 != (0:Int))=true by simpa using e,bb];exact .inr ⟨_,rfl,trivial⟩
   ·rw [bg (by omega),bc]
    exact .inr ⟨_,rfl,trivial⟩)
  (fun x rec ⟨j,hx,hj1,hj2⟩=>⟨_,by
   subst hx;unfold DG
   rw [bg (by omega),bc],trivial⟩) (n:=FUEL) (by unfold FUEL;omega)
 rw [h1,ba];cases o <;> exact ⟨_,rfl⟩

set_option linter.unusedSimpArgs false
set_option linter.unusedVariables false
set_option maxRecDepth 20000
open Go.Lib (decodeL decodeN)
theorem LM {σ ρ:Type} {b:(σ -> Option ρ) -> σ -> Option ρ} (μ:σ -> Nat) (I:σ -> Prop) (R:ρ -> Prop)
  (step:∀ x,I x -> (∃ y,(∀ rec,b rec x=rec y) /\ I y /\ μ y < μ x) \/ (∃ o,(∀ rec,b rec x=some o) /\ R o)) :
  ∀ (n:Nat) (x:σ),I x -> μ x < n -> ∃ o,iter b n x=some o /\ R o
 | 0,x,_,h=>by omega
 | n + 1,x,hI,h1=>by
  rcases step x hI with ⟨y,e1,hI',hm⟩ | ⟨o,e1,hR⟩
  ·obtain ⟨o,g1,hR⟩:=LM μ I R step n y hI' (by omega);exact ⟨o,by show b (iter b n) x=_;rw [e1,g1],hR⟩
  ·exact ⟨o,e1 _,hR⟩
theorem Adi (p0 p1:List By8) (h0:p0.length <= 1073741824) (h1:p1.length <= 1073741824):∃ o,iter (AM p0 p1) FUEL (0:Int)=some o /\
  (∀ a,o=.inr (.inl a) -> ∃ (i:Nat) (g0:i < p0.length) (g1:i < p1.length),a=(i:Int) /\ (128:Int) <= ior .u8 (p0[i].toNat:Int) (p1[i].toNat:Int)):=by
 refine LM (b:=AM p0 p1) (fun x=>p0.length - x.toNat) (fun x=>∃ i:Nat,x=(i:Int) /\ i <= p0.length) _ ?_ FUEL (0:Int) ⟨0,rfl,Nat.zero_le _⟩ (by unfold FUEL;omega);rintro _ ⟨i,rfl,hi⟩;by_cases hlt:i < p0.length /\ i < p1.length
 ·obtain ⟨g0,g1⟩:=hlt;have hmin:decide ((i:Int) < (if (p1.length:Int) < (p0.length:Int) then (p1.length:Int) else (p0.length:Int)))=true:=by
   apply bf;split <;> omega
  have hb:∀ rec,AM p0 p1 rec (i:Int)=cond (decide ((128:Int) <= (ior .u8 (p0[i].toNat:Int) (p1[i].toNat:Int))))
    (some (.inr (.inl (i:Int)))) (cond ((p1[i].toNat:Int) == (p0[i].toNat:Int)) (rec ((i + 1:Nat):Int))
     (cond (decide ((p1[i].toNat:Int) < (p0[i].toNat:Int)))
      (cond (((decide ((65:Int) <= (p1[i].toNat:Int))) && (decide ((p1[i].toNat:Int) <= (90:Int)))) && ((p0[i].toNat:Int) == (IntKind.wrap .u8 ((IntKind.wrap .u8 ((p1[i].toNat:Int) + (97:Int))) - (65:Int))))) (rec ((i + 1:Nat):Int)) (some (.inr (.inr false))))
      (cond (((decide ((65:Int) <= (p0[i].toNat:Int))) && (decide ((p0[i].toNat:Int) <= (90:Int)))) && ((p1[i].toNat:Int) == (IntKind.wrap .u8 ((IntKind.wrap .u8 ((p0[i].toNat:Int) + (97:Int))) - (65:Int))))) (rec ((i + 1:Nat):Int)) (some (.inr (.inr false)))))):=by
   intro rec;unfold AM;simp only [letJ];rw [hmin,bb,AC g0,ba,AC g1,ba,w64 (by omega) (by omega)];rfl
  have go:∃ y:Int,y=((i + 1:Nat):Int) /\ (∃ i:Nat,y=(i:Int) /\ i <= p0.length) /\ p0.length - y.toNat < p0.length - ((i:Nat):Int).toNat:=⟨_,rfl,⟨_,rfl,g0⟩,by omega⟩
  obtain ⟨y,hy,hI,hm⟩:=go
  cases c1:decide ((128:Int) <= (ior .u8 (p0[i].toNat:Int) (p1[i].toNat:Int))) with
  | true =>
   right
   exact ⟨.inr (.inl (i:Int)),fun rec=>by rw [hb,c1,bb],fun a ha=>by
    injection ha with ha;injection ha with ha
    exact ⟨i,g0,g1,ha.symm,of_decide_eq_true c1⟩⟩
  | false =>
   have fin:∀ o:Unit ⊕ Int ⊕ Bool,o=.inr (.inr false) -> ∀ a,o=.inr (.inl a) -> ∃ (i:Nat) (g0:i < p0.length) (g1:i < p1.length),a=(i:Int) /\ (128:Int) <= ior .u8 (p0[i].toNat:Int) (p1[i].toNat:Int):=by
    rintro o rfl a ha;cases ha
   cases c2:((p1[i].toNat:Int) == (p0[i].toNat:Int)) with
   | true=>exact .inl ⟨y,fun rec=>by rw [hb,c1,bc,c2,bb,hy],hI,hm⟩
   | false =>
    cases c3:decide ((p1[i].toNat:Int) < (p0[i].toNat:Int)) with
    | true=>
     cases c4:(((decide ((65:Int) <= (p1[i].toNat:Int))) && (decide ((p1[i].toNat:Int) <= (90:Int)))) && ((p0[i].toNat:Int) == (IntKind.wrap .u8 ((IntKind.wrap .u8 ((p1[i].toNat:Int) + (97:Int))) - (65:Int))))) with
     | true=>exact .inl ⟨y,fun rec=>by rw [hb,c1,bc,c2,bc,c3,bb,c4,bb,hy],hI,hm⟩
     | false=>exact .inr ⟨_,fun rec=>by rw [hb,c1,bc,c2,bc,c3,bb,c4,bc],fin _ rfl⟩
    | false=>
     cases c4:(((decide ((65:Int) <= (p0[i].toNat:Int))) && (decide ((p0[i].toNat:Int) <= (90:Int)))) && ((p1[i].toNat:Int) == (IntKind.wrap .u8 ((IntKind.wrap .u8 ((p0[i].toNat:Int) + (97:Int))) - (65:Int))))) with
     | true=>exact .inl ⟨y,fun rec=>by rw [hb,c1,bc,c2,bc,c3,bc,c4,bb,hy],hI,hm⟩
     | false=>exact .inr ⟨_,fun rec=>by rw [hb,c1,bc,c2,bc,c3,bc,c4,bc],fin _ rfl⟩
 ·right;have hmin:decide ((i:Int) < (if (p1.length:Int) < (p0.length:Int) then (p1.length:Int) else (p0.length:Int)))=false:=by
   apply bg;split <;> omega
  exact ⟨.inl (),fun rec=>by unfold AM;rw [hmin,bc],fun a ha=>by cases ha⟩
theorem XF (c rn:Int) (hc:c=120 \/ c=109 \/ c=108) (hr:128 <= rn):iter (BC c rn) FUEL (c - 32)=some c:=by
 obtain ⟨m,hm⟩:∃ m,FUEL=m + 1 + 1:=⟨FUEL - 2,by unfold FUEL;rfl⟩
 rw [hm,DS];unfold BC;have h1:((c - 32 != c) && decide (c - 32 < rn))=true:=by simp;omega
 rw [h1,bb];have h2:L_SimpleFold (c - 32)=some c:=by
  rcases hc with rfl | rfl | rfl <;> rfl
 rw [h2,ba];show iter (BC c rn) (m + 1) c=some c;rw [DS];unfold BC;have h3:((c != c) && decide (c < rn))=false:=by simp
 rw [h3,bc]
def Aax (l:List By8):Prop:=l=[120,109,108] \/ l=[109,108] \/ l=[108] \/ l=[]
theorem Acn (s:List By8) (hs:s.length <= 1073741824) (l:List By8) (hl:Aax l):∃ o,iter (AL s) FUEL (l,(0:Nat))=some o /\ True:=by
 refine LM (b:=AL s) (fun x=>s.length - x.2) (fun x=>Aax x.1) _ ?_ FUEL (l,(0:Nat)) hl (by unfold FUEL;dsimp only;omega);rintro ⟨a,p⟩ hx;dsimp only at hx ⊢;by_cases hp:p < s.length
 ·obtain ⟨r1,r2⟩:=Sz s p;obtain ⟨d1,d2,_⟩:=Fj s p hp;have hw:s.length - (p + wdS s p) < s.length - p:=by rw [r2];omega
  have core:∀ (c:By8) (t:List By8),a=c :: t -> ((c.toNat:Int)=120 \/ (c.toNat:Int)=109 \/ (c.toNat:Int)=108) -> L_DecodeRuneInString a=some ((c.toNat:Int),1) -> Aax t ->
    (∃ y:List By8 × Nat,(∀ rec,AL s rec (a,p)=rec y) /\ Aax y.1 /\ s.length - y.2 < s.length - p) \/ (∃ o,(∀ rec,AL s rec (a,p)=some o) /\ True):=by
   intro c t ha hc hd ht;have hsl:slc a (1:Int) (a.length:Int)=some t:=by rw [Sf (by rw [ha];simp),ha];rfl
   generalize hrn:rnS s p=rn at *
   have hb:∀ rec,AL s rec (a,p)=cond ((c.toNat:Int) == rn) (rec (t,p + wdS s p)) (cond (decide ((c.toNat:Int) < rn))
     (cond (decide (rn < (128:Int))) (cond (((decide ((65:Int) <= (c.toNat:Int))) && (decide ((c.toNat:Int) <= (90:Int)))) && (rn == (IntKind.wrap .i32 ((IntKind.wrap .i32 ((c.toNat:Int) + (97:Int))) - (65:Int))))) (rec (t,p + wdS s p)) (some (.inr false)))
      ((L_SimpleFold (c.toNat:Int)).bind fun x102=>(iter (BC (c.toNat:Int) rn) FUEL x102).bind fun o=>cond (o == rn) (rec (t,p + wdS s p)) (some (.inr false))))
     (cond (decide ((c.toNat:Int) < (128:Int))) (cond (((decide ((65:Int) <= rn)) && (decide (rn <= (90:Int)))) && ((c.toNat:Int) == (IntKind.wrap .i32 ((IntKind.wrap .i32 (rn + (97:Int))) - (65:Int))))) (rec (t,p + wdS s p)) (some (.inr false)))
      ((L_SimpleFold rn).bind fun x102=>(iter (BC rn (c.toNat:Int)) FUEL x102).bind fun o=>cond (o == (c.toNat:Int)) (rec (t,p + wdS s p)) (some (.inr false))))):=by
    intro rec;unfold AL;simp only [letJ];rw [bf hp,bb,show ((a.length:Int) == 0)=false by rw [ha];simp;omega,bc,hd,ba];dsimp only;rw [hsl,ba,hrn]
   have two:∀ k:Bool,(∃ y:List By8 × Nat,(∀ rec:List By8 × Nat -> Option ((List By8) ⊕ Bool),cond k (rec (t,p + wdS s p)) (some (.inr false))=rec y) /\ Aax y.1 /\ s.length - y.2 < s.length - p) \/ (∃ o,(∀ rec:List By8 × Nat -> Option ((List By8) ⊕ Bool),cond k (rec (t,p + wdS s p)) (some (.inr false))=some o) /\ True):=by
    intro k
    cases k with
    | true=>exact .inl ⟨(t,p + wdS s p),fun _=>rfl,ht,hw⟩
    | false=>exact .inr ⟨_,fun _=>rfl,trivial⟩
   simp only [hb]
   cases ((c.toNat:Int) == rn) with
   | true=>exact .inl ⟨(t,p + wdS s p),fun _=>rfl,ht,hw⟩
   | false =>
    simp only [bc];by_cases c3:(c.toNat:Int) < rn
    ·rw [bf c3];simp only [bb];by_cases c4:rn < 128
     ·rw [bf c4];simp only [bb];exact two _
     ·rw [bg c4];have hf:L_SimpleFold (c.toNat:Int)=some ((c.toNat:Int) - 32):=by rcases hc with h | h | h <;> rw [h] <;> rfl
      simp only [bc,hf,ba,XF _ rn hc (by omega)];exact two _
    ·rw [bg c3,bf (show (c.toNat:Int) < 128 by omega)];simp only [bc,bb];exact two _
  rcases hx with h | h | h | h
  ·exact core 120 [109,108] h (.inl rfl) (by rw [h];rfl) (.inr (.inl rfl))
  ·exact core 109 [108] h (.inr (.inl rfl)) (by rw [h];rfl) (.inr (.inr (.inl rfl)))
  ·exact core 108 [] h (.inr (.inr rfl)) (by rw [h];rfl) (.inr (.inr (.inr rfl)))
  ·right;refine ⟨.inr false,fun rec=>?_,trivial⟩;unfold AL;dsimp only;rw [bf hp,bb,h];rfl
 ·right;refine ⟨.inl a,fun rec=>?_,trivial⟩;unfold AL;dsimp only;rw [bg hp,bc]
theorem YR (w:List By8) (hw:w.length <= 1073741824):∃ r,Ck w [120,109,108]=some r:=by
 obtain ⟨o,e1,e2⟩:=Adi w [120,109,108] hw (by simp);unfold Ck;simp only [letJ];rw [e1,ba]
 match o,e2 with
 | .inl _,_=>exact ⟨_,rfl⟩
 | .inr (.inr r),_=>exact ⟨_,rfl⟩
 | .inr (.inl a), e2 =>
  obtain ⟨i,g0,g1,rfl,_⟩:=e2 a rfl;have hx:Aax (([120,109,108]:List By8).drop i):=by
   match i,g1 with
   | 0,_=>exact .inl rfl
   | 1,_=>exact .inr (.inl rfl)
   | 2,_=>exact .inr (.inr (.inl rfl))
  dsimp only;rw [Gv (Nat.le_of_lt g0),ba,Gv (Nat.le_of_lt g1),ba];obtain ⟨o2,f1,_⟩:=Acn (w.drop i) (by rw [List.length_drop];omega) _ hx;rw [f1,ba]
  cases o2 with
  | inl q=>exact ⟨_,rfl⟩
  | inr q=>exact ⟨_,rfl⟩

set_option linter.unusedSimpArgs false
set_option linter.unusedVariables false
set_option maxRecDepth 20000
def gB {α:Type} (f:α -> Option Bool) (x:α):Bool:=(f x).getD false
theorem RK {α:Type} {l:List α} {p:α -> Bool} {i:Nat} (hi:i < l.length):(l.drop i).any p=(p l[i] || (l.drop (i + 1)).any p):=by
 rw [List.drop_eq_getElem_cons hi,List.any_cons]
theorem Dl {l:List Ac} {f:Ac -> Option Bool} (hl:l.length <= 1073741824) (h:∀ x ∈ l,∃ b,f x=some b):An l f=some (l.any (gB f)):=by
 unfold An A5;simp only [letJ]
 obtain ⟨o,e,hR⟩:=A0 (b:=Bd l f) (fun i s=>s=(i:Int) /\ l.any (gB f)=(l.drop i).any (gB f)) (fun o=>match o with | .inl _=>l.any (gB f)=false | .inr i=>0 <= i /\ l.any (gB f)=true) l.length (x0:=(0:Int)) ⟨rfl,rfl⟩ (by
  rintro i _ rec hi ⟨rfl,ha⟩;obtain ⟨b,hb⟩:=h _ (bm hi);have hg:gB f l[i]=b:=by simp [gB,hb]
  rw [RK hi,hg] at ha;unfold Bd;rw [bf (by omega),bb,AC hi,ba,hb,ba]
  cases b with
  | true=>exact .inr ⟨_,rfl,by omega,by simpa using ha⟩
  | false=>
   refine .inl ⟨((i + 1:Nat):Int),?_,rfl,by simpa using ha⟩
   rw [bc,w64 (by omega) (by omega)];rfl) (by
  rintro _ rec ⟨rfl,ha⟩;refine ⟨.inl (),?_,?_⟩
  ·unfold Bd;rw [bg (by omega),bc]
  ·show l.any (gB f)=false
   rw [ha,List.drop_length];rfl) (n:=FUEL) (by unfold FUEL;omega)
 rw [e,ba]
 cases o with
 | inl u=>rw [show l.any (gB f)=false from hR];rfl
 | inr i=>obtain ⟨h0,h1⟩:=hR;rw [h1];simp [h0]
theorem HD {l:List Ak} {f:Ak -> Option Bool} (hl:l.length <= 1073741824) (h:∀ x ∈ l,∃ b,f x=some b):Az l f=some (l.any (gB f)):=by
 unfold Az AN;simp only [letJ]
 obtain ⟨o,e,hR⟩:=A0 (b:=Bc l f) (fun i s=>s=(i:Int) /\ l.any (gB f)=(l.drop i).any (gB f)) (fun o=>match o with | .inl _=>l.any (gB f)=false | .inr i=>0 <= i /\ l.any (gB f)=true) l.length (x0:=(0:Int)) ⟨rfl,rfl⟩ (by
  rintro i _ rec hi ⟨rfl,ha⟩;obtain ⟨b,hb⟩:=h _ (bm hi);have hg:gB f l[i]=b:=by simp [gB,hb]
  rw [RK hi,hg] at ha;unfold Bc;rw [bf (by omega),bb,AC hi,ba,hb,ba]
  cases b with
  | true=>exact .inr ⟨_,rfl,by omega,by simpa using ha⟩
  | false=>
   refine .inl ⟨((i + 1:Nat):Int),?_,rfl,by simpa using ha⟩
   rw [bc,w64 (by omega) (by omega)];rfl) (by
  rintro _ rec ⟨rfl,ha⟩;refine ⟨.inl (),?_,?_⟩
  ·unfold Bc;rw [bg (by omega),bc]
  ·show l.any (gB f)=false
   rw [ha,List.drop_length];rfl) (n:=FUEL) (by unfold FUEL;omega)
 rw [e,ba]
 cases o with
 | inl u=>rw [show l.any (gB f)=false from hR];rfl
 | inr i=>obtain ⟨h0,h1⟩:=hR;rw [h1];simp [h0]
theorem UZ {α:Type} {l:List α} {f:α -> Option Bool} (h:l.any (gB f)=false) {x:α} (hx:x ∈ l) (ha:∃ b,f x=some b):f x=some false:=by
 obtain ⟨b,hb⟩:=ha;have:=List.any_eq_false.1 h x hx;simp [gB,hb] at this;rw [hb,this]
theorem XQ:∀ (n:Nat) (p:Ac) (l:List Ac),szN p < n -> l.length + szN p <= 2097152 -> iter C6 n (p,l)=some (l ++ Bs p)
 | 0,p,l,h,_=>by omega
 | n + 1, p, l, h, hl => by
  have hk:=F7 p;have hkl:=DV p;have ih:=fun q m=>XQ n q m;rw [DS];generalize iter C6 n=rc at ih ⊢;unfold C6;simp only [letJ];rw [DJ (by simp only [bi,bj];have:=O7 p;omega) (by simp only [bi,bj];have:=O7 p;omega),ba]
  obtain ⟨o,e,hR⟩:=A0 (b:=Fl p rc) (fun i s=>s=(l ++ p :: Et (p.Kids.take i),(i:Int))) (fun o=>o=l ++ p :: Et p.Kids) p.Kids.length (x0:=(l ++ [p],(0:Int))) (by simp [Et]) (by
   rintro i _ rec hi rfl;left;have h1:=LL (bm hi);have h2:=JF p.Kids i;have h3:=GI p.Kids;have h4:=GI (p.Kids.take i);have h5:Nd (p.Kids.take i) + szN p.Kids[i] <= Nd p.Kids:=by
    have hs:∀ (a b:List Ac),Nd (a ++ b)=Nd a + Nd b:=fun a b=>by simp [LT]
    have e1:p.Kids=p.Kids.take i ++ p.Kids[i] :: p.Kids.drop (i + 1):=by rw [<- List.drop_eq_getElem_cons hi,List.take_append_drop]
    have e2:Nd p.Kids=Nd (p.Kids.take i) + (szN p.Kids[i] + Nd (p.Kids.drop (i + 1))):=by
     conv=>lhs;rw [e1]
     rw [hs];rfl
    omega
   refine ⟨_,?_,rfl⟩;unfold Fl;dsimp only;rw [bf (by omega),bb,AC hi,ba,ih p.Kids[i] _ (by omega) (by simp only [bk,bi];omega),ba,w64 (by omega) (by omega),NK hi]
   simp) (by
   rintro _ rec rfl;refine ⟨_,?_,rfl⟩;unfold Fl;dsimp only
   rw [bg (by omega),bc,List.take_length]) (n:=FUEL) (by unfold FUEL;omega)
  rw [e,ba,hR,Hc]
theorem OA (d:Ac) (h:szN d <= 1048576):FX d []=some (Bs d):=by
 have:=XQ FUEL d [] (by unfold FUEL;omega) (by simp;omega);unfold FX;rw [this];rfl
mutual
theorem LH:∀ (x:Ac),∀ y ∈ Bs x,szN y <= szN x
 | ⟨k,nm,a,ks,t⟩=>fun y hy=>by
  rw [Hc] at hy;rcases List.mem_cons.1 hy with rfl | hy
  ·exact Nat.le_refl _
  ·have:=Sj ks y hy;have:=F7 ⟨k,nm,a,ks,t⟩;dsimp only at this;omega
theorem Sj:∀ (l:List Ac),∀ y ∈ Et l,szN y <= Nd l
 | []=>fun y hy=>by simp [Et] at hy
 | x :: l=>fun y hy=>by
  simp only [Et,List.mem_append] at hy;simp only [Nd];rcases hy with hy | hy
  ·have:=LH x y hy;show szN y <= szN x + _;omega
  ·have:=Sj l y hy;omega
end
theorem Xk (p k:Int):∃ b,FY p k=some b:=by
 unfold FY;cases (p == (1:Int)) <;> cases (p == (2:Int)) <;> exact ⟨_,rfl⟩
theorem Sb (x:Ac) (h:szN x <= 1048576):∃ b,D8 x=some b /\ (b=false -> x.Kind ≠ 2 -> x.Attrs=[]):=by
 have hl:=DV x;have hc:An x.Kids (fun z0=>Dx z0 x)=some (x.Kids.any (gB fun z0=>Dx z0 x)):=Dl (by omega) fun y _=>by
  unfold Dx;obtain ⟨b,hb⟩:=Xk x.Kind y.Kind;rw [hb];exact ⟨_,rfl⟩
 have key:∀ a:Bool,∃ b,(cond a (some true) ((An x.Kids (fun z0=>Dx z0 x)).bind fun x21=>some x21):Option Bool)=some b /\ (b=false -> a=false):=by
  intro a
  cases a with
  | true=>exact ⟨true,rfl,id⟩
  | false=>rw [hc];exact ⟨_,rfl,fun _=>rfl⟩
 have fin:∀ a:Bool,(a=false -> x.Kind ≠ 2 -> x.Attrs=[]) -> ∃ b,(cond a (some true) ((An x.Kids (fun z0=>Dx z0 x)).bind fun x21=>some x21):Option Bool)=some b /\ (b=false -> x.Kind ≠ 2 -> x.Attrs=[]):=by
  intro a ha;obtain ⟨b,e,hb⟩:=key a;exact ⟨b,e,fun h=>ha (hb h)⟩
 have noA:∀ q r:Bool,((((x.Kind != (2:Int)) && (decide ((0:Int) < (x.Attrs.length:Int)))) || q) || r)=false -> x.Kind ≠ 2 -> x.Attrs=[]:=by
  intro q r hq hk;have h1:=(Bool.or_eq_false_iff.1 (Bool.or_eq_false_iff.1 hq).1).1;rw [show (x.Kind != (2:Int))=true by simpa using hk,Bool.true_and,decide_eq_false_iff_not] at h1;exact List.length_eq_zero_iff.1 (by omega)
 unfold D8;simp only [letJ]
 cases h1:(x.Kind == (1:Int)) with
 | true=>rw [bb];exact fin _ (noA _ _)
 | false =>
  rw [bc]
  cases h2:(x.Kind == (2:Int)) with
  | true=>rw [bb];exact fin _ (fun _ hk=>absurd (by simpa using h2) hk)
  | false=>
   rw [bc]
   cases h5:(x.Kind == (5:Int)) with
   | true=>rw [bb];exact fin _ (fun ha=>noA _ false (by rw [Bool.or_false];exact ha))
   | false=>rw [bc];exact fin _ (fun ha=>noA _ false (by rw [Bool.or_false];exact ha))
theorem YB:∀ (n:Nat) (x:Ac) (a:Int),szN x < n -> szN x <= 1048576 -> 0 <= a -> a + szN x <= 4000000 -> ∃ b,iter Ci n (x,a)=some b
 | 0,x,a,h,_,_,_=>by omega
 | n + 1, x, a, h, hs, h0, h1 => by
  have hl:=DV x;have ih:=fun y a=>YB n y a;rw [DS];generalize iter Ci n=rc at ih ⊢;have hc:∀ b:Int,0 <= b -> b <= a + 1 -> ∃ r,An x.Kids (fun z0=>C5 rc z0 b)=some r:=by
   intro b hb0 hb1;refine ⟨_,Dl (by omega) fun y hy=>?_⟩;have h3:=GJ hy;unfold C5;obtain ⟨r,hr⟩:=ih y b (by omega) (by omega) hb0 (by omega);rw [hr];exact ⟨_,rfl⟩
  unfold Ci;simp only [letJ]
  cases (x.Kind == (2:Int)) with
  | true =>
   rw [bb]
   cases decide ((32:Int) < a) with
   | true=>exact ⟨_,rfl⟩
   | false=>
    rw [bc,w64 (by omega) (by omega)];obtain ⟨r,hr⟩:=hc (a + 1) (by omega) (by omega);rw [hr];exact ⟨_,rfl⟩
  | false=>
   rw [bc];obtain ⟨r,hr⟩:=hc a h0 (by omega);rw [hr];exact ⟨_,rfl⟩
theorem Tz (x:Ac) (h:szN x <= 1048576):∃ b,DQ x=some b:=by
 have hl:=DF x;unfold DQ;simp only [letJ]
 cases ((decide ((64:Int) < (x.Attrs.length:Int))) || (decide ((8192:Int) < (x.Text.length:Int)))) with
 | true=>exact ⟨_,rfl⟩
 | false=>
  rw [bc,HD (l:=x.Attrs) (f:=Ey) (by omega) fun y _=>⟨_,rfl⟩];exact ⟨_,rfl⟩
theorem KR {x:Ac} {a:Ak} (ha:a ∈ x.Attrs):a.Name.URI.length <= szN x /\ a.Name.Local.length <= szN x /\ a.Value.length <= szN x:=by
 cases x with
 | mk K N A Ks T =>
  have key:∀ (l:List Ak),a ∈ l -> ((((a.Name.URI.length + 1) + ((a.Name.Local.length + 1) + 0)) + 1) + ((a.Value.length + 1) + 0)) + 1 <= (List.map (fun x:Ak=>((((x.Name.URI.length + 1) + ((x.Name.Local.length + 1) + 0)) + 1) + ((x.Value.length + 1) + 0)) + 1) l).sum:=by
   intro l
   induction l with
   | nil=>intro h;cases h
   | cons y l ih=>
    intro h;simp only [List.map_cons,List.sum_cons];rcases List.mem_cons.1 h with rfl | h
    ·omega
    ·have:=ih h;omega
  have:=key A ha;simp only [szN,Bl];omega
theorem H5 (x:Ac):x.Name.URI.length <= szN x /\ x.Name.Local.length <= szN x /\ x.Text.length <= szN x:=by
 cases x;simp only [szN,Bl];omega
theorem O1 (p:List By8) (h:p.length <= 1073741824):∃ b,EZ p=some b:=by
 unfold EZ;obtain ⟨r,hr⟩:=Ld p h;rw [hr];exact ⟨_,rfl⟩
theorem JN (n:Aa) (h:n.URI.length <= 1073741824):∃ b,CN n=some b:=by
 unfold CN;obtain ⟨b,hb,_⟩:=Pz n.Local;obtain ⟨c,hc⟩:=O1 n.URI h;rw [hb,ba];simp only [letJ]
 cases ((!b) || (decide ((100:Int) < (n.URI.length:Int)))) with
 | true=>exact ⟨_,rfl⟩
 | false=>rw [bc,hc];exact ⟨_,rfl⟩
theorem OM (x:Ac) (h:szN x <= 1048576):∃ b,B7 x=some b:=by
 have hl:=DF x;have hn:=H5 x;unfold B7;simp only [letJ]
 cases (x.Kind == (2:Int)) with
 | true =>
  obtain ⟨b,hb⟩:=JN x.Name (by omega);rw [bb,hb,ba]
  cases b with
  | true=>exact ⟨_,rfl⟩
  | false =>
   rw [bc,HD (by omega) fun y hy=>by
    unfold Dy;have:=KR hy;obtain ⟨c,hc⟩:=JN y.Name (by omega)
    rw [hc];exact ⟨_,rfl⟩]
   exact ⟨_,rfl⟩
 | false =>
  rw [bc]
  cases (x.Kind == (5:Int)) with
  | true =>
   obtain ⟨b,hb,_⟩:=Pz x.Name.Local;rw [bb,hb,ba]
   cases b with
   | false=>exact ⟨_,rfl⟩
   | true=>
    obtain ⟨r,hr⟩:=YR x.Name.Local (by omega);rw [Bool.not_true,bc,hr];exact ⟨_,rfl⟩
  | false=>exact ⟨_,rfl⟩
theorem Rf (x:Ac) (h:szN x <= 1048576):∃ b,CH x=some b:=by
 have hl:=DF x;have hn:=H5 x;unfold CH;obtain ⟨b,hb⟩:=O1 x.Text (by omega);rw [hb,ba];simp only [letJ]
 cases b with
 | true=>exact ⟨_,rfl⟩
 | false =>
  rw [bc,HD (by omega) fun y hy=>by
   unfold Ea;have:=KR hy;obtain ⟨c,hc⟩:=O1 y.Value (by omega)
   rw [hc];exact ⟨_,rfl⟩]
  exact ⟨_,rfl⟩
def RiseA (l:List Ak):Prop:=∀ i (h:i + 1 < l.length),P4 (l[i]'(by omega)).Name l[i + 1].Name < 0
theorem JR (x:Ac) (h:szN x <= 1048576):∃ b,BF x=some b /\ (b=false -> RiseA x.Attrs):=by
 have hl:=DF x;unfold BF;simp only [letJ]
 obtain ⟨o,e,hR⟩:=A0 (b:=B6 x) (fun i s=>s=(i:Int) /\ ∀ j (h:j + 1 < x.Attrs.length),j + 1 < i -> P4 (x.Attrs[j]'(by omega)).Name x.Attrs[j + 1].Name < 0) (fun o=>match o with | .inl _=>RiseA x.Attrs | .inr b=>b=true) x.Attrs.length (x0:=(0:Int)) ⟨rfl,fun j h hj=>by omega⟩ (by
  rintro i _ rec hi ⟨rfl,ha⟩;unfold B6;simp only [letJ];rw [bf (by omega),bb];by_cases h0:i=0
  ·subst h0;left;refine ⟨((0 + 1:Nat):Int),?_,rfl,fun j h hj=>by omega⟩;rw [bg (by omega),bc,bc,w64 (by omega) (by omega)];rfl
  ·obtain ⟨j,rfl⟩:∃ j,i=j + 1:=⟨i - 1,by omega⟩
   rw [bf (by omega),bb,w64 (by omega) (by omega),show ((j + 1:Nat):Int) - 1=(j:Int) by omega,AC (by omega:j < x.Attrs.length),ba,AC hi,ba,QN,ba]
   cases hc:decide ((0:Int) <= P4 x.Attrs[j].Name x.Attrs[j + 1].Name) with
   | true=>exact .inr ⟨_,rfl,rfl⟩
   | false =>
    left;refine ⟨((j + 1 + 1:Nat):Int),?_,rfl,fun k h hk=>?_⟩
    ·rw [bc,w64 (by omega) (by omega)];rfl
    ·rw [decide_eq_false_iff_not] at hc;by_cases hkj:k=j
     ·subst hkj;omega
     ·exact ha k h (by omega)) (by
  rintro _ rec ⟨rfl,ha⟩;refine ⟨.inl (),?_,fun i h=>ha i h h⟩;unfold B6
  rw [bg (by omega),bc]) (n:=FUEL) (by unfold FUEL;omega)
 rw [e,ba]
 cases o with
 | inl u=>exact ⟨_,rfl,fun _=>hR⟩
 | inr b=>have hR:b=true:=hR;subst hR;exact ⟨_,rfl,fun h=>by cases h⟩

set_option linter.unusedSimpArgs false
set_option linter.unusedVariables false
set_option maxRecDepth 20000
theorem IK (s u:List By8) (h:s.length <= 1048576):∃ b,L_Contains s u=some b:=by
 unfold L_Contains;rw [if_pos (by omega)];exact ⟨_,rfl⟩
theorem Qi (s:List By8):∃ b,L_TrimLeft s [32,9,10]=some b:=by
 unfold L_TrimLeft;rw [if_pos ⟨by decide,by decide⟩];exact ⟨_,rfl⟩
theorem Tj (s u:List By8) (h:s.length <= 1048576):∃ b,Co s u=some b:=by
 unfold Co CJ;simp only [letJ];by_cases hc:(u.length:Int) <= (s.length:Int)
 ·rw [bf hc,bb,w64 (by omega) (by omega)];rw [show ((s.length:Int) - (u.length:Int))=((s.length - u.length:Nat):Int) by omega,Gv (by omega)];exact ⟨_,rfl⟩
 ·rw [bg hc];exact ⟨_,rfl⟩
theorem Nm (x:Ac) (h:szN x <= 1048576):∃ b,BW x=some b:=by
 have hl:=DV x;have hn:=H5 x;unfold BW;simp only [letJ]
 obtain ⟨o,e⟩:=R0 (b:=B8 x) (fun i s=>s=(i:Int)) x.Kids.length (x0:=(0:Int)) rfl (by
  rintro i _ rec hi rfl;unfold B8;simp only [letJ];have e1:IntKind.wrap .i64 ((i:Int) + 1)=((i + 1:Nat):Int):=by rw [w64 (by omega) (by omega)];rfl
  have e2:IntKind.wrap .i64 ((i:Int) - 1)=(i:Int) - 1:=by rw [w64 (by omega) (by omega)]
  rw [bf (by omega),bb,AC hi,ba,e1,e2]
  cases hc:((decide ((0:Int) < (i:Int))) && (x.Kids[i].Kind == (3:Int))) with
  | false=>exact .inl ⟨((i + 1:Nat):Int),rfl,rfl⟩
  | true=>
   have h0:(0:Int) < (i:Int):=of_decide_eq_true (Bool.and_eq_true_iff.1 hc).1;rw [bb,show (i:Int) - 1=((i - 1:Nat):Int) by omega,AC (by omega:i - 1 < x.Kids.length),ba]
   cases (x.Kids[i - 1].Kind == (3:Int)) with
   | true=>exact .inr ⟨_,rfl⟩
   | false=>exact .inl ⟨((i + 1:Nat):Int),rfl,rfl⟩) (by
  rintro _ rec rfl;unfold B8
  rw [bg (by omega)];exact ⟨_,rfl⟩) (by omega)
 rw [e,ba]
 cases o with
 | inr b=>exact ⟨_,rfl⟩
 | inl u =>
  cases (x.Kind == (3:Int)) with
  | true=>exact ⟨_,rfl⟩
  | false=>
   simp only [bc];obtain ⟨b1,h1⟩:=IK x.Text [45,45] (by omega);obtain ⟨b2,h2⟩:=IK x.Text [13] (by omega);obtain ⟨b3,h3⟩:=Tj x.Text [45] (by omega);obtain ⟨b4,h4⟩:=IK x.Text [63,62] (by omega);obtain ⟨b5,h5⟩:=Qi x.Text;simp only [h1,h2,h3,h4,h5,ba];cases (x.Kind == (4:Int)) <;> cases (x.Kind == (5:Int)) <;> cases b1 <;> cases b2 <;> cases b3 <;> cases b4 <;> exact ⟨_,rfl⟩
structure GoodT (d:Ac):Prop where
 el:∀ x ∈ Bs d,x.Kind ≠ 2 -> x.Attrs=[]
 up:∀ x ∈ Bs d,RiseA x.Attrs
theorem N2 (d:Ac) (h:szN d <= 1048576):∃ r,Cv d=some r /\ (r=0 -> GoodT d):=by
 have hl:(Bs d).length <= 1048576:=Nat.le_trans (GG d) h;have hs:∀ x ∈ Bs d,szN x <= 1048576:=fun x hx=>Nat.le_trans (LH d x hx) h;have hodd:∀ x ∈ Bs d,∃ b,D8 x=some b:=fun x hx=>(Sb x (hs x hx)).imp fun b h=>h.1;have hgr:=Dl (l:=Bs d) (f:=DQ) (by omega) fun x hx=>Tz x (hs x hx);have hmi:=Dl (l:=Bs d) (f:=B7) (by omega) fun x hx=>OM x (hs x hx);have hsp:=Dl (l:=Bs d) (f:=CH) (by omega) fun x hx=>Rf x (hs x hx);have hun':∀ x ∈ Bs d,∃ b,BF x=some b:=fun x hx=>(JR x (hs x hx)).imp fun b h=>h.1;have hun:=Dl (l:=Bs d) (f:=BF) (by omega) hun';have hwt:=Dl (l:=Bs d) (f:=BW) (by omega) fun x hx=>Nm x (hs x hx);have hoc:=Dl (l:=Bs d) (f:=D8) (by omega) hodd;obtain ⟨bd,hdp⟩:=YB FUEL d 0 (by unfold FUEL;omega) h (by omega) (by omega);have hdp':Ib d 0=some bd:=hdp
 obtain ⟨rk,hrk⟩:=R0 (b:=BH d) (fun i s=>s.2=(i:Int) /\ 0 <= s.1 /\ s.1 <= (i:Int)) d.Kids.length (x0:=((0:Int),(0:Int))) ⟨rfl,by omega,by omega⟩ (by
  rintro i ⟨a,_⟩ rec hi ⟨rfl,h0,h1⟩;have:=DV d;unfold BH;simp only [letJ];rw [bf (by omega),bb,AC hi,ba];left
  cases (d.Kids[i].Kind == (2:Int)) with
  | true=>exact ⟨(a + 1,((i + 1:Nat):Int)),by rw [bb,w64 (by omega) (by omega),w64 (by omega) (by omega)];rfl,rfl,by simp only;omega,by simp only;omega⟩
  | false=>exact ⟨(a,((i + 1:Nat):Int)),by rw [bc,w64 (by omega) (by omega)];rfl,rfl,h0,by simp only;omega⟩) (by
  rintro ⟨a,_⟩ rec ⟨rfl,h0,h1⟩;unfold BH;dsimp only
  rw [bg (by omega)];exact ⟨_,rfl⟩) (by have:=DV d;omega)
 unfold Cv;rw [OA d h,ba];simp only [letJ,hgr,hmi,hsp,hun,hwt,hoc,hdp',hrk,ba];have non:∀ {z:Int},z ≠ 0 -> (z=0 -> GoodT d):=fun h e=>absurd e h
 cases (d.Kind != (1:Int)) with
 | true=>exact ⟨_,rfl,non (by decide)⟩
 | false=>
 rw [bc]
 cases ho:(Bs d).any (gB D8) with
 | true=>exact ⟨_,rfl,non (by decide)⟩
 | false=>
 rw [bc]
 cases bd with
 | true=>exact ⟨_,rfl,non (by decide)⟩
 | false=>
 rw [bc];have rest:∀ g:Bool,∃ r,(cond g (some (5:Int)) (cond ((Bs d).any (gB B7)) (some 24) (cond ((Bs d).any (gB CH)) (some 21) (cond ((Bs d).any (gB BF)) (some 34) (cond ((Bs d).any (gB BW)) (some 32) (cond (rk != 1) (some 30) (some 0)))))):Option Int)=some r /\ (r=0 -> GoodT d):=by
  intro g
  cases g with
  | true=>exact ⟨_,rfl,non (by decide)⟩
  | false=>
  cases (Bs d).any (gB B7) with
  | true=>exact ⟨_,rfl,non (by decide)⟩
  | false=>
  cases (Bs d).any (gB CH) with
  | true=>exact ⟨_,rfl,non (by decide)⟩
  | false=>
  cases hu:(Bs d).any (gB BF) with
  | true=>exact ⟨_,rfl,non (by decide)⟩
  | false=>
  cases (Bs d).any (gB BW) with
  | true=>exact ⟨_,rfl,non (by decide)⟩
  | false=>
  cases (rk != 1) with
  | true=>exact ⟨_,rfl,non (by decide)⟩
  | false=>
   refine ⟨_,rfl,fun _=>⟨fun x hx=>?_,fun x hx=>?_⟩⟩
   ·obtain ⟨b,hb,hf⟩:=Sb x (hs x hx);have:=UZ ho hx ⟨b,hb⟩;rw [hb] at this;exact hf (Option.some.inj this)
   ·obtain ⟨b,hb,hf⟩:=JR x (hs x hx);have:=UZ hu hx ⟨b,hb⟩;rw [hb] at this;exact hf (Option.some.inj this)
 cases (decide ((2000:Int) < (IntKind.wrap .i64 (((Bs d).length:Int) - (1:Int))))) with
 | true=>exact rest true
 | false=>exact rest _
end Go.Proofs.YtmnbjcpikllknaaGreatDoor
