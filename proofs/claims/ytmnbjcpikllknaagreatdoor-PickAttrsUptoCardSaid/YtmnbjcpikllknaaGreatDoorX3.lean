/- The query's reader always answers. No condition. -/
import Derived.Lib.IndexLaws
import Derived.Lib.Bytealg
import Derived.Lib.DecodeN
import Derived.Test.YtmnbjcpikllknaaGreatDoorX1
set_option linter.unusedSimpArgs false
set_option linter.unusedVariables false
set_option maxRecDepth 20000
namespace Go.Proofs.YtmnbjcpikllknaaGreatDoor
open Go.Lib (decodeL decodeN)
abbrev Rd:=Af
structure Rr (q:List By8) (lo:Int) (r:Rd):Prop where
 eq:r.q=q
 lo:lo <= r.at_
 hi:r.at_ <= q.length
theorem Rr.le {q:List By8} {a b:Int} {r:Rd} (h:Rr q a r) (hb:b <= a):Rr q b r:=⟨h.eq,by have:=h.lo;omega,h.hi⟩
def Ans {A:Type} (q:List By8) (o:Option (Rd ⊕ A)) (P:A -> Prop):Prop:=∃ x,o=some x /\ (match x with | .inl r=>Rr q 0 r | .inr a=>P a)
theorem Ans.bind {A B:Type} {q:List By8} {o:Option (Rd ⊕ A)} {P:A -> Prop} {k:A -> Option (Rd ⊕ B)} {Q:B -> Prop} (h:Ans q o P) (hk:∀ a,P a -> Ans q (k a) Q):Ans q (o.bind fun x=>pnc x (fun r=>some (.inl r)) k) Q:=by
 obtain ⟨x,rfl,hx⟩:=h
 cases x with
 | inl r=>exact ⟨.inl r,rfl,hx⟩
 | inr a=>exact hk a hx
theorem Ans.mono {A:Type} {q:List By8} {o:Option (Rd ⊕ A)} {P Q:A -> Prop} (h:Ans q o P) (hk:∀ a,P a -> Q a):Ans q o Q:=by
 obtain ⟨x,rfl,hx⟩:=h
 cases x with
 | inl r=>exact ⟨.inl r,rfl,hx⟩
 | inr a=>exact ⟨.inr a,rfl,hk a hx⟩
theorem Ans.ok {A:Type} {q:List By8} {a:A} {P:A -> Prop} (h:P a):Ans q (some (.inr a)) P:=⟨.inr a,rfl,h⟩
theorem Ans.bad {A B:Type} {q:List By8} {r:Rd} {r':Rd} {k:Unit -> Option (Rd ⊕ B)} {Q:B -> Prop} (h:Rr q 0 r'):Ans q ((Bg r).bind fun x=>pnc x (fun _=>some (.inl r')) k) Q:=⟨.inl r',rfl,h⟩
theorem Py (l:List By8) (c:By8):-1 <= Lib.indexByte l c /\ Lib.indexByte l c < l.length:=by
 have h1:=Lib.indexByte_ge l c;refine ⟨h1,?_⟩;by_cases h:Lib.indexByte l c=-1
 ·omega
 ·obtain ⟨n,hn⟩:∃ n:Nat,Lib.indexByte l c=(n:Int):=⟨(Lib.indexByte l c).toNat,by omega⟩
  obtain ⟨h2,_⟩:=Lib.indexByte_some hn;have:=(List.getElem?_eq_some_iff.1 h2).1;omega
theorem Aeq (l:List By8) (h:l ≠ []):∃ r w:Nat,L_DecodeRuneInString l=some ((r:Int),(w:Int)) /\ 1 <= w /\ w <= l.length:=by
 have hl:0 < l.length:=List.length_pos_iff.2 h;have h1:=Lib.decodeL_width l;have h2:=Lib.decodeL_le l h;refine ⟨(decodeL l).1,(decodeL l).2,?_,h1,h2⟩;unfold L_DecodeRuneInString Lib.decodeGo
 rw [if_neg (by
  show ¬ (l.toArray.size=0)
  simp;omega)]
 rfl
section
variable {q:List By8} (hq:q.length <= 1048576) {lo:Int} (h0:0 <= lo) {r:Rd}
include hq h0
theorem Rs (c:Int) (h:Rr q lo r):∃ b,BK r c=some b /\ (b=true -> r.at_ < q.length):=by
 obtain ⟨e,h1,h2⟩:=h;subst e;unfold BK;simp only [letJ];by_cases hl:r.at_ < (r.q.length:Int)
 ·obtain ⟨n,hn⟩:∃ n:Nat,r.at_=(n:Int):=⟨r.at_.toNat,by omega⟩
  rw [bf hl,bb,hn,AC (by omega)];exact ⟨_,rfl,fun _=>by omega⟩
 ·rw [bg hl];exact ⟨_,rfl,fun h=>by cases h⟩
theorem If (c:Int) (h:Rr q lo r):Ans q (AP r c) (Rr q (lo + 1)):=by
 obtain ⟨b,hb,hl⟩:=Rs hq h0 c h;unfold AP;simp only [letJ];rw [hb,ba]
 cases b with
 | false=>
  rw [Bool.not_false,bb];exact Ans.bad (A:=Unit) (h.le h0)
 | true=>
  have:=hl rfl;have:=h.lo;rw [Bool.not_true,bc,w64 (by omega) (by omega)];exact .ok ⟨h.eq,by simp only;omega,by simp only;omega⟩
theorem JJ (c:Int) (h:Rr q lo r):∃ b r',AH r c=some (b,r') /\ Rr q lo r' /\ (b=true -> Rr q (lo + 1) r'):=by
 obtain ⟨b,hb,hl⟩:=Rs hq h0 c h;unfold AH;rw [hb,ba]
 cases b with
 | false=>exact ⟨_,_,rfl,h,fun h=>by cases h⟩
 | true=>
  have:=hl rfl;have:=h.lo;rw [bb,w64 (by omega) (by omega)];have h':Rr q (lo + 1) ⟨r.q,r.at_ + 1⟩:=⟨h.eq,by simp only;omega,by simp only;omega⟩
  exact ⟨_,_,rfl,h'.le (by omega),fun _=>h'⟩
theorem T9 (c:Int) (h:Rr q lo r):Ans q (BZ r c) fun y=>Rr q (lo + 1) y.2 /\ y.1.length <= q.length:=by
 obtain ⟨e,h1,h2⟩:=h;subst e;obtain ⟨n,hn⟩:∃ n:Nat,r.at_=(n:Int):=⟨r.at_.toNat,by omega⟩
 unfold BZ;simp only [letJ];rw [hn,Gv (by omega),ba];unfold L_IndexByte;rw [ba];have hb1:=Py (r.q.drop n) c.toNat.toUInt8;generalize Lib.indexByte (r.q.drop n) c.toNat.toUInt8=x at hb1 ⊢;rw [List.length_drop] at hb1;by_cases hx:x < 0
 ·rw [bf hx,bb];exact Ans.bad (A:=Unit) ⟨rfl,by simp only;omega,by simp only;omega⟩
 ·rw [bg hx,bc,w64 (x:=x + 1) (by omega) (by omega),w64 (by omega) (by omega),w64 (by omega) (by omega)];unfold slc;rw [if_pos (by omega),ba];refine .ok ⟨⟨rfl,by simp only;omega,by simp only;omega⟩,?_⟩;simp only [List.length_take,List.length_drop];omega
theorem Md (h:Rr q lo r):Ans q (Bm r) fun y=>Rr q (lo + 1) y.2:=by
 obtain ⟨e,h1,h2⟩:=h;subst e;obtain ⟨n,hn⟩:∃ n:Nat,r.at_=(n:Int):=⟨r.at_.toNat,by omega⟩
 unfold Bm;simp only [letJ]
 obtain ⟨o,e,hR⟩:=A0 (b:=BR r) (fun i x=>x.1=r.q /\ ∃ a:Nat,x.2=(a:Int) /\ n <= a /\ a <= r.q.length /\ i <= a) (fun o=>o.1=r.q /\ ∃ a:Nat,o.2=(a:Int) /\ n <= a /\ a <= r.q.length) r.q.length (x0:=(r.q,r.at_)) ⟨rfl,n,hn,Nat.le_refl _,by omega,by omega⟩ (by
  rintro i ⟨s,z⟩ rec hi ⟨rfl,a,rfl,g1,g2,g3⟩;unfold BR;simp only [letJ];by_cases hl:a < r.q.length
  ·obtain ⟨rn,w,hd,w1,w2⟩:=Aeq (r.q.drop a) (by intro h;have:=congrArg List.length h;simp at this;omega);rw [List.length_drop] at w2;obtain ⟨b1,hb1⟩:=JU (rn:Int);obtain ⟨b2,hb2⟩:=G4 (rn:Int);rw [bf (by omega),bb,Gv (by omega),ba,hd,ba,w64 (by omega) (by omega),hb1,hb2];simp only [ba];have hs:(some (r.q,(a:Int)):Option (List By8 × Int))=some (r.q,(a:Int)) /\ (r.q,(a:Int)).1=r.q /\ ∃ a':Nat,(r.q,(a:Int)).2=(a':Int) /\ n <= a' /\ a' <= r.q.length:=⟨rfl,rfl,a,rfl,g1,g2⟩
   have hg:∃ y:List By8 × Int,rec (r.q,(a:Int) + (w:Int))=rec y /\ y.1=r.q /\ ∃ a':Nat,y.2=(a':Int) /\ n <= a' /\ a' <= r.q.length /\ i + 1 <= a':=⟨_,rfl,rfl,a + w,by simp,by omega,by omega,by omega⟩
   cases (((rn:Int) == (65533:Int)) && (decide ((w:Int) < (3:Int)))) <;> cases b1 <;> cases b2 <;> cases ((a:Int) == r.at_) <;> first | exact .inr ⟨_,hs⟩ | exact .inl hg
  ·rw [bg (by omega),bc]
   exact .inr ⟨_,rfl,rfl,a,rfl,g1,g2⟩) (by
  rintro ⟨s,z⟩ rec ⟨rfl,a,rfl,g1,g2,g3⟩;unfold BR;dsimp only;rw [bg (by omega),bc]
  exact ⟨_,rfl,rfl,a,rfl,g1,g2⟩) (n:=FUEL) (by unfold FUEL;omega)
 rw [e,ba];obtain ⟨s,z⟩:=o;obtain ⟨rfl,a,rfl,g1,g2⟩:=hR;simp only;by_cases ha:a=n
 ·rw [show ((a:Int) == r.at_)=true by rw [hn,ha];simp,bb];exact Ans.bad (A:=Unit) ⟨rfl,by simp only;omega,by simp only;omega⟩
 ·rw [show ((a:Int) == r.at_)=false by rw [hn];simp;omega,bc];have hsl:∃ x,slc r.q r.at_ (a:Int)=some x:=by unfold slc;rw [if_pos (by omega)];exact ⟨_,rfl⟩
  obtain ⟨x,hx⟩:=hsl;rw [hx,ba];have hr':Rr r.q (lo + 1) ⟨r.q,(a:Int)⟩:=⟨rfl,by simp only;omega,by simp only;omega⟩
  obtain ⟨b,r',hm,m1,m2⟩:=JJ (q:=r.q) hq (lo:=lo + 1) (by omega) 123 hr';rw [hm,ba]
  cases b with
  | false=>exact .ok ⟨m1.eq,m1.lo,m1.hi⟩
  | true =>
   refine Ans.bind (T9 (q:=r.q) hq (lo:=lo + 1 + 1) (by omega) 125 (m2 rfl)) fun y ⟨y1,y2⟩=>?_
   cases (y.1 == ([]:List By8)) with
   | true=>
    have:=y1.lo;have:=y1.hi;rw [bb,w64 (by omega) (by omega)];exact Ans.bad (A:=Unit) ⟨y1.eq,by simp only;omega,by simp only;omega⟩
   | false=>exact .ok ⟨y1.eq,by have:=y1.lo;simp only;omega,y1.hi⟩
theorem Mi (p:Nat) (z:Bool) (hp:p <= 7) (hp1:1 <= p) (h:Rr q lo r):Ans q (Bp r (p:Int) z) fun y=>Rr q (lo + 1) y.2 /\ 0 <= y.1 /\ y.1 < 10000000 /\ (z=false -> 1 <= y.1):=by
 obtain ⟨e,h1,h2⟩:=h;subst e;obtain ⟨n,hn⟩:∃ n:Nat,r.at_=(n:Int):=⟨r.at_.toNat,by omega⟩
 have pow:∀ k:Nat,k <= 7 -> 10 ^ k <= 10000000:=fun k hk=>by
  have:10 ^ k <= 10 ^ 7:=Nat.pow_le_pow_right (by omega) hk;simpa using this
 unfold Bp;simp only [letJ]
 obtain ⟨o,e,hR⟩:=A0 (b:=CK r (p:Int) z) (fun i x=>x.1=r.q /\ x.2.1=((n + i:Nat):Int) /\ n + i <= r.q.length /\ 0 <= x.2.2 /\ x.2.2 < ((10 ^ i:Nat):Int) /\ (0 < i -> z=false -> 1 <= x.2.2)) (fun o=>o.1=r.q /\ ∃ i:Nat,o.2.1=((n + i:Nat):Int) /\ n + i <= r.q.length /\ 0 <= o.2.2 /\ o.2.2 < 10000000 /\ (0 < i -> z=false -> 1 <= o.2.2)) p (x0:=(r.q,r.at_,(0:Int))) ⟨rfl,hn,by omega,by simp,by simp,fun h=>by omega⟩ (by
  rintro i ⟨s,c,v⟩ rec hi ⟨rfl,rfl,g1,g2,g3,g4⟩;simp only at g2 g3 g4;have hpi:=pow i (by omega);have hv:v < 10000000:=by omega
  have stop:∀ o,o=(some (r.q,((n + i:Nat):Int),v):Option (List By8 × Int × Int)) -> ∃ y,o=some y /\ y.1=r.q /\ ∃ i:Nat,y.2.1=((n + i:Nat):Int) /\ n + i <= r.q.length /\ 0 <= y.2.2 /\ y.2.2 < 10000000 /\ (0 < i -> z=false -> 1 <= y.2.2):=fun o ho=>⟨_,ho,rfl,i,rfl,g1,g2,hv,g4⟩
  unfold CK;simp only [letJ];rw [hn,w64 (x:=(n:Int) + (p:Int)) (by omega) (by omega),bf (show ((n + i:Nat):Int) < (n:Int) + (p:Int) by omega),bb];by_cases hl:n + i < r.q.length
  ·rw [bf (by omega), bb, AC hl];simp only [ba];by_cases d1 : (48 : Int) <= (r.q[n + i].toNat : Int)
   ·rw [bf d1, bb];by_cases d2 : (r.q[n + i].toNat : Int) <= 57
    ·rw [bf d2,bb];obtain ⟨k,hk,hk9⟩:∃ k:Nat,(r.q[n + i].toNat:Int)=48 + (k:Int) /\ k <= 9:=⟨r.q[n + i].toNat - 48,by omega,by omega⟩
     have hwr:IntKind.wrap .i64 (IntKind.wrap .u8 ((r.q[n + i].toNat:Int) - 48))=(k:Int):=by
      rw [hk,show (48:Int) + (k:Int) - 48=(k:Int) by omega];have:∀ k:Nat,k <= 9 -> IntKind.wrap .i64 (IntKind.wrap .u8 (k:Int))=(k:Int):=by decide
      exact this k hk9
     have hpw:(10 ^ (i + 1):Nat)=10 ^ i * 10:=Nat.pow_succ ..;have go:(0=i -> z=false -> 1 <= k) -> (∃ y:List By8 × Int × Int,rec (r.q,IntKind.wrap .i64 (((n + i:Nat):Int) + 1),IntKind.wrap .i64 (IntKind.wrap .i64 (10 * v) + IntKind.wrap .i64 (IntKind.wrap .u8 ((r.q[n + i].toNat:Int) - 48))))=rec y /\ y.1=r.q /\ y.2.1=((n + (i + 1):Nat):Int) /\ n + (i + 1) <= r.q.length /\ 0 <= y.2.2 /\ y.2.2 < ((10 ^ (i + 1):Nat):Int) /\ (0 < i + 1 -> z=false -> 1 <= y.2.2)):=by
      intro hz;rw [hwr,w64 (x:=10 * v) (by omega) (by omega),w64 (x:=10 * v + (k:Int)) (by omega) (by omega),w64 (by omega) (by omega)];refine ⟨_,rfl,rfl,by simp only;omega,by omega,by simp only;omega,?_,fun _ hzz=>?_⟩
      ·simp only;rw [hpw];omega
      ·simp only;by_cases hi0:i=0
       ·have:=hz hi0.symm hzz;omega
       ·have:=g4 (by omega) hzz;omega
     by_cases hi0:i=0
     ·subst hi0;rw [show (((n + 0:Nat):Int) == (n:Int))=true by simp,bb];by_cases h48:k=0
      ·rw [show ((r.q[n + 0].toNat:Int) == (48:Int))=true by rw [hk,h48];rfl,bb]
       cases z with
       | false=>exact .inr (stop _ rfl)
       | true=>exact .inl (go (fun _ h=>by cases h))
      ·rw [show ((r.q[n + 0].toNat:Int) == (48:Int))=false by rw [hk];simp;omega,bc];exact .inl (go (fun _ _=>by omega))
     ·rw [show (((n + i:Nat):Int) == (n:Int))=false by simp;omega,bc];exact .inl (go (fun h=>by omega))
    ·rw [bg d2];exact .inr (stop _ rfl)
   ·rw [bg d1];exact .inr (stop _ rfl)
  ·rw [bg (by omega)];exact .inr (stop _ rfl)) (by
  rintro ⟨s,c,v⟩ rec ⟨rfl,rfl,g1,g2,g3,g4⟩;simp only at g2 g3 g4;have hpi:=pow p hp;refine ⟨(r.q,((n + p:Nat):Int),v),?_,rfl,p,rfl,g1,g2,by simp only;omega,g4⟩;unfold CK;simp only [letJ];rw [hn,w64 (x:=(n:Int) + (p:Int)) (by omega) (by omega),bg (show ¬ ((n + p:Nat):Int) < (n:Int) + (p:Int) by omega)]
  cases decide (((n + p:Nat):Int) < (r.q.length:Int)) <;> rfl) (n:=FUEL) (by unfold FUEL;omega)
 rw [e,ba];obtain ⟨s,c,v⟩:=o;obtain ⟨rfl,i,rfl,g1,g2,g3,g4⟩:=hR;simp only at g2 g3 g4 ⊢;by_cases hi:i=0
 ·subst hi;rw [show (((n + 0:Nat):Int) == r.at_)=true by rw [hn];simp,bb];exact Ans.bad (A:=Unit) ⟨rfl,by simp only;omega,by simp only;omega⟩
 ·rw [show (((n + i:Nat):Int) == r.at_)=false by rw [hn];simp;omega,bc];exact .ok ⟨⟨rfl,by simp only;omega,by simp only;omega⟩,g2,g3,g4 (by omega)⟩
end

set_option linter.unusedSimpArgs false
set_option linter.unusedVariables false
set_option maxRecDepth 20000
def WhF (x:Nat):Prop:=∃ a:Int,0 <= a /\ a < 10000000 /\ (x=i2f a \/ x=Aa3 (i2f a))
structure CP (c:Ae):Prop where
 k:c.kind=91 -> 1 <= c.k /\ c.k <= 1000000000
 s:c.kind=126 -> WhF c.spot.1 /\ WhF c.spot.2
theorem CP.of {c:Ae} (h1:c.kind ≠ 91) (h2:c.kind ≠ 126):CP c:=⟨fun h=>absurd h h1,fun h=>absurd h h2⟩
theorem Ans.letJ {V B:Type} {q:List By8} {J:V -> Option (Rd ⊕ B)} {k:(V -> Option (Rd ⊕ B)) -> Option (Rd ⊕ B)} {Q:B -> Prop} (PV:V -> Prop) (hJ:∀ v,PV v -> Ans q (J v) Q) (hk:∀ J',(∀ v,PV v -> Ans q (J' v) Q) -> Ans q (k J') Q):Ans q (letJ J k) Q:=hk J hJ
section
variable {q:List By8} (hq:q.length <= 1048576) {lo:Int} (h0:0 <= lo) {r:Rd}
include hq h0
theorem RX (h:Rr q lo r):Ans q (BU r) fun y=>Rr q (lo + 1) y.2 /\ WhF y.1:=by
 unfold BU;obtain ⟨b,r',hm,m1,m2⟩:=JJ hq h0 45 h;rw [hm,ba]
 cases b with
 | true=>
  refine Ans.bind (Mi hq h0 7 true (by omega) (by omega) m1) fun y ⟨y1,y2,y3,_⟩=>.ok ⟨y1,y.1,y2,y3,.inr rfl⟩
 | false=>
  refine Ans.bind (Mi hq h0 7 true (by omega) (by omega) m1) fun y ⟨y1,y2,y3,_⟩=>.ok ⟨y1,y.1,y2,y3,.inl rfl⟩
theorem YZ (h:Rr q lo r):Ans q (BJ r) fun y=>Rr q (lo + 1) y.2 /\ CP y.1:=by
 unfold BJ;simp only [letJ];obtain ⟨b,r',hm,m1,m2⟩:=JJ hq h0 64 h;rw [hm,ba]
 cases b with
 | false=>
  refine Ans.bind (Mi hq h0 6 false (by omega) (by omega) m1) fun y ⟨y1,y2,y3,y4⟩=>?_;refine Ans.bind (If hq (lo:=lo + 1) (by omega) 93 y1) fun z hz=>?_;exact .ok ⟨hz.le (by omega),⟨fun _=>⟨y4 rfl,by show y.1 <= _;omega⟩,fun h=>absurd (show (91:Int)=126 from h) (by decide)⟩⟩
 | true =>
  refine Ans.bind (Md hq h0 m1) fun y y1=>?_;obtain ⟨b,r2,hm,k1,k2⟩:=JJ hq (lo:=lo + 1) (by omega) 61 y1;rw [hm,ba]
  cases b with
  | true=>
   refine Ans.bind (If hq (lo:=lo + 1) (by omega) 39 k1) fun z hz=>?_;refine Ans.bind (T9 hq (lo:=lo + 1 + 1) (by omega) 39 hz) fun w ⟨hw,_⟩=>?_;refine Ans.bind (If hq (lo:=lo + 1 + 1 + 1) (by omega) 93 (r:=⟨w.2.q,w.2.at_⟩) ⟨hw.eq,hw.lo,hw.hi⟩) fun v hv=>?_;exact .ok ⟨hv.le (by omega),.of (show (61:Int) ≠ 91 by decide) (show (61:Int) ≠ 126 by decide)⟩
  | false =>
   simp only [bc];obtain ⟨b,r3,hm,j1,j2⟩:=JJ hq (lo:=lo + 1) (by omega) 126 k1;rw [hm,ba]
   cases b with
   | true=>
    refine Ans.bind (RX hq (lo:=lo + 1) (by omega) j1) fun z ⟨z1,z2⟩=>?_;refine Ans.bind (If hq (lo:=lo + 1 + 1) (by omega) 44 z1) fun w hw=>?_;refine Ans.bind (RX hq (lo:=lo + 1 + 1 + 1) (by omega) hw) fun v ⟨v1,v2⟩=>?_;refine Ans.bind (If hq (lo:=lo + 1 + 1 + 1 + 1) (by omega) 93 (r:=⟨v.2.q,v.2.at_⟩) ⟨v1.eq,v1.lo,v1.hi⟩) fun u hu=>?_;exact .ok ⟨hu.le (by omega),⟨fun h=>absurd (show (126:Int)=91 from h) (by decide),fun _=>⟨z2,v2⟩⟩⟩
   | false=>
    refine Ans.bind (If hq (lo:=lo + 1) (by omega) 93 (r:=⟨r3.q,r3.at_⟩) ⟨j1.eq,j1.lo,j1.hi⟩) fun u hu=>?_;exact .ok ⟨hu.le (by omega),.of (show (64:Int) ≠ 91 by decide) (show (64:Int) ≠ 126 by decide)⟩
def SP (N:Nat) (st:Ah):Prop:=(∀ c ∈ st.conds,CP c) /\ st.conds.length <= N
omit h0 in
theorem Y3 (a3 a4:Bool) (a5 a6 a7:List By8) (lo:Int) (h0:0 <= lo) (r:Rd) (h:Rr q lo r):∃ o,iter Bt FUEL (r.q,r.at_,a3,a4,a5,a6,a7,([]:List Ae))=some o /\
  (match o with | .inl (b3,b4,b5,b6,b7,cs,s,z)=>Rr q lo ⟨s,z⟩ /\ (∀ c ∈ cs,CP c) /\ cs.length <= q.length | .inr (.inl r)=>Rr q 0 r | .inr (.inr _)=>False):=by
 refine A0 (b:=Bt) (fun i x=>Rr q (lo + i) ⟨x.1,x.2.1⟩ /\ (∀ c ∈ x.2.2.2.2.2.2.2,CP c) /\ x.2.2.2.2.2.2.2.length=i) _ (q.length + 1) (x0:=(r.q,r.at_,a3,a4,a5,a6,a7,([]:List Ae))) ⟨⟨h.eq,by have:=h.lo;simp only;omega,h.hi⟩,fun c hc=>(by cases hc),rfl⟩ ?_ ?_ (n:=FUEL) (by unfold FUEL;omega)
 ·rintro i ⟨s,z,b3,b4,b5,b6,b7,cs⟩ rec hi ⟨hr,hc,hl⟩;simp only at hr hc hl;obtain ⟨b,r',hm,m1,m2⟩:=JJ hq (lo:=lo + i) (by omega) 91 hr;have g1:=m1.lo;have g2:=m1.hi;unfold Bt;dsimp only;rw [hm,ba]
  cases b with
  | false=>
   right;refine ⟨_,rfl,?_⟩;exact ⟨⟨m1.eq,by simp only;omega,g2⟩,hc,by omega⟩
  | true =>
   obtain ⟨x,hx,hp⟩:=YZ hq (lo:=lo + i) (by omega) m1;dsimp only;rw [bb,hx,ba]
   cases x with
   | inl r=>exact .inr ⟨_,rfl,hp⟩
   | inr y =>
    obtain ⟨y1,y2⟩:=hp;left;refine ⟨(y.2.q,y.2.at_,b3,b4,b5,b6,b7,cs ++ [y.1]),?_,⟨y1.eq,by have:=y1.lo;simp only;omega,y1.hi⟩,fun c hc'=>?_,?_⟩
    ·show ((app 80 cs [y.1]).bind fun _=>_)=_;rw [DJ (by simp only [bi,bj];omega) (by simp only [bi,bj];omega),ba]
    ·rcases List.mem_append.1 hc' with hc' | hc'
     ·exact hc c hc'
     ·rw [List.mem_singleton.1 hc'];exact y2
    ·simp only [bk,bi,bj];omega
 ·rintro ⟨s,z,b3,b4,b5,b6,b7,cs⟩ rec ⟨hr,hc,hl⟩;exfalso;have:=hr.lo;have:=hr.hi;simp only at *;omega
theorem Zz (h:Rr q lo r):Ans q (AF r) fun y=>Rr q (lo + 1) y.2 /\ SP q.length y.1:=by
 unfold AF;refine Ans.bind (If hq h0 47 h) fun x4 hx4=>?_;obtain ⟨b6,r6,hm6,m6,_⟩:=JJ hq (lo:=lo + 1) (by omega) 47 hx4;rw [hm6,ba];have tail:∀ (dp:Bool) (s:List By8) (z:Int) (t u l:List By8),Rr q (lo + 1) ⟨s,z⟩ -> Ans q ((iter Bt FUEL (s,z,dp,false,t,u,l,([]:List Ae))).bind fun o=>match o with | .inl o1=>(match o1 with | (a109,a110,a111,a112,a113,a114,a116,a117)=>some (.inr ((⟨a109,a110,a111,(⟨a112,a113⟩:Aa),a114⟩:Ah),(⟨a116,a117⟩:Af)))) | .inr o1=>some o1) fun y=>Rr q (lo + 1) y.2 /\ SP q.length y.1:=by
  intro dp s z t u l hr;obtain ⟨o,e,ho⟩:=Y3 hq dp false t u l (lo + 1) (by omega) ⟨s,z⟩ hr;rw [e,ba];rcases o with ⟨b3,b4,b5,b6,b7,cs,s',z'⟩ | (r' | y)
  ·obtain ⟨o1,o2,o3⟩:=ho;exact .ok ⟨o1,o2,o3⟩
  ·exact ⟨.inl r',rfl,ho⟩
  ·exact ho.elim
 refine Ans.letJ (fun v=>Rr q (lo + 1) ⟨v.1,v.2.1⟩) ?_ fun J hJ=>?_
 ·rintro ⟨s,z,at_⟩ hr;simp only at hr ⊢
  cases at_ with
  | true =>
   rw [bb];refine Ans.letJ (fun v=>Rr q (lo + 1) ⟨v.2.2.2.1,v.2.2.2.2⟩) ?_ fun J hJ=>?_
   ·rintro ⟨a,b,c,s,z⟩ hr;exact .ok ⟨hr,fun c hc=>(by cases hc),Nat.zero_le _⟩
   ·obtain ⟨b,r',hm,m1,m2⟩:=JJ hq (lo:=lo + 1) (by omega) 42 hr;rw [hm,ba]
    cases b with
    | true=>exact hJ _ ⟨m1.eq,m1.lo,m1.hi⟩
    | false=>
     refine Ans.bind (Md hq (lo:=lo + 1) (by omega) m1) fun y hy=>hJ _ ⟨hy.eq,by have:=hy.lo;simp only;omega,hy.hi⟩
  | false =>
   rw [bc];refine Ans.letJ (fun v=>Rr q (lo + 1) ⟨v.1,v.2.1⟩) ?_ fun J hJ=>?_
   ·rintro ⟨s,z,t,u,l⟩ hr;exact tail b6 s z t u l hr
   ·obtain ⟨b,r',hm,m1,m2⟩:=JJ hq (lo:=lo + 1) (by omega) 42 hr;rw [hm,ba]
    cases b with
    | true=>exact hJ _ ⟨m1.eq,m1.lo,m1.hi⟩
    | false =>
     refine Ans.bind (Md hq (lo:=lo + 1) (by omega) m1) fun y hy=>?_;have hy':=hy.le (b:=lo + 1) (by omega);refine Ans.letJ (fun _=>True) (fun v _=>?_) fun J2 hJ2=>?_
     ·cases (v && (((y.1.Local == ([116,101,120,116]:List By8)) || (y.1.Local == ([99,111,109,109,101,110,116]:List By8))) || (y.1.Local == ([110,111,100,101]:List By8)))) with
      | true=>
       refine Ans.bind (If hq (lo:=lo + 1) (by omega) 40 hy') fun w hw=>?_;refine Ans.bind (If hq (lo:=lo + 1 + 1) (by omega) 41 hw) fun v hv=>?_;exact hJ _ ⟨hv.eq,by have:=hv.lo;simp only;omega,hv.hi⟩
      | false=>exact hJ _ ⟨hy'.eq,hy'.lo,hy'.hi⟩
     ·obtain ⟨b,hb,_⟩:=Rs hq (lo:=lo + 1) (by omega) 40 hy'
      cases ((y.1.URI == (⟨([]:List By8),y.1.Local⟩:Aa).URI) && ((y.1.Local == (⟨([]:List By8),y.1.Local⟩:Aa).Local) && true)) with
      | true=>rw [bb,hb,ba];exact hJ2 _ trivial
      | false=>exact hJ2 _ trivial
 ·cases b6 with
  | false=>
   obtain ⟨b,r',hm,m1,m2⟩:=JJ hq (lo:=lo + 1) (by omega) 64 m6;simp only [Bool.not_false,bb];rw [hm,ba];exact hJ _ ⟨m1.eq,m1.lo,m1.hi⟩
  | true=>exact hJ _ ⟨m6.eq,m6.lo,m6.hi⟩
end
theorem PA (q:List By8) (hq:q.length <= 1048576):∃ o,iter (B9 q) FUEL (([]:List Ah),q,(0:Int))=some o /\ (match o with | .inl l=>(∀ st ∈ l,SP q.length st) /\ l.length <= 1048576 | .inr (.inl a)=>0 <= a /\ a <= q.length | .inr (.inr _)=>False):=by
 refine A0 (b:=B9 q) (fun i x=>Rr q i ⟨x.2.1,x.2.2⟩ /\ (∀ st ∈ x.1,SP q.length st) /\ x.1.length=i) _ (q.length + 1) (x0:=(([]:List Ah),q,(0:Int))) ⟨⟨rfl,by simp,by simp⟩,fun c hc=>(by cases hc),rfl⟩ ?_ ?_ (n:=FUEL) (by unfold FUEL;omega)
 ·rintro i ⟨l,s,z⟩ rec hi ⟨hr,hs,hlen⟩;simp only at hr hs hlen;have g1:=hr.lo;have g2:=hr.hi;simp only at g1 g2;have go:∀ J:Unit -> Option (List Ah ⊕ (Int ⊕ (List Ah × Int × Int))),J=(fun _:Unit=>(AF (⟨s,z⟩:Af)).bind fun x=>pnc x (fun x70=>some (.inr (.inl x70.at_))) fun x69=>(app 80 l [x69.1]).bind fun _=>rec ((l ++ [x69.1]),x69.2.q,x69.2.at_)) ->
    (∃ y,J ()=rec y /\ Rr q ((i + 1:Nat):Int) ⟨y.2.1,y.2.2⟩ /\ (∀ st ∈ y.1,SP q.length st) /\ y.1.length=i + 1) \/ ∃ o,J ()=some o /\ (match o with | .inl l=>(∀ st ∈ l,SP q.length st) /\ l.length <= 1048576 | .inr (.inl a)=>0 <= a /\ a <= q.length | .inr (.inr _)=>False):=by
   rintro J rfl;obtain ⟨x,hx,hp⟩:=Zz hq (lo:=(i:Int)) (by omega) hr;simp only;rw [hx,ba]
   cases x with
   | inl r=>exact .inr ⟨.inr (.inl r.at_),rfl,hp.lo,hp.hi⟩
   | inr y =>
    obtain ⟨y1,y2⟩:=hp;refine .inl ⟨(l ++ [y.1],y.2.q,y.2.at_),?_,⟨y1.eq,by have:=y1.lo;simp only;omega,y1.hi⟩,fun st hst=>?_,by simp [hlen]⟩
    ·show ((app 80 l [y.1]).bind fun _=>_)=_;rw [DJ (by simp only [bi,bj];omega) (by simp only [bi,bj];omega),ba]
    ·rcases List.mem_append.1 hst with hst | hst
     ·exact hs st hst
     ·rw [List.mem_singleton.1 hst];exact y2
  have bad:∃ o,(some (.inr (.inl z)):Option (List Ah ⊕ (Int ⊕ (List Ah × Int × Int))))=some o /\ (match o with | .inl l=>(∀ st ∈ l,SP q.length st) /\ l.length <= 1048576 | .inr (.inl a)=>0 <= a /\ a <= q.length | .inr (.inr _)=>False):=⟨_,rfl,by omega,g2⟩
  unfold B9;simp only [letJ]
  have main:∀ (b:Bool) (X:Option (List Ah ⊕ (Int ⊕ (List Ah × Int × Int)))),X=(cond b (cond (decide ((0:Int) < (l.length:Int))) ((idx l (IntKind.wrap .i64 ((l.length:Int) - (1:Int)))).bind fun x65=>cond x65.attr ((Bg (⟨s,z⟩:Af)).bind fun x=>pnc x (fun x68=>some (.inr (.inl z))) fun x67=>(AF (⟨s,z⟩:Af)).bind fun x=>pnc x (fun x70=>some (.inr (.inl x70.at_))) fun x69=>(app 80 l [x69.1]).bind fun _=>rec ((l ++ [x69.1]),x69.2.q,x69.2.at_))
    ((AF (⟨s,z⟩:Af)).bind fun x=>pnc x (fun x70=>some (.inr (.inl x70.at_))) fun x69=>(app 80 l [x69.1]).bind fun _=>rec ((l ++ [x69.1]),x69.2.q,x69.2.at_)))
    (cond false ((Bg (⟨s,z⟩:Af)).bind fun x=>pnc x (fun x68=>some (.inr (.inl z))) fun x67=>(AF (⟨s,z⟩:Af)).bind fun x=>pnc x (fun x70=>some (.inr (.inl x70.at_))) fun x69=>(app 80 l [x69.1]).bind fun _=>rec ((l ++ [x69.1]),x69.2.q,x69.2.at_))
    ((AF (⟨s,z⟩:Af)).bind fun x=>pnc x (fun x70=>some (.inr (.inl x70.at_))) fun x69=>(app 80 l [x69.1]).bind fun _=>rec ((l ++ [x69.1]),x69.2.q,x69.2.at_)))) (some (.inl l)):Option (List Ah ⊕ (Int ⊕ (List Ah × Int × Int)))) -> (∃ y,X=rec y /\ Rr q ((i + 1:Nat):Int) ⟨y.2.1,y.2.2⟩ /\ (∀ st ∈ y.1,SP q.length st) /\ y.1.length=i + 1) \/
    ∃ o,X=some o /\ (match o with | .inl l=>(∀ st ∈ l,SP q.length st) /\ l.length <= 1048576 | .inr (.inl a)=>0 <= a /\ a <= q.length | .inr (.inr _)=>False):=by
   rintro b X rfl
   cases b with
   | false=>exact .inr ⟨_,rfl,hs,by omega⟩
   | true =>
    by_cases hl0:(0:Int) < (l.length:Int)
    ·rw [bf hl0,w64 (by omega) (by omega),show (l.length:Int) - 1=((l.length - 1:Nat):Int) by omega,AC (by omega:l.length - 1 < l.length)];simp only [bb,ba]
     cases l[l.length - 1].attr with
     | true=>exact .inr bad
     | false=>exact go _ rfl
    ·rw [bg hl0];exact go _ rfl
  cases ((l.length:Int) == (0:Int)) with
  | true=>exact main true _ rfl
  | false=>exact main _ _ rfl
 ·rintro ⟨l,s,z⟩ rec ⟨hr,hs,hlen⟩;exfalso;have:=hr.lo;have:=hr.hi;simp only at *;omega

set_option linter.unusedSimpArgs false
set_option linter.unusedVariables false
set_option maxRecDepth 20000
open Go.Lib (decodeL decodeN)
def Rx (q x:List By8) (r r':Rd):Prop:=∃ n:Nat,n <= q.length /\ r=⟨q,(n:Int)⟩ /\ r'=⟨q ++ 91 :: x,(n:Int)⟩
def LX {A B:Type} (o:Option (Rd ⊕ A)) (o':Option (Rd ⊕ B)) (R:A -> B -> Prop):Prop:=∀ a,o=some (.inr a) -> ∃ b,o'=some (.inr b) /\ R a b
theorem LX.bind {A B A' B':Type} {o:Option (Rd ⊕ A)} {o':Option (Rd ⊕ B)} {R:A -> B -> Prop} {k:A -> Option (Rd ⊕ A')} {k':B -> Option (Rd ⊕ B')} {S:A' -> B' -> Prop} {f:Rd -> Rd} {f':Rd -> Option (Rd ⊕ B')}
  (h:LX o o' R) (hk:∀ a b,R a b -> LX (k a) (k' b) S):LX (o.bind fun x=>pnc x (fun r=>some (.inl (f r))) k) (o'.bind fun x=>pnc x f' k') S:=by
 intro a ha
 cases ho:o with
 | none=>rw [ho] at ha;cases ha
 | some v => cases v with
  | inl r=>rw [ho] at ha;cases ha
  | inr v=>
   rw [ho] at ha;obtain ⟨b,hb,hR⟩:=h v ho;rw [hb];exact hk v b hR a ha
theorem LX.ok {A B:Type} {a:A} {b:B} {R:A -> B -> Prop} (h:R a b):LX (some (.inr a)) (some (.inr b)) R:=fun a' ha=>by cases ha;exact ⟨b,rfl,h⟩
theorem LX.bad {A B:Type} {r r':Rd} {k:Unit -> Option (Rd ⊕ A)} {o':Option (Rd ⊕ B)} {R:A -> B -> Prop}:LX ((Bg r).bind fun x=>pnc x (fun _=>some (.inl r')) k) o' R:=fun a ha=>by
 have h:(some (.inl r'):Option (Rd ⊕ A))=some (.inr a):=ha;cases h
theorem LX.mono {A B:Type} {o:Option (Rd ⊕ A)} {o':Option (Rd ⊕ B)} {R S:A -> B -> Prop} (h:LX o o' R) (hk:∀ a b,R a b -> S a b):LX o o' S:=fun a ha=>by
 obtain ⟨b,hb,hR⟩:=h a ha;exact ⟨b,hb,hk a b hR⟩
theorem LX.letJ {V V' A B:Type} {J:V -> Option (Rd ⊕ A)} {J':V' -> Option (Rd ⊕ B)} {k:(V -> Option (Rd ⊕ A)) -> Option (Rd ⊕ A)} {k':(V' -> Option (Rd ⊕ B)) -> Option (Rd ⊕ B)} {S:A -> B -> Prop} (P:V -> V' -> Prop)
  (hJ:∀ v v',P v v' -> LX (J v) (J' v') S) (hk:∀ J J',(∀ v v',P v v' -> LX (J v) (J' v') S) -> LX (k J) (k' J') S):LX (letJ J k) (letJ J' k') S:=hk J J' hJ
section
variable {q x:List By8} (hq:q.length <= 1048576) {r r':Rd}
include hq
omit hq in
omit hq in
theorem TY (Q:List By8) (c:Int):AH ⟨Q,(Q.length:Int)⟩ c=some (false,⟨Q,(Q.length:Int)⟩):=by
 unfold AH BK;simp only [letJ];rw [bg (by omega)];rfl
end

set_option linter.unusedSimpArgs false
set_option linter.unusedVariables false
set_option maxRecDepth 20000
section
variable {q x:List By8} (hq:q.length <= 1048576) (hx:x.length <= 1073741824) {r r':Rd}
include hq hx
end
def CondAt (Q:List By8) (k:Int) (c:Ae):Prop:=(∃ r,BJ ⟨Q,k⟩=some (.inl r)) \/ BJ ⟨Q,k⟩=some (.inr (c,⟨Q,(Q.length:Int)⟩))
def Ake (st:Ah) (c:Ae):Ah:={ st with conds:=st.conds ++ [c] }
def Sx (q x:List By8) (c:Ae) (y y':Ah × Rd):Prop:=
 (y'.1=y.1 /\ Rx q x y.2 y'.2 /\ (y.2.at_ < q.length \/ y.1.attr=true)) \/
 (y.1.attr=false /\ y'.1=Ake y.1 c /\ y.2=⟨q,(q.length:Int)⟩ /\ y'.2=⟨q ++ 91 :: x,((q ++ 91 :: x).length:Int)⟩)
def LY {A B:Type} (o:Option (Rd ⊕ A)) (o':Option (Rd ⊕ B)) (R:A -> B -> Prop):Prop:=∀ a,o=some (.inr a) -> (∃ r,o'=some (.inl r)) \/ ∃ b,o'=some (.inr b) /\ R a b
theorem LX.y {A B:Type} {o:Option (Rd ⊕ A)} {o':Option (Rd ⊕ B)} {R:A -> B -> Prop} (h:LX o o' R):LY o o' R:=fun a ha=>.inr (h a ha)
section
variable {q x:List By8} (hq:q.length <= 1048576) (hx:x.length <= 1048576) {c:Ae} (hc:CondAt (q ++ 91 :: x) ((q.length:Int) + 1) c) {r r':Rd}
include hq hx hc
omit hq hx hc in
theorem LY.letJ {V V' A B:Type} {J:V -> Option (Rd ⊕ A)} {J':V' -> Option (Rd ⊕ B)} {k:(V -> Option (Rd ⊕ A)) -> Option (Rd ⊕ A)} {k':(V' -> Option (Rd ⊕ B)) -> Option (Rd ⊕ B)} {S:A -> B -> Prop} (P:V -> V' -> Prop)
  (hJ:∀ v v',P v v' -> LY (J v) (J' v') S) (hk:∀ J J',(∀ v v',P v v' -> LY (J v) (J' v') S) -> LY (k J) (k' J') S):LY (letJ J k) (letJ J' k') S:=hk J J' hJ
end

set_option linter.unusedSimpArgs false
set_option linter.unusedVariables false
set_option maxRecDepth 20000
def US (l:List Ah):Bool:=match l.getLast? with
 | some st=>st.attr
 | none=>false
theorem TC (l:List Ah) (st:Ah):US (l ++ [st])=st.attr:=by unfold US;rw [List.getLast?_concat]
abbrev RdR:=List Ah ⊕ (Int ⊕ (List Ah × Int × Int))
theorem MO (q:List By8) (rec:List Ah × List By8 × Int -> Option RdR) (l:List Ah) (s:List By8) (z:Int) (hl:l.length <= 1048577) :
  B9 q rec (l,s,z)=cond (l.isEmpty || decide (z < (q.length:Int))) (cond (US l) (some (.inr (.inl z))) ((AF ⟨s,z⟩).bind fun x=>pnc x (fun r=>some (.inr (.inl r.at_))) fun y=>rec (l ++ [y.1],y.2.q,y.2.at_))) (some (.inl l)):=by
 have e0:∀ y:Ah × Af,((app 80 l [y.1]).bind fun _=>rec (l ++ [y.1],y.2.q,y.2.at_))=rec (l ++ [y.1],y.2.q,y.2.at_):=fun y=>by
  rw [DJ (by simp only [bi,bj];omega) (by simp only [bi,bj];omega),ba]
 unfold B9;simp only [letJ,e0]
 cases l with
 | nil=>rfl
 | cons st l =>
  have h1:(((st :: l).length:Int) == 0)=false:=by rw [beq_eq_false_iff_ne];simp only [bi];omega
  have h2:decide ((0:Int) < ((st :: l).length:Int))=true:=bf (by simp only [bi];omega);have h3:idx (st :: l) (IntKind.wrap .i64 (((st :: l).length:Int) - 1))=some ((st :: l).getLast (by simp)):=by
   rw [w64 (by omega) (by omega),show ((st :: l).length:Int) - 1=(((st :: l).length - 1:Nat):Int) by simp,AC (by simp:(st :: l).length - 1 < (st :: l).length),List.getLast_eq_getElem]
  have h4:US (st :: l)=((st :: l).getLast (by simp)).attr:=by unfold US;rw [List.getLast?_eq_some_getLast (by simp)]
  rw [h1,h2,h3,h4];simp only [bc,bb,ba,List.isEmpty_cons,Bool.false_or];cases decide (z < (q.length:Int)) <;> cases ((st :: l).getLast (by simp)).attr <;> rfl
theorem Xx (q:List By8) (hq:q.length <= 1048576) {S:List Ah} {a:Int} (hr:Dj q=some (S,a,0)):iter (B9 q) FUEL (([]:List Ah),q,(0:Int))=some (.inl S):=by
 obtain ⟨o,e,ho⟩:=PA q hq;unfold Dj FO at hr;simp only [letJ] at hr;rw [e,ba] at hr;rcases o with l | (z | y)
 ·simp only at hr;revert hr
  cases decide ((20:Int) < (l.length:Int)) with
  | true=>intro h;exfalso;revert h;simp [rdO]
  | false=>
   intro h;have h:some (l,(0:Int),(0:Int))=some (S,a,0):=h;injection h with h;injection h with h _
   rw [e,h]
 ·exfalso;revert hr;simp [rdO]
 ·exact ho.elim
section
variable {q x:List By8} (hq:q.length <= 1048576) (hx:(q ++ 91 :: x).length <= 1048576) {c:Ae} (hc:CondAt (q ++ 91 :: x) ((q.length:Int) + 1) c)
include hq hx hc
end

set_option linter.unusedSimpArgs false
set_option linter.unusedVariables false
set_option maxRecDepth 20000
section
variable {Q:List By8} (hQ:Q.length <= 8388608)
theorem Oi {k:Nat} {b:By8} {B:List By8} (h:Q.drop k=b :: B):∃ hk:k < Q.length,Q[k]=b /\ Q.drop (k + 1)=B:=by
 have hk:k < Q.length:=by
  apply Classical.byContradiction;intro hn;rw [List.drop_eq_nil_of_le (by omega)] at h;cases h
 refine ⟨hk,?_,?_⟩
 ·rw [List.drop_eq_getElem_cons hk] at h;injection h
 ·rw [List.drop_eq_getElem_cons hk] at h;injection h
theorem Ys {k:Nat} {b:By8} {B:List By8} (h:Q.drop k=b :: B) (c:Int):BK ⟨Q,(k:Int)⟩ c=some ((b.toNat:Int) == c):=by
 obtain ⟨hk,e,_⟩:=Oi h;unfold BK;simp only [letJ];rw [bf (by omega),bb,AC hk,e];rfl
include hQ
theorem Qo {k:Nat} {b:By8} {B:List By8} (h:Q.drop k=b :: B) (c:Int):AH ⟨Q,(k:Int)⟩ c=some (if (b.toNat:Int)=c then (true,⟨Q,((k + 1:Nat):Int)⟩) else (false,⟨Q,(k:Int)⟩)):=by
 obtain ⟨hk,e,_⟩:=Oi h;unfold AH;rw [Ys h c,ba];by_cases hc:(b.toNat:Int)=c
 ·rw [if_pos hc,show ((b.toNat:Int) == c)=true by rw [hc];simp,bb,w64 (x:=(k:Int) + 1) (by omega) (by omega)];rfl
 ·rw [if_neg hc,show ((b.toNat:Int) == c)=false by rw [beq_eq_false_iff_ne];exact hc,bc]
theorem XE {k:Nat} {b:By8} {B:List By8} (h:Q.drop k=b :: B) (c:Int) (hc:(b.toNat:Int)=c):AP ⟨Q,(k:Int)⟩ c=some (.inr ⟨Q,((k + 1:Nat):Int)⟩):=by
 obtain ⟨hk,e,_⟩:=Oi h;unfold AP;simp only [letJ];rw [Ys h c,ba,show ((b.toNat:Int) == c)=true by rw [hc];simp,Bool.not_true,bc,w64 (x:=(k:Int) + 1) (by omega) (by omega)];rfl
omit hQ in
end
def EndB (c:By8):Prop:=c=93 \/ c=123 \/ c=61
def NoEnd (loc:List By8):Prop:=∀ c ∈ loc,c ≠ 93 /\ c ≠ 123 /\ c ≠ 61 /\ c ≠ 126
section
variable {Q:List By8} (hQ:Q.length <= 8388608) {k:Nat} {loc tl:List By8} {z:By8} (h:Q.drop k=loc ++ z :: tl) (hz:EndB z) (hloc:NoEnd loc)
include hQ h hz
include hloc
end
def Ajc (n:Aa) (v:Option (List By8)):Ae:=match v with
 | none=>⟨64,0,n,[],(0,0)⟩
 | some v=>⟨61,0,n,v,(0,0)⟩
def Ad9:Option (List By8) -> List By8
 | none=>[93]
 | some v=>61 :: 39 :: (v ++ [39,93])
def Ack (n:Aa):List By8:=if n.URI=[] then n.Local else n.Local ++ 123 :: (n.URI ++ [125])
def Ai0 (n:Aa) (v:Option (List By8)):List By8:=64 :: (Ack n ++ Ad9 v)
end Go.Proofs.YtmnbjcpikllknaaGreatDoor
