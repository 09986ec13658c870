/- All paths; numbers written in digits; the query of a path. No condition. -/
import Derived.Test.YtmnbjcpikllknaaGreatDoorX4
import Derived.Test.YtmnbjcpikllknaaGreatDoorX2
import Derived.Test.YtmnbjcpikllknaaGreatDoorX3
import Derived.Test.YtmnbjcpikllknaaGreatDoorWk
set_option linter.unusedSimpArgs false
set_option linter.unusedVariables false
set_option maxRecDepth 100000
namespace Go.Proofs.YtmnbjcpikllknaaGreatDoor
open Go.Proofs.Tryz
theorem KY:∀ (l m:List Ac) (i:Nat),DD i (l ++ m)=DD i l ++ DD (i + l.length) m
 | [],m,i=>by simp [DD]
 | x :: l,m,i=>by
  simp only [List.cons_append,DD,KY l m (i + 1),List.append_assoc,bi];rw [show i + 1 + l.length=i + (l.length + 1) by omega]
theorem Rq {l:List Ac} {i:Nat} (h:i < l.length):DD 0 (l.take (i + 1))=DD 0 (l.take i) ++ (D5 l[i]).map ((i:Int) :: ·):=by
 rw [List.take_succ_eq_append_getElem h,KY,List.length_take,show 0 + min i l.length=i by omega];simp [DD]
theorem MU (l:List Ac) (i:Nat):(DD 0 (l.take i)).length <= (DD 0 l).length:=by
 have:=KY (l.take i) (l.drop i) 0;rw [List.take_append_drop] at this;rw [this,bk];omega
theorem PO (x:Ac):D5 x=[] :: DD 0 x.Kids:=by cases x;simp only [D5]
theorem P8:∀ (n:Nat) (x:Ac) (p:List Int),szN x < n -> p ∈ D5 x -> ∃ y,atP x p=some y
 | 0,_,_,h,_=>by omega
 | n + 1, x, p, h, hp => by
  have key:∀ (l:List Ac) (i:Nat) (q:List Int),(∀ k ∈ l,k ∈ x.Kids) -> q ∈ DD i l -> ∃ (j:Nat) (r:List Int) (hj:j < l.length),q=((i + j:Nat):Int) :: r /\ r ∈ D5 l[j]:=by
   intro l
   induction l with
   | nil=>intro i q _ hq;simp [DD] at hq
   | cons k l ih=>
    intro i q hl hq;simp only [DD,List.mem_append,List.mem_map] at hq;rcases hq with ⟨r,hr,rfl⟩ | hq
    ·exact ⟨0,r,by simp,rfl,hr⟩
    ·obtain ⟨j,r,hj,rfl,hr⟩:=ih (i + 1) q (fun k hk=>hl k (List.mem_cons_of_mem _ hk)) hq;exact ⟨j + 1,r,by simpa using hj,by rw [show i + 1 + j=i + (j + 1) by omega],by simpa using hr⟩
  rw [PO,List.mem_cons] at hp;rcases hp with rfl | hp
  ·exact ⟨x,rfl⟩
  ·obtain ⟨j,r,hj,rfl,hr⟩:=key x.Kids 0 p (fun _ h=>h) hp;have hk:=GJ (bm hj);obtain ⟨y,hy⟩:=P8 n x.Kids[j] r (by omega) hr;refine ⟨y,?_⟩;have:=OU [((j:Nat):Int)] r x;rw [List.singleton_append] at this;rw [Nat.zero_add,this];have e1:atP x [((j:Nat):Int)]=some x.Kids[j]:=by
    have h2:=Oo [] x j;rw [List.nil_append] at h2;rw [h2];simp [atP,List.getElem?_eq_getElem hj]
   rw [e1];exact hy
theorem Sn:∀ (n:Nat) (p:Ac),szN p < n -> szN p <= 1048576 -> iter BD n p=some (D5 p)
 | 0,p,h,_=>by omega
 | n + 1, p, h, hl => by
  have hk:=F7 p;have hkl:=DV p;have ih:=fun q=>Sn n q;rw [DS];generalize iter BD n=rc at ih ⊢;unfold BD;simp only [letJ];have hL:=KW p.Kids 0
  obtain ⟨o,e,hR⟩:=A0 (b:=CI p rc) (fun i s=>s=([] :: DD 0 (p.Kids.take i),(i:Int))) (fun o=>o=[] :: DD 0 p.Kids) p.Kids.length (x0:=([([]:List Int)],(0:Int))) (by simp [DD]) (by
   rintro i _ rec hi rfl;left;have h1:=LL (bm hi);have hP:=K8 p.Kids[i];have hT:=MU p.Kids i;refine ⟨_,?_,rfl⟩;unfold CI;simp only [letJ];rw [bf (by omega),bb,AC hi,ba,ih p.Kids[i] (by omega) (by omega),ba]
   obtain ⟨o,e,rfl⟩:=A0 (b:=CC (i:Int) (D5 p.Kids[i])) (fun j s=>s=([] :: DD 0 (p.Kids.take i) ++ ((D5 p.Kids[i]).take j).map ((i:Int) :: ·),(j:Int))) (fun o=>o=[] :: DD 0 (p.Kids.take i) ++ (D5 p.Kids[i]).map ((i:Int) :: ·)) (D5 p.Kids[i]).length (x0:=([] :: DD 0 (p.Kids.take i),(0:Int))) (by simp) (by
    rintro j _ rec hj rfl;left;obtain ⟨y,hy⟩:=P8 _ p.Kids[i] _ (Nat.lt_succ_self _) (bm hj);have hpl:=MW _ _ _ hy;refine ⟨_,?_,rfl⟩;unfold CC;dsimp only;rw [bf (by omega),bb,AC hj,ba,DJ (by simp only [bi,bj];omega) (by simp only [bi,bj];omega),ba,DJ (by simp only [bk,bi,bj,List.length_map,List.length_take];omega) (by simp only [bk,bi,bj,List.length_map,List.length_take];omega),ba,P5 (by omega),List.take_succ_eq_append_getElem hj,List.map_append,<- List.append_assoc]
    rfl) (by
    rintro _ rec rfl;refine ⟨_,?_,rfl⟩;unfold CC;dsimp only
    rw [bg (by omega),bc,List.take_length]) (n:=FUEL) (by unfold FUEL;omega)
   rw [e,ba,w64 (by omega) (by omega),Rq hi]
   simp) (by
   rintro _ rec rfl;refine ⟨_,?_,rfl⟩;unfold CI;dsimp only
   rw [bg (by omega),bc,List.take_length]) (n:=FUEL) (by unfold FUEL;omega)
  rw [e,ba,hR,PO]
theorem YH (d:Ac) (h:szN d <= 1048576):Dm d=some (D5 d):=Sn FUEL d (by unfold FUEL;omega) h
theorem Ux (a b:List Int) (ha:a.length <= 1048576):Bu a b=some (a == b):=by
 unfold Bu;simp only [letJ];by_cases hl:a.length=b.length
 ·rw [show ((a.length:Int) != (b.length:Int))=false by simp [hl],bc]
  have h:=Ke a.length 0 (fun i=>a.getD i 0 == b.getD i 0) (b:=Cd a b) (r:=false) (by omega) (by omega) (fun rec i _ h=>by
   unfold Cd;rw [bf (by omega),bb,AC h,ba,AC (by omega:i < b.length),ba,P5 (by omega)];have e1:a.getD i 0=a[i]:=by simp [List.getD,h]
   have e2:b.getD i 0=b[i]'(by omega):=by simp [List.getD,show i < b.length by omega]
   rw [e1,e2];by_cases he:a[i]=b[i]'(by omega)
   ·rw [he];simp
   ·rw [show (a[i] != b[i]'(by omega))=true by simpa using he,show (a[i] == b[i]'(by omega))=false by rw [beq_eq_false_iff_ne];exact he];rfl) (fun rec i h _=>by
   unfold Cd
   rw [bg (by omega),bc])
  rw [show ((0:Nat):Int)=0 from rfl] at h;rw [h,ba];have:((List.range' 0 (a.length - 0)).all fun i=>a.getD i 0 == b.getD i 0)=(a == b):=by
   rw [Bool.eq_iff_iff,List.all_eq_true,beq_iff_eq];constructor
   ·intro h;refine List.ext_getElem hl fun i h1 h2=>?_;have:=h i (by rw [List.mem_range'_1];omega);simpa [List.getD,h1,h2] using this
   ·rintro rfl i _;simp
  rw [this];cases (a == b) <;> rfl
 ·rw [show ((a.length:Int) != (b.length:Int))=true by rw [bne_iff_ne];omega,bb];symm;congr 1;rw [beq_eq_false_iff_ne];rintro rfl;exact hl rfl
def dg (m:Nat):List By8:=if m < 10 then [UInt8.ofNat (48 + m)] else [UInt8.ofNat (48 + m / 10),UInt8.ofNat (48 + m % 10)]
abbrev Ag2:List By8:=[47,110,111,100,101,40,41,91]
def Ag5 (i:Int):List By8:=Ag2 ++ (dg (i.toNat + 1) ++ [93])
def Ajn (p:List Int):List By8:=p.flatMap Ag5
def Sm (p:List Int):Prop:=∀ i ∈ p,0 <= i /\ i <= 60

set_option linter.unusedSimpArgs false
set_option linter.unusedVariables false
set_option linter.unusedSectionVars false
set_option maxRecDepth 100000
def Acq:List By8:=[110,111,100,101]
def Aki (i:Int):Ah:=⟨false,false,Acq,⟨[],Acq⟩,[⟨91,i + 1,⟨[],[]⟩,[],(0,0)⟩]⟩
section
variable {Q:List By8} (hQ:Q.length <= 8388608)
include hQ
end

set_option linter.unusedSimpArgs false
set_option linter.unusedVariables false
set_option maxRecDepth 100000

set_option linter.unusedSimpArgs false
set_option linter.unusedVariables false
set_option maxRecDepth 20000
theorem Zp {α:Type} {c:Bool} {x y:Option α} (h1:∃ b,x=some b) (h2:∃ b,y=some b):∃ b,cond c x y=some b:=by cases c;exact h2;exact h1
theorem Mp (r:Int):∃ b,Bq r=some b:=by
 unfold Bq;simp only [letJ]
 repeat first | exact ⟨_,rfl⟩ | refine Zp ?_ ?_
theorem Tx (r:Int):∃ b,Bn r=some b:=by
 obtain ⟨b,hb⟩:=Mp r;unfold Bn;rw [hb];exact ⟨_,rfl⟩
theorem S8 (l:List By8) (k:Nat) (hk:k < l.length) (hl:l.length <= 1048576):∃ (r:Int) (n:Nat),Bo l (k:Int)=some (r,(n:Int)) /\ (n=0 \/ (k + n <= l.length /\ ((n=1 /\ r=(l[k].toNat:Int) /\ l[k].toNat < 128) \/ ∀ j (h:j < l.length),k <= j -> j < k + n -> 128 <= l[j].toNat))):=by
 have hb := l[k].toNat_lt;have loop : ∀ (n : Nat) (v : Int), 2 <= n -> n <= 4 -> k + n <= l.length -> ∃ o, iter (As l (k : Int) (n : Int)) FUEL (v, (1 : Int)) = some o /\ (match o with | .inl _ => ∀ j (h : j < l.length), k < j -> j < k + n -> 128 <= l[j].toNat | .inr p => p = (0, 0)) := by
  intro n v h2 h4 hkn;refine A0 (b:=As l (k:Int) (n:Int)) (fun i x=>x.2=((i + 1:Nat):Int) /\ ∀ j (h:j < l.length),k < j -> j < k + i + 1 -> 128 <= l[j].toNat) _ (n - 1) (x0:=(v,(1:Int))) ⟨rfl,fun j h h1 h2=>by omega⟩ ?_ ?_ (n:=FUEL) (by unfold FUEL;omega)
  ·rintro i ⟨w,z⟩ rec hi ⟨hz,hI⟩;simp only at hz;subst hz;have hki:k + (i + 1) < l.length:=by omega
   have hb2:=l[k + (i + 1)].toNat_lt;unfold As;dsimp only;rw [bf (by omega),bb,w64 (x:=(k:Int) + ((i + 1:Nat):Int)) (by omega) (by omega),show (k:Int) + ((i + 1:Nat):Int)=((k + (i + 1):Nat):Int) by omega,AC hki,ba,w64 (x:=(l[k + (i + 1)].toNat:Int)) (by omega) (by omega)];by_cases hc:128 <= l[k + (i + 1)].toNat
   ·cases hd:((decide ((l[k + (i + 1)].toNat:Int) < (128:Int))) || (decide ((191:Int) < (l[k + (i + 1)].toNat:Int)))) with
    | true=>exact .inr ⟨_,rfl,rfl⟩
    | false =>
     refine .inl ⟨_,rfl,?_,fun j h h1 h2=>?_⟩
     ·simp only;rw [w64 (by omega) (by omega)];omega
     ·by_cases hj:j=k + (i + 1)
      ·subst hj;exact hc
      ·exact hI j h h1 (by omega)
   ·rw [bf (by omega),Bool.true_or];exact .inr ⟨_,rfl,rfl⟩
  ·rintro ⟨w,z⟩ rec ⟨hz,hI⟩;simp only at hz;subst hz;unfold As;dsimp only;rw [bg (by omega),bc];exact ⟨_,rfl,fun j h h1 h2=>hI j h h1 (by omega)⟩
 have J:∀ (n:Nat) (v lo:Int),2 <= n -> n <= 4 -> 128 <= l[k].toNat -> ∃ (r:Int) (m:Nat),cond (decide ((l.length:Int) < (IntKind.wrap .i64 ((k:Int) + (n:Int))))) (some ((0:Int),(0:Int)))
   ((iter (As l (k:Int) (n:Int)) FUEL (v,(1:Int))).bind fun o=>match o with
    | .inl o1=>cond (((decide (o1 < lo)) || (decide ((1114111:Int) < o1))) || ((decide ((55296:Int) <= o1)) && (decide (o1 <= (57343:Int))))) (some ((0:Int),(0:Int))) (some (o1,(n:Int)))
    | .inr o1=>some o1)=some (r,(m:Int)) /\ (m=0 \/ (k + m <= l.length /\ ((m=1 /\ r=(l[k].toNat:Int) /\ l[k].toNat < 128) \/ ∀ j (h:j < l.length),k <= j -> j < k + m -> 128 <= l[j].toNat))):=by
  intro n v lo h2 h4 h128;rw [w64 (by omega) (by omega)];by_cases hn:l.length < k + n
  ·rw [bf (by omega),bb];exact ⟨0,0,rfl,.inl rfl⟩
  ·rw [bg (by omega),bc];obtain ⟨o,e,ho⟩:=loop n v h2 h4 (by omega);rw [e,ba]
   cases o with
   | inr p=>simp only at ho ⊢;rw [ho];exact ⟨0,0,rfl,.inl rfl⟩
   | inl w =>
    simp only at ho ⊢
    cases (((decide (w < lo)) || (decide ((1114111:Int) < w))) || ((decide ((55296:Int) <= w)) && (decide (w <= (57343:Int))))) with
    | true=>exact ⟨0,0,rfl,.inl rfl⟩
    | false=>
     refine ⟨w,n,rfl,.inr ⟨by omega,.inr fun j h h1 h2=>?_⟩⟩;by_cases hj:j=k
     ·subst hj;exact h128
     ·exact ho j h (by omega) h2
 unfold Bo;simp only [letJ];rw [AC hk,ba,w64 (x:=(l[k].toNat:Int)) (by omega) (by omega)];by_cases h1:l[k].toNat < 128
 ·rw [bf (by omega),bb];exact ⟨_,1,rfl,.inr ⟨by omega,.inl ⟨rfl,rfl,h1⟩⟩⟩
 ·rw [bg (by omega),bc]
  cases ((decide ((192:Int) <= (l[k].toNat:Int))) && (decide ((l[k].toNat:Int) < (224:Int)))) with
  | true=>exact J 2 _ 128 (by omega) (by omega) (by omega)
  | false =>
   rw [bc]
   cases ((decide ((224:Int) <= (l[k].toNat:Int))) && (decide ((l[k].toNat:Int) < (240:Int)))) with
   | true=>exact J 3 _ 2048 (by omega) (by omega) (by omega)
   | false=>
    rw [bc]
    cases ((decide ((240:Int) <= (l[k].toNat:Int))) && (decide ((l[k].toNat:Int) < (248:Int)))) with
    | true=>exact J 4 _ 65536 (by omega) (by omega) (by omega)
    | false=>exact ⟨0,0,rfl,.inl rfl⟩
def OkB (c:By8):Prop:=c ≠ 93 /\ c ≠ 123 /\ c ≠ 61 /\ c ≠ 126

set_option linter.unusedSimpArgs false
set_option linter.unusedVariables false
set_option maxRecDepth 100000
mutual
def FZ:List Int -> Ac -> List Spt
 | q,⟨k,nm,a,ks,t⟩=>⟨q,⟨k,nm,a,ks,t⟩⟩ :: Qx q 0 ks
def Qx:List Int -> Nat -> List Ac -> List Spt
 | _,_,[]=>[]
 | q,i,x :: l=>FZ (q ++ [(i:Int)]) x ++ Qx q (i + 1) l
end
theorem ZY (q:List Int) (x:Ac):FZ q x=⟨q,x⟩ :: Qx q 0 x.Kids:=by cases x;simp only [FZ]
mutual
theorem G5:∀ (q:List Int) (x:Ac),(FZ q x).map (·.node)=Bs x /\ (FZ q x).map (·.path)=(D5 x).map (q ++ ·)
 | q,⟨k,nm,a,ks,t⟩=>by
  obtain ⟨h1,h2⟩:=R8 q 0 ks;simp only [FZ,Bs,D5,List.map_cons,h1,h2,List.append_nil];exact ⟨trivial,trivial⟩
theorem R8:∀ (q:List Int) (i:Nat) (l:List Ac),(Qx q i l).map (·.node)=Et l /\ (Qx q i l).map (·.path)=(DD i l).map (q ++ ·)
 | q,i,[]=>by simp [Qx,Et,DD]
 | q,i,x :: l=>by
  obtain ⟨h1,h2⟩:=G5 (q ++ [(i:Int)]) x;obtain ⟨h3,h4⟩:=R8 q (i + 1) l;simp only [Qx,Et,DD,List.map_append,h1,h2,h3,h4,List.map_map,true_and];congr 1;apply List.map_congr_left;intro r _;simp
end
theorem Oq:∀ (q a b:List Int),HW (q ++ a) (q ++ b)=HW a b
 | [],a,b=>rfl
 | x :: q,a,b=>by
  show (if Iy x x ≠ 0 then Iy x x else HW (q ++ a) (q ++ b))=_;rw [LP.refl,if_neg (by simp),Oq q a b]
theorem Mc {q:List Int} {s:Spt}:∀ {l:List Ac} {i:Nat},s ∈ Qx q i l -> ∃ (j:Nat) (r:List Int),i <= j /\ s.path=q ++ (j:Int) :: r
 | [],i,h=>by simp [Qx] at h
 | x :: l,i,h=>by
  simp only [Qx,List.mem_append] at h;rcases h with h | h
  ·have hm:s.path ∈ (FZ (q ++ [(i:Int)]) x).map (·.path):=List.mem_map.2 ⟨s,h,rfl⟩;rw [(G5 _ _).2] at hm;obtain ⟨r,_,e⟩:=List.mem_map.1 hm;exact ⟨i,r,Nat.le_refl _,by rw [<- e];simp⟩
  ·obtain ⟨j,r,hj,e⟩:=Mc h;exact ⟨j,r,by omega,e⟩
mutual
theorem R4:∀ (q:List Int) (x:Ac),Srt (FZ q x)
 | q,⟨k,nm,a,ks,t⟩=>by
  simp only [FZ];refine List.pairwise_cons.2 ⟨fun s hs=>?_,RP q 0 ks⟩;obtain ⟨j,r,_,e⟩:=Mc hs;show HW q s.path < 0;rw [e];have:=Oq q [] ((j:Int) :: r);rw [List.append_nil] at this;rw [this];show (-1:Int) < 0;omega
theorem RP:∀ (q:List Int) (i:Nat) (l:List Ac),Srt (Qx q i l)
 | q,i,[]=>by simp only [Qx];exact List.Pairwise.nil
 | q,i,x :: l=>by
  simp only [Qx];refine List.pairwise_append.2 ⟨R4 _ x,RP q (i + 1) l,fun s hs t ht=>?_⟩;have hm:s.path ∈ (FZ (q ++ [(i:Int)]) x).map (·.path):=List.mem_map.2 ⟨s,hs,rfl⟩;rw [(G5 _ _).2] at hm;obtain ⟨r,_,e⟩:=List.mem_map.1 hm;obtain ⟨j,r2,hj,e2⟩:=Mc ht;show HW s.path t.path < 0;rw [<- e,e2,List.append_assoc,Oq];show (if Iy (i:Int) (j:Int) ≠ 0 then Iy (i:Int) (j:Int) else _) < 0;have:Iy (i:Int) (j:Int)=-1:=by unfold Iy;rw [if_pos (by omega)]
  rw [this,if_pos (by omega)];omega
end
theorem Ko (x:Ac) (i:Nat) (r:List Int):atP x ((i:Int) :: r)=(x.Kids[i]?).bind fun z=>atP z r:=by
 simp only [atP];by_cases h:i < x.Kids.length
 ·rw [if_neg (by omega),Int.toNat_natCast]
 ·rw [if_pos (by omega),List.getElem?_eq_none (by omega)];rfl
theorem KB:∀ (n:Nat) (q:List Int) (x:Ac) (s:Spt),szN x < n -> (s ∈ FZ q x ↔ ∃ r,s.path=q ++ r /\ atP x r=some s.node)
 | 0,_,_,_,h=>by omega
 | n + 1, q, x, s, h => by
  have key:∀ (l:List Ac) (i:Nat),(∀ k ∈ l,k ∈ x.Kids) -> (s ∈ Qx q i l ↔ ∃ (j:Nat) (r:List Int) (z:Ac),l[j]?=some z /\ s.path=q ++ ((i + j:Nat):Int) :: r /\ atP z r=some s.node):=by
   intro l
   induction l with
   | nil=>intro i _;simp [Qx]
   | cons k l ih =>
    intro i hl;have hk:=GJ (hl k List.mem_cons_self);simp only [Qx,List.mem_append];rw [KB n _ k s (by omega),ih (i + 1) (fun k hk=>hl k (List.mem_cons_of_mem _ hk))];constructor
    ·rintro (⟨r,h1,h2⟩ | ⟨j,r,z,h1,h2,h3⟩)
     ·exact ⟨0,r,k,rfl,by rw [h1];simp,h2⟩
     ·exact ⟨j + 1,r,z,by simpa using h1,by rw [h2,show i + 1 + j=i + (j + 1) by omega],h3⟩
    ·rintro ⟨j,r,z,h1,h2,h3⟩
     cases j with
     | zero=>
      simp only [List.getElem?_cons_zero,Option.some.injEq] at h1;subst h1;exact .inl ⟨r,by rw [h2];simp,h3⟩
     | succ j=>exact .inr ⟨j,r,z,by simpa using h1,by rw [h2,show i + 1 + j=i + (j + 1) by omega],h3⟩
  rw [ZY,List.mem_cons,key x.Kids 0 (fun _ h=>h)];constructor
  ·rintro (rfl | ⟨j,r,z,h1,h2,h3⟩)
   ·exact ⟨[],by simp,rfl⟩
   ·refine ⟨((j:Nat):Int) :: r,by rw [h2,Nat.zero_add],?_⟩;rw [Ko,h1,ba,h3]
  ·rintro ⟨r,h1,h2⟩
   cases r with
   | nil=>
    left;simp only [atP,Option.some.injEq] at h2;obtain ⟨sp,sn⟩:=s;simp only [List.append_nil] at h1 h2;rw [h1,h2]
   | cons i r =>
    right;have hi:0 <= i:=by
     simp only [atP] at h2;split at h2
     ·cases h2
     ·omega
    obtain ⟨j,rfl⟩:∃ j:Nat,i=(j:Int):=⟨i.toNat,by omega⟩
    rw [Ko] at h2;obtain ⟨z,hz,h3⟩:=Option.bind_eq_some_iff.1 h2;exact ⟨j,r,z,hz,by rw [h1,Nat.zero_add],h3⟩
theorem Sl:∀ {a b:List Spt},Srt a -> Srt b -> (∀ x,x ∈ a ↔ x ∈ b) -> a=b
 | [],[],_,_,_=>rfl
 | [],y :: b,_,_,h=>by have:=(h y).2 List.mem_cons_self;cases this
 | x :: a,[],_,_,h=>by have:=(h x).1 List.mem_cons_self;cases this
 | x :: a, y :: b, ha, hb, h => by
  obtain ⟨a1,a2⟩:=List.pairwise_cons.1 ha;obtain ⟨b1,b2⟩:=List.pairwise_cons.1 hb;have irr:∀ p:List Int,¬ HW p p < 0:=fun p hp=>by rw [Jo.refl] at hp;omega
  have hxy:x=y:=by
   rcases List.mem_cons.1 ((h x).1 List.mem_cons_self) with e | h1
   ·exact e
   ·rcases List.mem_cons.1 ((h y).2 List.mem_cons_self) with e | h2
    ·exact e.symm
    ·have h3:=b1 x h1;have h4:=a1 y h2;have:=Jo.anti x.path y.path;omega
  subst hxy;rw [Sl a2 b2 fun z=>⟨fun hz=>?_,fun hz=>?_⟩]
  ·rcases List.mem_cons.1 ((h z).1 (List.mem_cons_of_mem _ hz)) with e | h1
   ·subst e;exact absurd (a1 _ hz) (irr _)
   ·exact h1
  ·rcases List.mem_cons.1 ((h z).2 (List.mem_cons_of_mem _ hz)) with e | h1
   ·subst e;exact absurd (b1 _ hz) (irr _)
   ·exact h1
def stA:Ah:=⟨true,false,[42],⟨[],[]⟩,[]⟩
theorem Xe (k:Ac):Q9 stA k=(k.Kind == (2:Int)):=by
 have h:=PU stA k;have h2:CO stA k=some (k.Kind == (2:Int)):=rfl;rw [h2] at h;exact (Option.some.inj h).symm
theorem Pa (s x:Spt):x ∈ Fs s ↔ ∃ (j:Nat) (z:Ac),s.node.Kids[j]?=some z /\ x=⟨s.path ++ [(j:Int)],z⟩:=by
 constructor
 ·intro h;obtain ⟨j,hj,e⟩:=EQ h;exact ⟨j,_,List.getElem?_eq_getElem hj,by rw [e,Nat.zero_add]⟩
 ·rintro ⟨j,z,h1,rfl⟩;obtain ⟨hj,rfl⟩:=List.getElem?_eq_some_iff.1 h1;have hg:=Mm s.path s.node.Kids 0 j hj;rw [Nat.zero_add] at hg;exact List.mem_of_getElem? hg
theorem M5:∀ (n:Nat) (s x:Spt),szN s.node < n -> (x ∈ Gk stA n s ↔ ∃ r,r ≠ [] /\ x.path=s.path ++ r /\ atP s.node r=some x.node /\ x.node.Kind=2)
 | 0,_,_,h=>by omega
 | n + 1, s, x, h => by
  show x ∈ ofP stA s ++ (Fs s).flatMap (Gk stA n) ↔ _;have e:ofP stA s=(Fs s).filter fun k=>(k.node.Kind == (2:Int)):=by
   unfold ofP;show (Fs s).filter (fun k=>Q9 stA k.node)=_;exact List.filter_congr fun k _=>Xe k.node
  rw [List.mem_append,e,List.mem_filter,List.mem_flatMap,Pa];constructor
  ·rintro (⟨⟨j,z,h1,rfl⟩,h2⟩ | ⟨k,hk,hx⟩)
   ·refine ⟨[(j:Int)],by simp,rfl,?_,by simpa using h2⟩;rw [Ko,h1];rfl
   ·obtain ⟨j,z,h1,rfl⟩:=(Pa s k).1 hk;have hz:=GJ (List.mem_of_getElem? h1);obtain ⟨r,hr,h2,h3,h4⟩:=(M5 n _ x (by simp only;omega)).1 hx;refine ⟨(j:Int) :: r,by simp,by rw [h2];simp,?_,h4⟩;rw [Ko,h1];exact h3
  ·rintro ⟨r,hr,h1,h2,h3⟩
   cases r with
   | nil=>exact absurd rfl hr
   | cons i r =>
    have hi:0 <= i:=by
     simp only [atP] at h2;split at h2
     ·cases h2
     ·omega
    obtain ⟨j,rfl⟩:∃ j:Nat,i=(j:Int):=⟨i.toNat,by omega⟩
    rw [Ko] at h2;obtain ⟨z,hz,h4⟩:=Option.bind_eq_some_iff.1 h2
    cases r with
    | nil=>
     left;simp only [atP,Option.some.injEq] at h4;refine ⟨⟨j,z,hz,?_⟩,by simpa using h3⟩;obtain ⟨xp,xn⟩:=x;simp only at h1 h4;rw [h1,h4]
    | cons i2 r=>
     right;have hsz:=GJ (List.mem_of_getElem? hz);refine ⟨⟨s.path ++ [(j:Int)],z⟩,(Pa s _).2 ⟨j,z,hz,rfl⟩,(M5 n _ x (by simp only;omega)).2 ⟨i2 :: r,by simp,by rw [h1];simp,h4,h3⟩⟩
theorem Wb {d:Ac} (hd:szN d <= 1048576):Od stA [⟨[],d⟩]=(FZ [] d).filter fun s=>!(s.path == []) && (s.node.Kind == (2:Int)):=by
 have hI:InvS d [⟨[],d⟩]:=⟨List.pairwise_singleton _ _,fun y hy=>by rw [List.mem_singleton.1 hy];rfl⟩
 refine Sl (RG hd stA hI).2.s ((R4 [] d).sublist List.filter_sublist) fun x=>?_;unfold Od;rw [(KD _).mem_iff,List.mem_filter,KB _ [] d x (Nat.lt_succ_self _)];have e1:stL stA [⟨[],d⟩]=[⟨[],d⟩]:=rfl;have e2:stF stA=Gk stA FUEL:=rfl;rw [e1,e2,List.flatMap_cons,List.flatMap_nil,List.append_nil,M5 FUEL _ x (by unfold FUEL;simp only;omega)];simp only [List.nil_append];constructor
 ·rintro ⟨r,hr,h1,h2,h3⟩;refine ⟨⟨r,h1,h2⟩,?_⟩;rw [h1,h3]
  cases r with
  | nil=>exact absurd rfl hr
  | cons a r=>rfl
 ·rintro ⟨⟨r,h1,h2⟩,h3⟩;simp only [Bool.and_eq_true,Bool.not_eq_true',beq_eq_false_iff_ne,beq_iff_eq] at h3;exact ⟨r,by rw [<- h1];exact h3.1,h1,h2,h3.2⟩

set_option linter.unusedSimpArgs false
set_option linter.unusedVariables false
set_option linter.unusedSectionVars false
set_option maxRecDepth 100000
theorem Nr (l : List By8) (hl : l.length <= 1048576) (h : K9 l = true) : ∀ c ∈ l, c ≠ 42 /\ c ≠ 123 := by
 have hN:=Rj l;rw [h] at hN;unfold BT at hN;revert hN
 cases (((l.length:Int) == (0:Int)) || (decide ((100:Int) < (l.length:Int)))) with
 | true=>intro hN;cases hN
 | false =>
  rw [bc];simp only [letJ];have p42:Bn 42=some false:=rfl;have p123:Bn 123=some false:=rfl
  obtain ⟨o, e, ho⟩ := A0 (b := BB l) (fun i x => ∃ a : Nat, i <= a /\ a <= l.length /\ x = (a : Int) /\ ∀ j (h : j < l.length), j < a -> l[j] ≠ 42 /\ l[j] ≠ 123) (fun o => match o with | .inl _ => ∀ c ∈ l, c ≠ 42 /\ c ≠ 123 | .inr b => b = false) l.length (x0 := (0 : Int)) ⟨0, Nat.le_refl _, Nat.zero_le _, rfl, fun j h h2 => by omega⟩ (by
   rintro i _ rec hi ⟨a,h1,h2,rfl,h3⟩;unfold BB;simp only [letJ];by_cases ha:a < l.length
   ·obtain ⟨r,n,hr,hn⟩:=S8 l a ha hl;obtain ⟨b1,hb1⟩:=Tx r;obtain ⟨b2,hb2⟩:=Mp r;rw [bf (by omega),bb,hr,ba,hb1,hb2];simp only [ba];by_cases hn0:n=0
    ·subst hn0;exact .inr ⟨_,rfl,rfl⟩
    ·rcases hn with h | ⟨hle,hn⟩
     ·exact absurd h hn0
     ·rw [show ((n : Int) == (0 : Int)) = false by rw [beq_eq_false_iff_ne]; omega, bc]
      cases b1 with
      | false=>exact .inr ⟨_,rfl,rfl⟩
      | true =>
       have hg:∃ y:Int,rec (IntKind.wrap .i64 ((a:Int) + (n:Int)))=rec y /\ ∃ a:Nat,i + 1 <= a /\ a <= l.length /\ y=(a:Int) /\ ∀ j (h:j < l.length),j < a -> l[j] ≠ 42 /\ l[j] ≠ 123:=by
        refine ⟨_,rfl,a + n,by omega,hle,by rw [w64 (by omega) (by omega)];omega,fun j h h4=>?_⟩;by_cases hj:j < a
        ·exact h3 j h hj
        ·rcases hn with ⟨hn1,hr1,hr2⟩ | hn
         ·obtain rfl:j=a:=by omega
          rw [hr1] at hb1;constructor
          ·intro e;rw [e] at hb1;have:=p42.symm.trans hb1;cases this
          ·intro e;rw [e] at hb1;have:=p123.symm.trans hb1;cases this
         ·have h128:=hn j h (by omega) h4;constructor <;> (intro e;rw [e] at h128;revert h128;decide)
       cases ((a:Int) == (0:Int)) <;> cases b2 <;> first | exact .inl hg | exact .inr ⟨_,rfl,rfl⟩
   ·rw [bg (by omega),bc];refine .inr ⟨_,rfl,fun c hc=>?_⟩;obtain ⟨j,hj,rfl⟩:=List.getElem_of_mem hc
    exact h3 j hj (by omega)) (by
   rintro _ rec ⟨a,h1,h2,rfl,h3⟩;unfold BB;rw [bg (by omega),bc];refine ⟨_,rfl,fun c hc=>?_⟩;obtain ⟨j,hj,rfl⟩:=List.getElem_of_mem hc
   exact h3 j hj (by omega)) (n:=FUEL) (by unfold FUEL;omega)
  rw [e,ba]
  cases o with
  | inl _=>intro _;exact ho
  | inr b=>intro hN;simp only at ho;rw [ho] at hN;cases hN
theorem Xp {d:Ac} (hd:szN d <= 1048576) (h:Cv d=some 0):d.Kind=1 /\ (Bs d).all Ql=true /\ (Bs d).all nmP=true:=by
 by_cases h1:d.Kind=1
 ·obtain ⟨r,e1,_⟩:=Qn d hd;rw [VJ hd h1 e1] at h;injection h with h
  unfold Aci at h;rw [O8 h1]
  cases hK:(Bs d).all Jy with
  | false=>rw [hK] at h;simp at h
  | true =>
   cases hN:(Bs d).all nmP with
   | true=>exact ⟨h1,rfl,rfl⟩
   | false=>
    rw [hK,hN] at h;simp only [reduceCtorEq,if_false,if_true] at h;split at h
    ·omega
    ·split at h <;> omega
 ·unfold Cv at h;rw [OA d hd,show (d.Kind != (1:Int))=true by simpa using h1] at h;have h:some (33:Int)=some 0:=h;injection h with h
  omega
section
variable {Q:List By8} (hq:Q.length <= 1048576)
include hq
theorem Ws {k:Nat} (hk:k <= Q.length) {y:Aa × Rd} (h:Bm ⟨Q,(k:Int)⟩=some (.inr y)):∃ z:Nat,k < z /\ z <= Q.length /\ y.2=⟨Q,(z:Int)⟩ /\ (y.1=⟨[],(Q.drop k).take (z - k)⟩ \/ 123 ∈ Q.drop k):=by
 obtain ⟨x,hx,hR⟩:=Md hq (lo:=(k:Int)) (by omega) (r:=⟨Q,(k:Int)⟩) ⟨rfl,Int.le_refl _,by simp only;omega⟩;rw [h] at hx;injection hx with hx
 subst hx;obtain ⟨e1,e2,e3⟩:=hR;obtain ⟨y1,yq,yz⟩:=y;simp only at e1 e2 e3;subst e1;obtain ⟨z,rfl⟩:∃ z:Nat,yz=(z:Int):=⟨yz.toNat,by omega⟩
 refine ⟨z,by omega,by omega,rfl,?_⟩;unfold Bm at h;simp only [letJ] at h
 obtain ⟨o,e,hR⟩:=A0 (b:=BR ⟨yq,(k:Int)⟩) (fun i x=>∃ a:Nat,x=(yq,(a:Int)) /\ k <= a /\ a <= yq.length /\ i <= a) (fun o=>∃ a:Nat,o=(yq,(a:Int)) /\ k <= a /\ a <= yq.length) yq.length (x0:=(yq,(k:Int))) ⟨k,rfl,Nat.le_refl _,hk,Nat.zero_le _⟩ (by
  rintro i _ rec hi ⟨a,rfl,g1,g2,g3⟩;unfold BR;simp only [letJ];by_cases hl:a < yq.length
  ·obtain ⟨rn,w,hd,w1,w2⟩:=Aeq (yq.drop a) (by intro h;have:=congrArg List.length h;simp at this;omega);rw [List.length_drop] at w2;obtain ⟨b1,hb1⟩:=JU (rn:Int);obtain ⟨b2,hb2⟩:=G4 (rn:Int);rw [bf (by omega),bb,Gv (by omega),ba,hd,ba,w64 (by omega) (by omega),hb1,hb2];simp only [ba];have hs:∃ o,(some (yq,(a:Int)):Option (List By8 × Int))=some o /\ ∃ a':Nat,o=(yq,(a':Int)) /\ k <= a' /\ a' <= yq.length:=⟨_,rfl,a,rfl,g1,g2⟩
   have hg:∃ y:List By8 × Int,rec (yq,(a:Int) + (w:Int))=rec y /\ ∃ a':Nat,y=(yq,(a':Int)) /\ k <= a' /\ a' <= yq.length /\ i + 1 <= a':=⟨_,rfl,a + w,by simp,by omega,by omega,by omega⟩
   cases (((rn:Int) == (65533:Int)) && (decide ((w:Int) < (3:Int)))) <;> cases b1 <;> cases b2 <;> cases ((a:Int) == (k:Int)) <;> first | exact .inr hs | exact .inl hg
  ·rw [bg (by omega),bc]
   exact .inr ⟨_,rfl,a,rfl,g1,g2⟩) (by
  rintro _ rec ⟨a,rfl,g1,g2,g3⟩;unfold BR;dsimp only;rw [bg (by omega),bc]
  exact ⟨_,rfl,a,rfl,g1,g2⟩) (n:=FUEL) (by unfold FUEL;omega)
 rw [e,ba] at h;obtain ⟨a,rfl,g1,g2⟩:=hR;simp only at h;revert h
 cases ((a:Int) == (k:Int)) with
 | true=>
  intro h;have h:(some (.inl ⟨yq,(a:Int)⟩):Option (Rd ⊕ (Aa × Rd)))=some (.inr (y1,⟨yq,(z:Int)⟩)):=h;cases h
 | false =>
  rw [bc];have hs:slc yq (k:Int) (a:Int)=some ((yq.drop k).take (a - k)):=by unfold slc;rw [if_pos (by omega)];simp
  rw [hs,ba];by_cases ha:a < yq.length
  ·have hda:yq.drop a=yq[a] :: yq.drop (a + 1):=List.drop_eq_getElem_cons ha;rw [Qo (by omega:yq.length <= 8388608) hda,ba];by_cases hb:(yq[a].toNat:Int)=123
   ·intro _;right;have hb':yq[a]=123:=by
     apply UInt8.toNat_inj.1;show yq[a].toNat=123;omega
    have:yq[a] ∈ yq.drop k:=by
     have h1:yq.drop a=(yq.drop k).drop (a - k):=by rw [List.drop_drop,show k + (a - k)=a by omega]
     have h2:yq[a] ∈ yq.drop a:=by rw [hda];exact List.mem_cons_self
     rw [h1] at h2;exact List.mem_of_mem_drop h2
    rw [hb'] at this;exact this
   ·rw [if_neg hb];intro h;left;have h:(some (.inr ((⟨[],(yq.drop k).take (a - k)⟩:Aa),(⟨yq,(a:Int)⟩:Rd))):Option (Rd ⊕ (Aa × Rd)))=some (.inr (y1,⟨yq,(z:Int)⟩)):=h;injection h with h;injection h with h;injection h with h1 h2;injection h2 with h2 h3
    have:a=z:=by omega
    rw [<- h1,this]
  ·have:a=yq.length:=by omega
   subst this;rw [TY,ba];intro h;left;have h:(some (.inr ((⟨[],(yq.drop k).take (yq.length - k)⟩:Aa),(⟨yq,(yq.length:Int)⟩:Rd))):Option (Rd ⊕ (Aa × Rd)))=some (.inr (y1,⟨yq,(z:Int)⟩)):=h;injection h with h;injection h with h;injection h with h1 h2;injection h2 with h2 h3
   have:yq.length=z:=by omega
   rw [<- h1,this]
end
abbrev DX:List By8:=[47,47,42,47,64]
def AtS (loc:List By8) (st:Ah):Prop:=st.attr=true /\ st.conds=[] /\ ((st.test=[42] /\ 42 ∈ loc) \/ (st.test=[] /\ st.name=⟨[],loc⟩) \/ 123 ∈ loc)
section
variable (loc:List By8) (hl:(DX ++ loc).length <= 1048576)
include hl
theorem Te:AF ⟨DX ++ loc,(0:Int)⟩=some (.inr (stA,⟨DX ++ loc,(3:Int)⟩)):=by
 have hQ:(DX ++ loc).length <= 8388608:=by omega
 have h0:(DX ++ loc).drop 0=47 :: (47 :: 42 :: 47 :: 64 :: loc):=rfl;have h1:(DX ++ loc).drop 1=47 :: (42 :: 47 :: 64 :: loc):=rfl;have h2:(DX ++ loc).drop 2=42 :: (47 :: 64 :: loc):=rfl;have h3:(DX ++ loc).drop 3=47 :: (64 :: loc):=rfl;have hloop:iter Bt FUEL (DX ++ loc,((3:Nat):Int),true,false,([42]:List By8),([]:List By8),([]:List By8),([]:List Ae))=some (.inl (true,false,[42],[],[],[],DX ++ loc,((3:Nat):Int))):=by
  obtain ⟨f,hf⟩:∃ f,FUEL=f + 1:=⟨FUEL - 1,by unfold FUEL;rfl⟩
  rw [hf,DS]
  conv=>lhs;unfold Bt
  dsimp only;rw [Qo hQ h3,ba,if_neg (by decide)];rfl
 unfold AF;rw [show (0:Int)=((0:Nat):Int) from rfl,XE hQ h0 47 (by decide),ba];show ((AH ⟨DX ++ loc,((1:Nat):Int)⟩ 47).bind _)=_;rw [Qo hQ h1,ba,if_pos (by decide)];simp only [letJ,Bool.not_true,bc];show ((AH ⟨DX ++ loc,((2:Nat):Int)⟩ 42).bind _)=_;rw [Qo hQ h2,ba,if_pos (by decide)];simp only [bb];show ((iter Bt FUEL (DX ++ loc,((3:Nat):Int),true,false,([42]:List By8),([]:List By8),([]:List By8),([]:List Ae))).bind _)=_;rw [hloop,ba];rfl
theorem Ti:(∃ r,AF ⟨DX ++ loc,(3:Int)⟩=some (.inl r)) \/ ∃ (st:Ah) (z:Nat),AF ⟨DX ++ loc,(3:Int)⟩=some (.inr (st,⟨DX ++ loc,(z:Int)⟩)) /\ z <= (DX ++ loc).length /\ st.attr=true /\ (z=(DX ++ loc).length -> AtS loc st):=by
 have hQ:(DX ++ loc).length <= 8388608:=by omega
 have hlen:(DX ++ loc).length=loc.length + 5:=by simp
 have h3:(DX ++ loc).drop 3=47 :: (64 :: loc):=rfl;have h4:(DX ++ loc).drop 4=64 :: loc:=rfl;have h5:(DX ++ loc).drop 5=loc:=rfl;unfold AF;rw [show (3:Int)=((3:Nat):Int) from rfl,XE hQ h3 47 (by decide),ba];simp only [pnc];rw [show ((3 + 1:Nat):Int)=((4:Nat):Int) from rfl,Qo hQ h4,ba,if_neg (by decide)];simp only [letJ,Bool.not_false,bb];rw [Qo hQ h4,ba,if_pos (by decide)];simp only [bb];rw [show ((4 + 1:Nat):Int)=((5:Nat):Int) from rfl];by_cases hs:∃ t,loc=42 :: t
 ·obtain ⟨t,rfl⟩:=hs;rw [Qo hQ h5,ba,if_pos (by decide)];right;exact ⟨⟨false,true,[42],⟨[],[]⟩,[]⟩,6,rfl,by rw [hlen,bi];omega,rfl,fun _=>⟨rfl,rfl,.inl ⟨rfl,List.mem_cons_self⟩⟩⟩
 ·have hmay:AH ⟨DX ++ loc,((5:Nat):Int)⟩ 42=some (false,⟨DX ++ loc,((5:Nat):Int)⟩):=by
   cases hL:loc with
   | nil=>exact TY (DX ++ []) 42
   | cons c t=>
    subst hL;rw [Qo hQ h5,if_neg ?_];intro hc;exact hs ⟨t,by rw [show c=42 from UInt8.toNat_inj.1 (by show c.toNat=42;omega)]⟩
  rw [hmay,ba];simp only [bc];obtain ⟨x,hx,hR⟩:=Md hl (lo:=((5:Nat):Int)) (by omega) (r:=⟨DX ++ loc,((5:Nat):Int)⟩) ⟨rfl,Int.le_refl _,by simp only;omega⟩
  cases x with
  | inl r=>left;rw [hx];exact ⟨_,rfl⟩
  | inr y=>
   obtain ⟨z,z1,z2,e,hn⟩:=Ws hl (by omega:5 <= (DX ++ loc).length) hx;right;obtain ⟨nm,r⟩:=y;simp only at e hn;subst e;rw [hx];refine ⟨⟨false,true,[],nm,[]⟩,z,rfl,z2,rfl,fun hz=>⟨rfl,rfl,?_⟩⟩;rw [h5] at hn;rcases hn with hn | hn
   ·right;left;refine ⟨rfl,?_⟩;show nm=_;rw [hn,hz,hlen,show loc.length + 5 - 5=loc.length by omega,List.take_length]
   ·exact .inr (.inr hn)
theorem Uw {S:List Ah} {a:Int} (hr:Dj (DX ++ loc)=some (S,a,0)):∃ st,S=[stA,st] /\ AtS loc st:=by
 have hlen:(DX ++ loc).length=loc.length + 5:=by simp
 have h:=Xx _ hl hr;obtain ⟨f,hf⟩:∃ f,FUEL=f + 3:=⟨FUEL - 3,by unfold FUEL;rfl⟩
 rw [hf,DS,MO _ _ _ _ _ (by simp),List.isEmpty_nil,Bool.true_or,bb] at h;have h:((AF ⟨DX ++ loc,(0:Int)⟩).bind fun x=>pnc x (fun r=>some (.inr (.inl r.at_))) fun y=>iter (B9 (DX ++ loc)) (f + 2) ([] ++ [y.1],y.2.q,y.2.at_))=some (.inl S):=h;rw [Te loc hl,ba] at h;have h:iter (B9 (DX ++ loc)) (f + 2) ([stA],DX ++ loc,(3:Int))=some (.inl S):=h;rw [DS,MO _ _ _ _ _ (by simp),bf (by omega),Bool.or_true,bb] at h;have h:((AF ⟨DX ++ loc,(3:Int)⟩).bind fun x=>pnc x (fun r=>some (.inr (.inl r.at_))) fun y=>iter (B9 (DX ++ loc)) (f + 1) ([stA] ++ [y.1],y.2.q,y.2.at_))=some (.inl S):=h;rcases Ti loc hl with ⟨r,e⟩ | ⟨st,z,e,z1,ha,hz⟩
 ·rw [e,ba] at h;cases h
 ·rw [e,ba] at h;have h:iter (B9 (DX ++ loc)) (f + 1) ([stA] ++ [st],DX ++ loc,(z:Int))=some (.inl S):=h;rw [DS,MO _ _ _ _ _ (by simp),TC,ha] at h;by_cases hzl:z < (DX ++ loc).length
  ·rw [bf (by omega),Bool.or_true,bb,bb] at h;cases h
  ·rw [bg (by omega)] at h;have h:(some (.inl ([stA] ++ [st])):Option RdR)=some (.inl S):=h;injection h with h;injection h with h
   exact ⟨st,h.symm,hz (by omega)⟩
theorem Aag:∃ x,Dj (DX ++ loc)=some x /\ (x.2.2 ≠ 0 -> x.1=[]):=by
 obtain ⟨o,e,ho⟩:=PA _ hl;unfold Dj FO;simp only [letJ];rw [e,ba];rcases o with l | (z | y)
 ·simp only
  cases decide ((20:Int) < (l.length:Int)) with
  | true=>exact ⟨_,rfl,fun _=>rfl⟩
  | false=>exact ⟨_,rfl,fun h=>absurd rfl h⟩
 ·exact ⟨_,rfl,fun _=>rfl⟩
 ·exact ho.elim
end
theorem NX:Dj ([47,47,42,47,64,42]:List By8)=some ([stA,⟨false,true,[42],⟨[],[]⟩,[]⟩],0,0):=by kernel_rfl

set_option linter.unusedSimpArgs false
set_option linter.unusedVariables false
set_option maxRecDepth 100000
def mkA (s:Spt) (a:Ak):Al:=⟨s.path,true,a.Name⟩
def qA (loc:List By8) (a:Ak):Bool:=(a.Name.URI == ([]:List By8)) && (a.Name.Local == loc)
def fA (s:Spt):List Al:=s.node.Attrs.map (mkA s)
def gA (loc:List By8) (s:Spt):List Al:=(s.node.Attrs.filter (qA loc)).map (mkA s)
theorem RC {α β:Type} (l:List α) (p:α -> Bool) (f:α -> List β) (h:∀ x ∈ l,p x=false -> f x=[]):(l.filter p).flatMap f=l.flatMap f:=by
 induction l with
 | nil=>rfl
 | cons x l ih=>
  have ih:=ih fun y hy=>h y (List.mem_cons_of_mem _ hy)
  cases hp:p x with
  | true=>rw [List.filter_cons_of_pos hp,List.flatMap_cons,List.flatMap_cons,ih]
  | false=>rw [List.filter_cons_of_neg (by simpa using hp),List.flatMap_cons,h x List.mem_cons_self hp,List.nil_append,ih]
theorem U7 {n:Ac} (ho:Ql n=true) (h2:n.Kind ≠ 2):n.Attrs=[]:=by
 unfold Ql at ho;rw [Bool.and_eq_true] at ho;have h:=ho.1;unfold S0 at h;rw [if_neg h2] at h;split at h
 ·simp only [Bool.and_eq_true] at h;exact List.isEmpty_iff.1 h.1.1
 ·split at h
  ·simp only [Bool.and_eq_true] at h;exact List.isEmpty_iff.1 h.1
  ·simp only [Bool.and_eq_true] at h;exact List.isEmpty_iff.1 h.1
theorem T2 {d:Ac} (hd:szN d <= 1048576) (h1:d.Kind=1) (ho:(Bs d).all Ql=true) (st:Ah) (ha:st.attr=true):Np [stA,st] [⟨[],d⟩]=(FZ [] d).flatMap (Nh st):=by
 show (if stA.attr then _ else Np [st] (Od stA [⟨[],d⟩]))=_;rw [if_neg (by decide),Wb hd];show (if st.attr then Aa0 st _ else _)=_;rw [if_pos ha];unfold Aa0;refine RC _ _ _ fun s hs hp=>?_;have hm:=(KB _ [] d s (Nat.lt_succ_self _)).1 hs;obtain ⟨r,e1,e2⟩:=hm;have hn:s.node.Attrs=[]:=by
  refine U7 (List.all_eq_true.1 ho s.node ?_) ?_
  ·rw [<- (G5 [] d).1];exact List.mem_map.2 ⟨s,hs,rfl⟩
  ·intro h2;rw [h2] at hp;simp only [beq_self_eq_true,Bool.and_true,Bool.not_eq_false',beq_iff_eq] at hp;rw [List.nil_append] at e1;rw [<- e1,hp] at e2;simp only [atP,Option.some.injEq] at e2;rw [<- e2,h1] at h2;omega
 unfold Nh;rw [hn];rfl
theorem Pv {α β:Type} (l:List α) (f:α -> List β) {j:Nat} (h:j < l.length):(l.take (j + 1)).flatMap f=(l.take j).flatMap f ++ f l[j]:=by
 rw [List.take_succ_eq_append_getElem h,List.flatMap_append];simp
theorem Yn {α β:Type} (l:List α) (f:α -> List β) {j:Nat} (h:j < l.length):l.flatMap f=(l.take j).flatMap f ++ (f l[j] ++ (l.drop (j + 1)).flatMap f):=by
 conv=>lhs;rw [<- List.take_append_drop j l,List.drop_eq_getElem_cons h]
 rw [List.flatMap_append,List.flatMap_cons]
theorem XO {α:Type} (a b c:List α) {t:Nat} (h:t < b.length):(a ++ (b ++ c))[a.length + t]?=some b[t]:=by
 rw [List.getElem?_append_right (by omega),show a.length + t - a.length=t by omega,List.getElem?_append_left h,List.getElem?_eq_getElem h]
theorem U4 {α:Type} (l:List α) (p:α -> Bool) {t:Nat} (h:t < l.length) (hp:p l[t]=true):∃ h2:((l.take t).filter p).length < (l.filter p).length,(l.filter p)[((l.take t).filter p).length]=l[t]:=by
 have e:l.filter p=(l.take t).filter p ++ (l[t] :: (l.drop (t + 1)).filter p):=by
  conv=>lhs;rw [<- List.take_append_drop t l,List.drop_eq_getElem_cons h]
  rw [List.filter_append,List.filter_cons_of_pos hp]
 have h2:((l.take t).filter p).length < (l.filter p).length:=by rw [e,bk,bi];omega
 refine ⟨h2,?_⟩;have h3:(l.filter p)[((l.take t).filter p).length]?=some l[t]:=by rw [e,List.getElem?_append_right (Nat.le_refl _)];simp
 obtain ⟨_,h4⟩:=List.getElem?_eq_some_iff.1 h3;exact h4
section
variable {d:Ac} (hd:szN d <= 1048576) (loc:List By8) {M:List Al} (hM:M=(FZ [] d).flatMap (gA loc) \/ ∀ s ∈ FZ [] d,∀ a ∈ s.node.Attrs,qA loc a=false)
include hd hM
theorem Rg {j:Nat} (hj:j < (FZ [] d).length) (hpl:(D5 d)[j]?=some (FZ [] d)[j].path) (hL:((FZ [] d).flatMap fA).length <= 4398046511104) :
  iter (BG loc ((FZ [] d).flatMap fA,0,0) (M,0,0) (D5 d) (j:Int) (FZ [] d)[j].node) FUEL (((((FZ [] d).take j).flatMap fA).length:Int),((((FZ [] d).take j).flatMap (gA loc)).length:Int),(0:Int))
   = some (.inl (((((FZ [] d).take (j + 1)).flatMap fA).length:Int),((((FZ [] d).take (j + 1)).flatMap (gA loc)).length:Int))):=by
 generalize hA:FZ [] d=A at hM hj hpl hL ⊢;have hv:atP d A[j].path=some A[j].node:=by
  obtain ⟨r,e1,e2⟩:=(KB _ [] d A[j] (Nat.lt_succ_self _)).1 (by rw [hA];exact bm hj);rw [e1,List.nil_append];exact e2
 have hsz:=MW _ _ _ hv;have hal:=DF A[j].node;have eL:=Yn A fA hj;have hLl:=congrArg List.length eL;rw [bk,bk] at hLl;have hfl:(fA A[j]).length=A[j].node.Attrs.length:=by unfold fA;rw [List.length_map]
 have hgl:∀ t,((A[j].node.Attrs.take t).filter (qA loc)).length <= t:=fun t=>Nat.le_trans (List.length_filter_le _ _) (by rw [List.length_take];omega);obtain ⟨o,e,rfl⟩:=A0 (b:=BG loc (A.flatMap fA,0,0) (M,0,0) (D5 d) (j:Int) A[j].node)
  (fun t x=>x=(((((A.take j).flatMap fA).length + t:Nat):Int),((((A.take j).flatMap (gA loc)).length + ((A[j].node.Attrs.take t).filter (qA loc)).length:Nat):Int),(t:Int)))
  (fun o=>o=.inl ((((A.take (j + 1)).flatMap fA).length:Int),(((A.take (j + 1)).flatMap (gA loc)).length:Int))) A[j].node.Attrs.length (x0:=((((A.take j).flatMap fA).length:Int),(((A.take j).flatMap (gA loc)).length:Int),(0:Int))) rfl (by
  rintro t _ rec ht rfl;left;have hLat:(A.flatMap fA)[((A.take j).flatMap fA).length + t]?=some (mkA A[j] A[j].node.Attrs[t]):=by
   rw [eL,XO _ _ _ (by rw [hfl];exact ht)];unfold fA;rw [List.getElem_map]
  obtain ⟨hi,hget⟩:=List.getElem?_eq_some_iff.1 hLat;have hgt:=hgl t;have hgA:((A.take j).flatMap (gA loc)).length <= ((A.take j).flatMap fA).length:=by
   have:∀ l:List Spt,(l.flatMap (gA loc)).length <= (l.flatMap fA).length:=fun l=>by
    induction l with
    | nil=>simp
    | cons s l ih=>
     have:=List.length_filter_le (qA loc) s.node.Attrs;rw [List.flatMap_cons,List.flatMap_cons,bk,bk];unfold gA fA at *;rw [List.length_map,List.length_map];omega
   exact this _
  have ht1:(A[j].node.Attrs.take (t + 1)).filter (qA loc)=(A[j].node.Attrs.take t).filter (qA loc) ++ (if qA loc A[j].node.Attrs[t] then [A[j].node.Attrs[t]] else []):=by
   rw [List.take_succ_eq_append_getElem ht,List.filter_append];cases hq:qA loc A[j].node.Attrs[t] <;> simp [hq]
  refine ⟨_,?_,rfl⟩;obtain ⟨hpj,hpe⟩:=List.getElem?_eq_some_iff.1 hpl;unfold BG;simp only [letJ];rw [bf (show (t:Int) < (A[j].node.Attrs.length:Int) by omega),bb,AC ht,ba,bg (show ¬ ((A.flatMap fA).length:Int) <= ((((A.take j).flatMap fA).length + t:Nat):Int) by omega),bc,AC hi,ba,hget];simp only [mkA,ba,Bool.not_true,bc,beq_self_eq_true,Bool.and_self,Bool.and_true];rw [AC hpj,ba,hpe,Ux _ _ (by omega),ba,show (A[j].path == A[j].path)=true by simp,Bool.not_true,bc];rw [w64 (x:=((((A.take j).flatMap fA).length + t:Nat):Int) + 1) (by omega) (by omega),w64 (x:=((((A.take j).flatMap (gA loc)).length + ((A[j].node.Attrs.take t).filter (qA loc)).length:Nat):Int) + 1) (by omega) (by omega),P5 (by omega)];rw [show ((((A.take j).flatMap fA).length + t:Nat):Int) + 1 - 1=((((A.take j).flatMap fA).length + t:Nat):Int) by omega,w64 (x:=((((A.take j).flatMap fA).length + t:Nat):Int)) (by omega) (by omega),AC hi,hget];simp only [ba];rw [ht1,bk]
  cases hq:qA loc A[j].node.Attrs[t] with
  | false=>
   have hq':((A[j].node.Attrs[t].Name.URI == ([]:List By8)) && (A[j].node.Attrs[t].Name.Local == loc))=false:=hq;rw [hq',bc];congr 1
  | true =>
   have hq':((A[j].node.Attrs[t].Name.URI == ([]:List By8)) && (A[j].node.Attrs[t].Name.Local == loc))=true:=hq;rw [hq',bb];rcases hM with hM | hM
   ·obtain ⟨f1,f2⟩:=U4 A[j].node.Attrs (qA loc) ht hq;have hMat:M[((A.take j).flatMap (gA loc)).length + ((A[j].node.Attrs.take t).filter (qA loc)).length]?=some (mkA A[j] A[j].node.Attrs[t]):=by
     rw [hM,Yn A (gA loc) hj,XO _ _ _ (by unfold gA;rw [List.length_map];exact f1)];unfold gA;rw [List.getElem_map,f2]
    obtain ⟨k1,k2⟩:=List.getElem?_eq_some_iff.1 hMat;rw [bg (by omega),bc,AC k1,ba,k2,Aep _ _ (by show A[j].path.length <= _;omega) (by show A[j].path.length <= _;omega),ba,SI.refl];show rec _=rec _;congr 1
   ·have:=hM A[j] (bm hj) _ (bm ht)
    rw [hq] at this;cases this) (by
  rintro _ rec rfl;refine ⟨_,?_,rfl⟩;unfold BG;dsimp only;rw [bg (by omega),bc,List.take_length,Pv A fA hj,Pv A (gA loc) hj,bk,bk,hfl];unfold gA
  rw [List.length_map]) (n:=FUEL) (by unfold FUEL;omega)
 exact e
end

set_option linter.unusedSimpArgs false
set_option linter.unusedVariables false
set_option maxRecDepth 100000
theorem Si (l:List By8) (hl:l.length <= 1048576):Dn l=some (l.all fun c=>c != 123 && c != 42):=by
 unfold Dn;simp only [letJ]
 rw [HL l (fun c=>c != 123 && c != 42) (b:=CD l) (r:=false) (by omega) (fun rec i h=>by
  have e1:((l[i].toNat:Int) != (123:Int))=(l[i] != 123):=NS l[i] 123 (by decide);have e2:((l[i].toNat:Int) != (42:Int))=(l[i] != 42):=NS l[i] 42 (by decide);unfold CD;simp only [letJ];rw [bf (by omega),bb,AC h,ba,P5 (by omega),<- e1,<- e2];unfold bne;simp only [ba]
  cases ((l[i].toNat:Int) == (123:Int)) <;> cases ((l[i].toNat:Int) == (42:Int)) <;> rfl) (fun rec=>by
  unfold CD;simp only [letJ]
  rw [bg (by omega),bc]),ba]
 cases (l.all fun c=>c != 123 && c != 42) <;> rfl
section
variable {d:Ac} (hd:szN d <= 1048576) (loc:List By8) {M:List Al} (hM:M=(FZ [] d).flatMap (gA loc) \/ ∀ s ∈ FZ [] d,∀ a ∈ s.node.Attrs,qA loc a=false)
include hd hM
theorem Ry (hL:((FZ [] d).flatMap fA).length <= 4398046511104) :
  iter (BI loc ((FZ [] d).flatMap fA,0,0) (M,0,0) (D5 d) (Bs d)) FUEL ((0:Int),(0:Int),(0:Int))=some (.inl ((((FZ [] d).flatMap fA).length:Int),(((FZ [] d).flatMap (gA loc)).length:Int))):=by
 have hm1:=(G5 [] d).1;have hm2:=(G5 [] d).2;have hid:(D5 d).map (([]:List Int) ++ ·)=D5 d:=by simp
 rw [hid] at hm2;have hlen:(Bs d).length=(FZ [] d).length:=by rw [<- hm1,List.length_map]
 have hfl:=GG d;obtain ⟨o,e,rfl⟩:=A0 (b:=BI loc ((FZ [] d).flatMap fA,0,0) (M,0,0) (D5 d) (Bs d))
  (fun j x=>x=(((((FZ [] d).take j).flatMap fA).length:Int),((((FZ [] d).take j).flatMap (gA loc)).length:Int),(j:Int)))
  (fun o=>o=.inl ((((FZ [] d).flatMap fA).length:Int),(((FZ [] d).flatMap (gA loc)).length:Int))) (FZ [] d).length (x0:=((0:Int),(0:Int),(0:Int))) rfl (by
  rintro j _ rec hj rfl;left;refine ⟨_,?_,rfl⟩;have hf:(Bs d)[j]'(by omega)=(FZ [] d)[j].node:=by
   have:(Bs d)[j]?=some (FZ [] d)[j].node:=by rw [<- hm1,List.getElem?_map,List.getElem?_eq_getElem hj];rfl
   exact (List.getElem?_eq_some_iff.1 this).2
  have hp:(D5 d)[j]?=some (FZ [] d)[j].path:=by rw [<- hm2,List.getElem?_map,List.getElem?_eq_getElem hj];rfl
  unfold BI;simp only [letJ]
  rw [bf (by omega),bb,AC (by omega:j < (Bs d).length),ba,hf,Rg hd loc hM hj hp hL,ba,P5 (by omega)]) (by
  rintro _ rec rfl;refine ⟨_,?_,rfl⟩;unfold BI;dsimp only
  rw [bg (by omega),bc,List.take_length]) (n:=FUEL) (by unfold FUEL;omega)
 exact e
end
theorem Uc (st:Ah) (h:st.test=[42]) (s:Spt):Nh st s=fA s:=by
 unfold Nh fA;have:s.node.Attrs.filter (TT st)=s.node.Attrs:=List.filter_eq_self.2 fun a _=>by unfold TT;rw [h];rfl
 rw [this];rfl
theorem Pn (st:Ah) (loc:List By8) (h:st.test=[]) (hn:st.name=⟨[],loc⟩) (s:Spt):Nh st s=gA loc s:=by
 unfold Nh gA;have:∀ a,TT st a=qA loc a:=fun a=>by unfold TT qA;rw [h,hn];simp
 rw [show TT st=qA loc from funext this];rfl
theorem OR (d:Ac) (loc:List By8) (hd:szN d <= 1048576) (hl:loc.length + 5 <= 1048576):Di d loc=some true:=by
 have hlen:(DX ++ loc).length=loc.length + 5:=by simp
 have hI:InvS d [⟨[],d⟩]:=⟨List.pairwise_singleton _ _,fun y hy=>by rw [List.mem_singleton.1 hy];rfl⟩
 obtain ⟨x,hxr0,hx0⟩:=Aag loc (by omega);have hx1:x.2.2=0 -> ∃ st,x.1=[stA,st] /\ AtS loc st:=fun h0=>Uw loc (by omega) (a:=x.2.1) (by rw [hxr0,<- h0]);have hxs:(∀ st ∈ x.1,OkS (szN d) st) /\ x.1.length <= 1048576:=by
  by_cases h0:x.2.2=0
  ·obtain ⟨st,e,_,hcn,_⟩:=hx1 h0;rw [e];refine ⟨fun s hs=>?_,by simp⟩;simp only [List.mem_cons,List.not_mem_nil,or_false] at hs;rcases hs with rfl | rfl
   ·exact ⟨fun c hc=>(by cases hc),Nat.zero_le _⟩
   ·exact ⟨fun c hc=>(by rw [hcn] at hc;cases hc),by rw [hcn];exact Nat.zero_le _⟩
  ·rw [hx0 h0];exact ⟨fun s hs=>(by cases hs),Nat.zero_le _⟩
 obtain ⟨r,hc,_⟩:=N2 d hd;have okE:∀ st ∈ [stA,(⟨false,true,[42],⟨[],[]⟩,[]⟩:Ah)],OkS (szN d) st:=fun st hst=>by
  simp only [List.mem_cons,List.not_mem_nil,or_false] at hst;rcases hst with rfl | rfl <;> exact ⟨fun c hc=>(by cases hc),Nat.zero_le _⟩
 have p1:=QY hd _ _ NX okE (by simp);rw [if_neg (by simp)] at p1;have p2:=QY hd _ _ hxr0 hxs.1 hxs.2;unfold Di;rw [Z6,ba,Bool.not_true,bc,p1,ba,Wx (by simp only [bi,bj];omega),ba];show ((Ej d (DX ++ loc)).bind _)=_;rw [p2,ba];by_cases hr:r=0
 ·subst hr;rw [if_pos hc,if_pos hc];simp only [bne_self_eq_false,Bool.false_or,beq_self_eq_true,letJ,bb];by_cases h0:x.2.2=0
  ·rw [if_neg (by simpa using h0)];simp only [bne_self_eq_false,bc];obtain ⟨h1,ho,hn⟩:=Xp hd hc;obtain ⟨st,hS,ha,_,hst⟩:=hx1 h0;rw [hS,T2 hd h1 ho st ha,T2 hd h1 ho _ rfl];have eL:(FZ [] d).flatMap (Nh ⟨false,true,[42],⟨[],[]⟩,[]⟩)=(FZ [] d).flatMap fA:=by
    rw [show Nh ⟨false,true,[42],⟨[],[]⟩,[]⟩=fA from funext fun s=>Uc _ rfl s]
   rw [eL];have hL:((FZ [] d).flatMap fA).length <= 4398046511104:=by
    have h:=QY hd _ _ NX okE (by simp);have hA:(FZ [] d).length <= 1048576:=by
     have:=(G5 [] d).1;have h2:=congrArg List.length this;rw [List.length_map] at h2;have:=GG d;omega
    have h1:=O5 fA 1048576 (FZ [] d) fun s hs=>by
     obtain ⟨r,e1,e2⟩:=(KB _ [] d s (Nat.lt_succ_self _)).1 hs;have h3:=MW _ _ _ e2;have h4:=DF s.node;unfold fA;rw [List.length_map];omega
    have h3:(FZ [] d).length * 1048576 <= 1048576 * 1048576:=Nat.mul_le_mul_right _ hA;omega
   have noM:¬ (∀ c ∈ loc,c ≠ 42 /\ c ≠ 123) -> ∀ s ∈ FZ [] d,∀ a ∈ s.node.Attrs,qA loc a=false:=by
    intro hbad s hs a ha
    cases hq:qA loc a with
    | false=>rfl
    | true=>
     exfalso;unfold qA at hq;rw [Bool.and_eq_true,beq_iff_eq,beq_iff_eq] at hq;have hsn:s.node ∈ Bs d:=by rw [<- (G5 [] d).1];exact List.mem_map.2 ⟨s,hs,rfl⟩
     have hnm:=List.all_eq_true.1 hn _ hsn;unfold nmP at hnm;simp only [Bool.and_eq_true] at hnm;have hat:=List.all_eq_true.1 hnm.1.2 a ha;unfold Xq GF at hat;simp only [Bool.and_eq_true] at hat;have hnp:=hat.1.1.1.1;rw [hq.2] at hnp;exact hbad (Nr loc (by omega) hnp)
   have hM:(FZ [] d).flatMap (Nh st)=(FZ [] d).flatMap (gA loc) \/ ∀ s ∈ FZ [] d,∀ a ∈ s.node.Attrs,qA loc a=false:=by
    rcases hst with ⟨h1,h2⟩ | ⟨h1,h2⟩ | h2
    ·exact .inr (noM fun h=>(h 42 h2).1 rfl)
    ·exact .inl (by rw [show Nh st=gA loc from funext fun s=>Pn st loc h1 h2 s])
    ·exact .inr (noM fun h=>(h 123 h2).2 rfl)
   rw [YH d hd,ba,XR d hd,ba,Ry hd loc hM hL,ba];simp only [beq_self_eq_true,bb];rcases hst with ⟨h1,h2⟩ | ⟨h1,h2⟩ | h2
   ·have hp:(loc.all fun c=>c != 123 && c != 42)=false:=by
     rw [List.all_eq_false];exact ⟨42,h2,by decide⟩
    rw [Si loc (by omega),hp];cases ((((FZ [] d).flatMap (gA loc)).length:Int) == (((FZ [] d).flatMap (Nh st)).length:Int)) <;> rfl
   ·rw [show Nh st=gA loc from funext fun s=>Pn st loc h1 h2 s];simp only [beq_self_eq_true,bb]
   ·have hp:(loc.all fun c=>c != 123 && c != 42)=false:=by
     rw [List.all_eq_false];exact ⟨123,h2,by decide⟩
    rw [Si loc (by omega),hp];cases ((((FZ [] d).flatMap (gA loc)).length:Int) == (((FZ [] d).flatMap (Nh st)).length:Int)) <;> rfl
  ·rw [if_pos h0,show (x.2.2 != (0:Int))=true by simpa using h0];rfl
 ·rw [hc,if_neg (by simpa using hr)];simp only [Option.getD_some,letJ];rw [show (r != (0:Int))=true by simpa using hr,Bool.true_or,bb,show (r == (0:Int))=false by rw [beq_eq_false_iff_ne];exact hr,bc,Uh d hd,hc,ba];simp

set_option linter.unusedVariables false
theorem MB (d:Ac) (q:List By8) {b0 b1:Nat} (t0:szN d <= b0) (t1:q.length + 1 <= b1) (hb:b0 + b1 <= 1048576) (hp:Heap):CallsA prog 6 [.agg (Ad d),.str q] hp fun d _=>d=.bool true:=
 have h8:8 <= szN d:=by cases d;simp only [szN,Bl];omega
 (GX d q (G:=fun b=>b=true) hp ⟨true,OR d q (by omega) (by omega),rfl⟩).mono fun d h' ⟨r,hr,hd⟩=>by subst hr;exact hd

set_option linter.unusedVariables false
set_option maxRecDepth 100000
open Go.ChangeShapes Go.WideShapes Go.ChangeAt Go.RowKit Go.Lib
def NC (x:Ac):Prop:=True
theorem JQ {H:Type} {enc:TypeId × Value -> H} {w:World} {base:Nat} {held:Bool}:∀ N:Nat,B.Rds N enc prog w base (fun _=>true) held 27 NC Bl Ad
 | 0=>B.Rds.zero
 | N + 1=>B.rd_structS underlying27 (.cons (k:=1) rfl (by kernel_rfl) (B.rd_int underlying3) (.cons (k:=2) rfl (by kernel_rfl) (B.rd_struct underlying23 (.cons (k:=1) rfl (by kernel_rfl) (B.rd_str underlying9) (.cons (k:=1) rfl (by kernel_rfl) (B.rd_str underlying9) .nil)) (by kernel_rfl) (ok':=(fun x:Aa=>((fun s:List By8=>s.length <= 9223372036854775807)) x.URI /\ ((fun s:List By8=>s.length <= 9223372036854775807)) x.Local /\ True)) (sz':=(fun x:Aa=>((fun s:List By8=>s.length + 1) x.URI + ((fun s:List By8=>s.length + 1) x.Local + 0)) + 1)) (c':=Ar) (fun y=>(⟨y.1,y.2.1⟩:Aa)) (fun y h=>⟨h,rfl,rfl⟩)) (.cons (k:=1) rfl (by kernel_rfl) (B.rd_slice underlying24 (k:=3) (by kernel_rfl) (by decide) (fun _ _=>rfl) (B.rd_struct underlying56 (.cons (k:=2) rfl (by kernel_rfl) (B.rd_struct underlying23 (.cons (k:=1) rfl (by kernel_rfl) (B.rd_str underlying9) (.cons (k:=1) rfl (by kernel_rfl) (B.rd_str underlying9) .nil)) (by kernel_rfl) (ok':=(fun x:Aa=>((fun s:List By8=>s.length <= 9223372036854775807)) x.URI /\ ((fun s:List By8=>s.length <= 9223372036854775807)) x.Local /\ True)) (sz':=(fun x:Aa=>((fun s:List By8=>s.length + 1) x.URI + ((fun s:List By8=>s.length + 1) x.Local + 0)) + 1)) (c':=Ar) (fun y=>(⟨y.1,y.2.1⟩:Aa)) (fun y h=>⟨h,rfl,rfl⟩)) (.cons (k:=1) rfl (by kernel_rfl) (B.rd_str underlying9) .nil)) (by kernel_rfl) (ok':=(fun x:Ak=>((fun x:Aa=>((fun s:List By8=>s.length <= 9223372036854775807)) x.URI /\ ((fun s:List By8=>s.length <= 9223372036854775807)) x.Local /\ True)) x.Name /\ ((fun s:List By8=>s.length <= 9223372036854775807)) x.Value /\ True)) (sz':=(fun x:Ak=>((fun x:Aa=>((fun s:List By8=>s.length + 1) x.URI + ((fun s:List By8=>s.length + 1) x.Local + 0)) + 1) x.Name + ((fun s:List By8=>s.length + 1) x.Value + 0)) + 1)) (c':=Ao) (fun y=>(⟨y.1,y.2.1⟩:Ak)) (fun y h=>⟨h,rfl,rfl⟩))) (.cons (k:=1) rfl (by kernel_rfl) (B.rd_slice underlying25 (k:=6) (by kernel_rfl) (by decide) (fun y _=>by rw [Ab];rfl) (JQ N)) (.cons (k:=1) rfl (by kernel_rfl) (B.rd_str underlying9) .nil))))) (by kernel_rfl) (fun y=>(⟨y.1,y.2.1,y.2.2.1,y.2.2.2.1,y.2.2.2.2.1⟩:Ac)) (fun y h=>⟨trivial,by show Bl (⟨_,_,_,_,_⟩:Ac)=_;rw [Bl,LT],by rw [Ab];rfl⟩)
end Go.Proofs.YtmnbjcpikllknaaGreatDoor
