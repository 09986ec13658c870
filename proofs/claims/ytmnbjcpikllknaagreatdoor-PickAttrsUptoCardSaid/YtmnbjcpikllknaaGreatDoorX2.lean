/- A step's answer, said plainly. No condition. -/
import Derived.Test.YtmnbjcpikllknaaGreatDoorX1
import Derived.Test.YtmnbjcpikllknaaGreatDoorXR
set_option linter.unusedSimpArgs false
set_option linter.unusedVariables false
set_option maxRecDepth 20000
namespace Go.Proofs.YtmnbjcpikllknaaGreatDoor
abbrev Spt:=Ag
theorem Add {l:List Spt} {f:Spt -> Option Bool} (hl:l.length <= 1073741824) (h:∀ x ∈ l,∃ b,f x=some b):(AV l f=some (-1) /\ l.any (gB f)=false) \/
  ∃ i,∃ hi:i < l.length,AV l f=some (i:Int) /\ gB f l[i]=true /\ (l.take i).any (gB f)=false:=by
 unfold AV;simp only [letJ]
 obtain ⟨o,e,hR⟩:=A0 (b:=A7 l f) (fun i s=>s=(i:Int) /\ (l.take i).any (gB f)=false) (fun o=>match o with | .inl _=>l.any (gB f)=false | .inr z=>∃ i,∃ hi:i < l.length,z=(i:Int) /\ gB f l[i]=true /\ (l.take i).any (gB f)=false) l.length (x0:=(0:Int)) ⟨rfl,rfl⟩ (by
  rintro i _ rec hi ⟨rfl,ha⟩;obtain ⟨b,hb⟩:=h _ (bm hi);have hg:gB f l[i]=b:=by simp [gB,hb]
  unfold A7;rw [bf (by omega),bb,AC hi,ba,hb,ba]
  cases b with
  | true=>exact .inr ⟨_,rfl,i,hi,rfl,hg,ha⟩
  | false=>
   refine .inl ⟨((i + 1:Nat):Int),?_,rfl,?_⟩
   ·rw [bc,w64 (by omega) (by omega)];rfl
   ·rw [List.take_succ_eq_append_getElem hi,List.any_append,ha,List.any_cons,hg];rfl) (by
  rintro _ rec ⟨rfl,ha⟩;refine ⟨.inl (),?_,?_⟩
  ·unfold A7;rw [bg (by omega),bc]
  ·rw [List.take_length] at ha;exact ha) (n:=FUEL) (by unfold FUEL;omega)
 rw [e,ba]
 cases o with
 | inl u=>exact .inl ⟨rfl,hR⟩
 | inr z=>obtain ⟨i,hi,rfl,h1,h2⟩:=hR;exact .inr ⟨i,hi,rfl,h1,h2⟩
theorem N4 {α:Type} {l:List α} {p:α -> Bool} (h:l.any p=false):l.filter (fun x=>!p x)=l:=
 List.filter_eq_self.2 fun x hx=>by have:=List.any_eq_false.1 h x hx;simpa using this
theorem YX {l:List Spt} {f:Spt -> Option Bool} (hl:l.length <= 1073741824) (h:∀ x ∈ l,∃ b,f x=some b):Be l f=some (l.filter fun x=>!gB f x):=by
 unfold Be;simp only [letJ];rcases Add hl h with ⟨e,ha⟩ | ⟨i,hi,e,hg,ha⟩
 ·rw [e,ba,N4 ha];rfl
 rw [e, ba, show ((i : Int) == (-1 : Int)) = false by simp, bc, w64 (by omega) (by omega)];obtain ⟨o, e, hR⟩ := A0 (b := A4 f)
  (fun m s=>s.2.2=((i + 1 + m:Nat):Int) /\ s.1.length=l.length /\ s.2.1=(((l.take (i + 1 + m)).filter fun x=>!gB f x).length:Int) /\ ((l.take (i + 1 + m)).filter fun x=>!gB f x).length < i + 1 + m /\
   s.1.take ((l.take (i + 1 + m)).filter fun x=>!gB f x).length=(l.take (i + 1 + m)).filter (fun x=>!gB f x) /\ s.1.drop (i + 1 + m)=l.drop (i + 1 + m))
  (fun o=>o.1.length=l.length /\ o.2=((l.filter fun x=>!gB f x).length:Int) /\ (l.filter fun x=>!gB f x).length < l.length /\ o.1.take (l.filter fun x=>!gB f x).length=l.filter fun x=>!gB f x) (l.length - (i + 1)) (x0:=(l,(i:Int),(i:Int) + 1)) (by
   have e1:((l.take (i + 1)).filter fun x=>!gB f x)=l.take i:=by
    rw [List.take_succ_eq_append_getElem hi,List.filter_append,N4 ha];simp [hg]
   have e2:(l.take i).length=i:=by rw [List.length_take];omega
   refine ⟨by simp,rfl,?_,?_,?_,rfl⟩
   ·simp only [Nat.add_zero];rw [e1,e2]
   ·simp only [Nat.add_zero];rw [e1,e2];omega
   ·simp only [Nat.add_zero];rw [e1,e2]) (by
   rintro m ⟨a,p,j⟩ rec hm ⟨h1,h2,h3,h4,h5,h6⟩;simp only at h1 h2 h3 h5 h6;subst h1 h3;have hj:i + 1 + m < l.length:=by omega
   have hja:i + 1 + m < a.length:=by omega
   have hx:a[i + 1 + m]=l[i + 1 + m]:=by
    have:=congrArg (fun z=>z[0]?) h6;simp only [List.getElem?_drop,Nat.add_zero,List.getElem?_eq_getElem hja,List.getElem?_eq_getElem hj] at this;exact Option.some.inj this
   obtain ⟨b,hb⟩:=h _ (bm hj);have hg':gB f l[i + 1 + m]=b:=by simp [gB,hb]
   have et:(l.take (i + 1 + (m + 1))).filter (fun x=>!gB f x)=(l.take (i + 1 + m)).filter (fun x=>!gB f x) ++ (if b then [] else [l[i + 1 + m]]):=by
    rw [show i + 1 + (m + 1)=(i + 1 + m) + 1 by omega,List.take_succ_eq_append_getElem hj,List.filter_append];congr 1;cases b <;> simp [hg']
   generalize hF:(l.take (i + 1 + m)).filter (fun x=>!gB f x)=F at h4 h5 et ⊢;have hd:a.drop (i + 1 + (m + 1))=l.drop (i + 1 + (m + 1)):=by
    have:=congrArg (List.drop 1) h6;simpa [List.drop_drop,Nat.add_assoc] using this
   unfold A4;simp only [letJ];left;rw [bf (by omega),bb,AC hja,ba,hx,hb,ba]
   cases b with
   | true=>
    refine ⟨(a,(F.length:Int),((i + 1 + (m + 1):Nat):Int)),?_,rfl,h2,?_,?_,?_,hd⟩
    ·rw [Bool.not_true,bc,w64 (by omega) (by omega)];rfl
    ·rw [et];simp
    ·rw [et];simp;omega
    ·rw [et];simpa using h5
   | false=>
    have hFa:F.length < a.length:=by omega
    refine ⟨(a.set F.length l[i + 1 + m],((F.length + 1:Nat):Int),((i + 1 + (m + 1):Nat):Int)),?_,rfl,by simp [h2],?_,?_,?_,?_⟩
    ·rw [Bool.not_false,bb,AC hFa];simp only [ba,Int.toNat_natCast];rw [w64 (by omega) (by omega),w64 (by omega) (by omega)];rfl
    ·rw [et];simp
    ·rw [et];simp;omega
    ·rw [et];simp only [Bool.false_eq_true,if_false,bk,bi,bj,Nat.zero_add];rw [List.take_succ_eq_append_getElem (by simp;omega),List.take_set_of_le (Nat.le_refl _),h5];simp
    ·rw [List.drop_set_of_lt (by omega)];exact hd) (by
   rintro ⟨a,p,j⟩ rec ⟨h1,h2,h3,h4,h5,h6⟩;simp only at h1 h2 h3 h5 h6;subst h1 h3;have el:i + 1 + (l.length - (i + 1))=l.length:=by omega
   rw [el,List.take_length] at h4 h5;refine ⟨(a,((l.filter fun x=>!gB f x).length:Int)),?_,h2,rfl,h4,h5⟩;unfold A4;simp only [letJ]
   rw [el,bg (by omega),bc,List.take_length]) (n:=FUEL) (by unfold FUEL;omega)
 rw [e,ba];obtain ⟨a,p⟩:=o;obtain ⟨r1,r2,r3,r4⟩:=hR;simp only at r1 r2 r4 ⊢;subst r2;rw [Gv (by omega),ba];unfold ltL;rw [if_pos (by omega),ba,Int.toNat_natCast,r4]
def HN (p:List Int):Nat -> List Ac -> List Spt
 | _,[]=>[]
 | i,k :: l=>⟨p ++ [(i:Int)],k⟩ :: HN p (i + 1) l
def Fs (s:Spt):List Spt:=HN s.path 0 s.node.Kids
theorem NE (p:List Int) (x:Ac):∀ (l:List Ac) (i:Nat),HN p i (l ++ [x])=HN p i l ++ [⟨p ++ [((i + l.length:Nat):Int)],x⟩]
 | [],i=>by simp [HN]
 | y :: l,i=>by
  simp only [List.cons_append,HN,NE p x l (i + 1),bi];rw [show i + 1 + l.length=i + (l.length + 1) by omega]
theorem HV (p:List Int):∀ (l:List Ac) (i:Nat),(HN p i l).length=l.length
 | [],_=>rfl
 | _ :: l,i=>by simp only [HN,bi,HV p l]
theorem EQ {p:List Int} {s:Spt}:∀ {l:List Ac} {i:Nat},s ∈ HN p i l -> ∃ j,∃ h:j < l.length,s=⟨p ++ [((i + j:Nat):Int)],l[j]⟩
 | [],i,h=>by cases h
 | k :: l,i,h=>by
  rcases List.mem_cons.1 h with rfl | h
  ·exact ⟨0,by simp,rfl⟩
  ·obtain ⟨j,hj,e⟩:=EQ h;refine ⟨j + 1,by simp;omega,?_⟩;rw [e,show i + 1 + j=i + (j + 1) by omega];rfl
def Q9 (st:Ah) (k:Ac):Bool:=(CO st k).getD false
theorem PU (st:Ah) (k:Ac):CO st k=some (Q9 st k):=by
 have:∃ b,CO st k=some b:=by
  unfold CO;cases (st.test == ([42]:List By8)) <;> cases (st.test == ([116,101,120,116]:List By8)) <;> cases (st.test == ([99,111,109,109,101,110,116]:List By8)) <;> cases (st.test == ([110,111,100,101]:List By8)) <;> exact ⟨_,rfl⟩
 obtain ⟨b,hb⟩:=this;unfold Q9;rw [hb];rfl
def V9 (c:Ae) (n:Ac):Bool:=(D6 c n).getD false
def OkC (c:Ae) (N:Nat):Prop:=(∀ n,szN n <= N -> ∃ b,D6 c n=some b) /\ (c.kind=91 -> 1 <= c.k /\ c.k <= 1000000000)
def Gr (l:List Spt) (c:Ae):List Spt:=if c.kind=91 then (l.drop (c.k.toNat - 1)).take 1 else l.filter fun s=>V9 c s.node
def ofP (st:Ah) (s:Spt):List Spt:=st.conds.foldl Gr ((Fs s).filter fun k=>Q9 st k.node)
theorem Vi (l:List Spt) (c:Ae):(Gr l c).Sublist l:=by
 unfold Gr;split
 ·exact (List.take_sublist _ _).trans (List.drop_sublist _ _)
 ·exact List.filter_sublist
theorem Om:∀ (cs:List Ae) (l:List Spt),(cs.foldl Gr l).Sublist l
 | [],l=>.refl _
 | c :: cs,l=>(Om cs (Gr l c)).trans (Vi l c)
theorem Ka (st:Ah) (s:Spt):(ofP st s).Sublist (Fs s):=(Om _ _).trans List.filter_sublist
theorem RI:∀ (cs:List Ae),cs.foldl Gr []=[]
 | []=>rfl
 | c :: cs=>by
  have:Gr [] c=[]:=by unfold Gr;split <;> simp
  rw [List.foldl_cons,this,RI cs]
theorem Afg {N:Nat} (st:Ah) (s:Spt) (hN:N <= 1048576) (hs:szN s.node <= N) (hp:s.path.length <= 1048576) (hc:∀ c ∈ st.conds,OkC c N) (hcl:st.conds.length <= 1073741824):Dw st s=some (ofP st s):=by
 have hk:=DV s.node;unfold Dw;simp only [letJ]
 obtain ⟨o,e,rfl⟩:=A0 (b:=Ed st s) (fun i x=>x=((HN s.path 0 (s.node.Kids.take i)).filter (fun k=>Q9 st k.node),(i:Int))) (fun o=>o=(Fs s).filter fun k=>Q9 st k.node) s.node.Kids.length (x0:=(([]:List Spt),(0:Int))) rfl (by
  rintro i _ rec hi rfl;left;have hlen:((HN s.path 0 (s.node.Kids.take i)).filter (fun k=>Q9 st k.node)).length <= 1048576:=by
   have h1:=List.length_filter_le (fun k:Spt=>Q9 st k.node) (HN s.path 0 (s.node.Kids.take i));rw [HV,List.length_take] at h1;omega
  refine ⟨_,?_,rfl⟩;unfold Ed;simp only [letJ];rw [bf (by omega),bb,AC hi,ba,PU,ba,w64 (by omega) (by omega),List.take_succ_eq_append_getElem hi,NE,List.filter_append];have ht:(s.node.Kids.take i).length=i:=by rw [List.length_take];omega
  generalize hA:(HN s.path 0 (s.node.Kids.take i)).filter (fun k=>Q9 st k.node)=A at hlen ⊢
  cases hf:Q9 st s.node.Kids[i] with
  | false=>
   rw [bc];simp [hf]
  | true =>
   rw [bb,DJ (by simp only [bj];omega) (by simp only [bj];omega),ba,List.nil_append,DJ (by simp only [bi,bj];omega) (by simp only [bi,bj];omega),ba,
    DJ (by simp only [bi,bj];omega) (by simp only [bi,bj];omega),ba,ba]
   simp [hf,ht]) (by
  rintro _ rec rfl;refine ⟨_,?_,rfl⟩;unfold Ed;dsimp only
  rw [bg (by omega),bc,List.take_length];rfl) (n:=FUEL) (by unfold FUEL;omega)
 rw [e,ba];have hl0:((Fs s).filter fun k=>Q9 st k.node).length <= 1048576:=by
  have h1:=List.length_filter_le (fun k:Spt=>Q9 st k.node) (Fs s);unfold Fs at h1;rw [HV] at h1;unfold Fs;omega
 have hz0:∀ x ∈ (Fs s).filter (fun k=>Q9 st k.node),szN x.node <= N:=by
  intro x hx;obtain ⟨j,hj,e⟩:=EQ (List.mem_filter.1 hx).1;have:=GJ (bm hj);rw [e];show szN s.node.Kids[j] <= N;omega
 generalize hL:(Fs s).filter (fun k=>Q9 st k.node)=L at hl0 hz0
 obtain ⟨o,e,hR⟩:=A0 (b:=D7 st) (fun i x=>x=((st.conds.take i).foldl Gr L,(i:Int))) (fun o=>(match o with | .inl a=>a | .inr a=>a)=st.conds.foldl Gr L) st.conds.length (x0:=(L,(0:Int))) rfl (by
  rintro i _ rec hi rfl;have hsub:=Om (st.conds.take i) L;have hl1:=hsub.length_le;have hz1:∀ x ∈ (st.conds.take i).foldl Gr L,szN x.node <= N:=fun x hx=>hz0 x (hsub.subset hx);obtain ⟨c1,c2⟩:=hc _ (bm hi);have et:(st.conds.take (i + 1)).foldl Gr L=Gr ((st.conds.take i).foldl Gr L) st.conds[i]:=by
   rw [List.take_succ_eq_append_getElem hi,List.foldl_append];rfl
  have ed:st.conds.foldl Gr L=(st.conds.drop (i + 1)).foldl Gr (Gr ((st.conds.take i).foldl Gr L) st.conds[i]):=by
   conv=>lhs;rw [<- List.take_append_drop (i + 1) st.conds,List.foldl_append,et]
  generalize hA:(st.conds.take i).foldl Gr L=A at hl1 hz1 et ed ⊢;unfold D7;simp only [letJ];rw [bf (by omega),bb,AC hi,ba,w64 (x:=(i:Int) + 1) (by omega) (by omega)];by_cases h91:st.conds[i].kind=91
  ·obtain ⟨k1,k2⟩:=c2 h91;rw [show (st.conds[i].kind != (91:Int))=false by simp [h91],bc,w64 (by omega) (by omega)];by_cases hlt:(A.length:Int) < st.conds[i].k
   ·right;refine ⟨.inr [],by rw [bf hlt,bb],?_⟩;have:Gr A st.conds[i]=[]:=by
     unfold Gr;rw [if_pos h91,List.drop_of_length_le (by omega)];rfl
    show []=_;rw [ed,this,RI]
   ·left;refine ⟨_,?_,rfl⟩;rw [bg hlt,bc];unfold Afy;rw [if_pos (by omega),ba,et];unfold Gr;rw [if_pos h91,show (st.conds[i].k - 1).toNat=st.conds[i].k.toNat - 1 by omega,show st.conds[i].k.toNat - (st.conds[i].k.toNat - 1)=1 by omega];rfl
  ·left;refine ⟨_,?_,rfl⟩;have hg:∀ x:Spt,szN x.node <= N -> DO x st.conds[i]=some (!V9 st.conds[i] x.node):=by
    intro x hx;obtain ⟨b,hb⟩:=c1 x.node hx;unfold DO V9;rw [hb];rfl
   rw [show (st.conds[i].kind != (91:Int))=true by simp [h91],bb,YX (by omega) (fun x hx=>⟨_,hg x (hz1 x hx)⟩),ba,et];unfold Gr;rw [if_neg h91];have:A.filter (fun x=>!gB (fun z0=>DO z0 st.conds[i]) x)=A.filter (fun s=>V9 st.conds[i] s.node):=List.filter_congr fun x hx=>by
    unfold gB;dsimp only;rw [hg x (hz1 x hx)];simp
   rw [this];rfl) (by
  rintro _ rec rfl;refine ⟨.inl ((st.conds.take st.conds.length).foldl Gr L),?_,?_⟩
  ·unfold D7;dsimp only;rw [bg (by omega),bc]
  ·show (st.conds.take st.conds.length).foldl Gr L=_
   rw [List.take_length]) (n:=FUEL) (by unfold FUEL;omega)
 rw [e,ba];unfold ofP;rw [hL]
 cases o with
 | inl a=>simp only at hR ⊢;rw [hR]
 | inr a=>simp only at hR ⊢;rw [hR]

set_option linter.unusedSimpArgs false
set_option linter.unusedVariables false
set_option maxRecDepth 20000
def Gk (st:Ah):Nat -> Spt -> List Spt
 | 0,_=>[]
 | n + 1,s=>ofP st s ++ (Fs s).flatMap (Gk st n)
theorem MT {f:Spt -> List Spt} (hf:∀ s:Spt,(f s).length <= (Et s.node.Kids).length) (p:List Int):∀ (l:List Ac) (i:Nat),l.length + ((HN p i l).flatMap f).length <= (Et l).length
 | [],i=>by simp [HN]
 | x :: l,i=>by
  have ih:=MT hf p l (i + 1);have h1:=hf ⟨p ++ [(i:Int)],x⟩;simp only [HN,List.flatMap_cons,bk,bi,Et,Hc] at h1 ih ⊢;omega
theorem MM (st:Ah):∀ (n:Nat) (s:Spt),(Gk st n s).length <= (Et s.node.Kids).length
 | 0,s=>by simp [Gk]
 | n + 1,s=>by
  have h1:=(Ka st s).length_le;have h2:=MT (MM st n) s.path s.node.Kids 0;unfold Fs at h1;rw [HV] at h1;simp only [Gk,bk];unfold Fs;omega
theorem Mm (p:List Int):∀ (l:List Ac) (i j:Nat) (h:j < l.length),(HN p i l)[j]?=some ⟨p ++ [((i + j:Nat):Int)],l[j]⟩
 | [],i,j,h=>by simp at h
 | x :: l,i,0,h=>rfl
 | x :: l,i,j + 1,h=>by
  simp only [HN,List.getElem?_cons_succ,List.getElem_cons_succ];rw [Mm p l (i + 1) j (by simpa using h),show i + 1 + j=i + (j + 1) by omega]
theorem U2 {st:Ah} {N:Nat} (hN:N <= 1048576) (hc:∀ c ∈ st.conds,OkC c N) (hcl:st.conds.length <= 1073741824):∀ (n:Nat) (s:Spt),szN s.node < n -> szN s.node <= N ->
  s.path.length + szN s.node <= 1048576 -> iter B4 n (st,s)=some (Gk st n s)
 | 0,s,h,_,_=>by omega
 | n + 1, s, h, hs, hp2 => by
  have hk:=DV s.node;have hkl:=F7 s.node;have ih:=fun q=>U2 hN hc hcl n q;rw [DS];generalize iter B4 n=rc at ih ⊢;unfold B4;simp only [letJ];rw [Afg st s hN hs (by omega) hc hcl,ba];have hof:=(Ka st s).length_le;unfold Fs at hof;rw [HV] at hof
  obtain ⟨o,e,rfl⟩:=A0 (b:=Do st s rc) (fun i x=>x=(ofP st s ++ ((Fs s).take i).flatMap (Gk st n),(i:Int))) (fun o=>o=ofP st s ++ (Fs s).flatMap (Gk st n)) s.node.Kids.length (x0:=(ofP st s,(0:Int))) (by simp) (by
   rintro i _ rec hi rfl;left;have hz:=GJ (bm hi);have hpos:=O7 s.node.Kids[i];have hget:=Mm s.path s.node.Kids 0 i hi;rw [Nat.zero_add] at hget;have htake:(Fs s).take (i + 1)=(Fs s).take i ++ [⟨s.path ++ [(i:Int)],s.node.Kids[i]⟩]:=by
    unfold Fs;rw [List.take_add_one,hget];rfl
   have hlenT:(((Fs s).take i).flatMap (Gk st n)).length <= 1048576:=by
    have h1:=MT (MM st n) s.path (s.node.Kids) 0;have h2:=GI s.node.Kids;have h3:(((Fs s).take i).flatMap (Gk st n)).length <= ((Fs s).flatMap (Gk st n)).length:=by
     conv=>rhs;rw [<- List.take_append_drop i (Fs s),List.flatMap_append,bk]
     omega
    unfold Fs at h3 ⊢;omega
   have hlenK:=MM st n ⟨s.path ++ [(i:Int)],s.node.Kids[i]⟩;have hlenK2:=GI s.node.Kids[i].Kids;have hlenK3:=F7 s.node.Kids[i];simp only at hlenK;refine ⟨_,?_,rfl⟩;unfold Do;dsimp only
   rw [bf (by omega),bb,AC hi,ba,DJ (by simp only [bj];omega) (by simp only [bj];omega),ba,List.nil_append,
    DJ (by simp only [bi,bj];omega) (by simp only [bi,bj];omega),ba,
    ih ⟨s.path ++ [(i:Int)],s.node.Kids[i]⟩ (by dsimp only;omega) (by dsimp only;omega) (by simp only [bk,bi,bj];omega),ba,
    DJ (by simp only [bk];omega) (by simp only [bk];omega),ba,w64 (by omega) (by omega),htake,List.flatMap_append]
   simp) (by
   rintro _ rec rfl;refine ⟨_,?_,rfl⟩;unfold Do;dsimp only;rw [bg (by omega),bc];have:(Fs s).take s.node.Kids.length=Fs s:=List.take_of_length_le (by unfold Fs;rw [HV];exact Nat.le_refl _)
   rw [this]) (n:=FUEL) (by unfold FUEL;omega)
  rw [e,ba];rfl

set_option linter.unusedSimpArgs false
set_option linter.unusedVariables false
set_option maxRecDepth 20000
theorem U9:∀ a b:List Int,Jb a b=HW a b
 | [],[]=>rfl
 | [],_ :: _=>rfl
 | _ :: _,[]=>rfl
 | x :: a, y :: b => by
  simp only [Jb,HW,Iy];by_cases h1:x < y
  ·simp [h1]
  ·by_cases h2:y < x
   ·simp [h1,h2]
   ·simp [h1,h2,U9 a b]
theorem OU:∀ (p q:List Int) (x:Ac),atP x (p ++ q)=(atP x p).bind fun y=>atP y q
 | [],q,x=>by simp [atP]
 | s :: r, q, x => by
  simp only [List.cons_append,atP];split
  ·rfl
  ·cases x.Kids[s.toNat]? with
   | none=>rfl
   | some y=>simp only [ba];exact OU r q y
theorem MW:∀ (l:List Int) (x y:Ac),atP x l=some y -> l.length + szN y <= szN x
 | [],x,y,h=>by simp only [atP,Option.some.injEq] at h;subst h;simp
 | s :: r,x,y,h=>by
  simp only [atP] at h;split at h
  ·cases h
  ·obtain ⟨z,hz,h2⟩:=Option.bind_eq_some_iff.1 h;have h3:=MW r z y h2;have h4:=GJ (List.mem_of_getElem? hz);simp only [bi];omega
def Blw (s x:Spt):Prop:=∃ q,q ≠ [] /\ x.path=s.path ++ q /\ atP s.node q=some x.node
def Dst (l:List Spt):Prop:=(l.map (·.path)).Nodup
def Val (d:Ac) (x:Spt):Prop:=atP d x.path=some x.node
theorem Blw.val {d:Ac} {s x:Spt} (h:Blw s x) (hv:Val d s):Val d x:=by
 obtain ⟨q,_,h1,h2⟩:=h;unfold Val at hv ⊢;rw [h1,OU,hv];exact h2
theorem Blw.pre {s x:Spt} (h:Blw s x):s.path <+: x.path:=by obtain ⟨q,_,h1,_⟩:=h;exact ⟨q,h1.symm⟩
theorem Ve {s x:Spt} (h:x ∈ Fs s):Blw s x:=by
 obtain ⟨j,hj,rfl⟩:=EQ h;refine ⟨[((0 + j:Nat):Int)],by simp,rfl,?_⟩;have:=Oo [] s.node (0 + j);simp only [List.nil_append,atP,ba] at this ⊢;rw [this];simp [hj]
theorem YE {st:Ah} {s x:Spt} (h:x ∈ ofP st s):Blw s x:=Ve ((Ka st s).subset h)
theorem Blw.trans {a b c:Spt} (h:Blw a b) (g:Blw b c):Blw a c:=by
 obtain ⟨q,h0,h1,h2⟩:=h;obtain ⟨r,g0,g1,g2⟩:=g;exact ⟨q ++ r,by simp [h0],by rw [g1,h1,List.append_assoc],by rw [OU,h2];exact g2⟩
theorem Ky (st:Ah):∀ (n:Nat) (s x:Spt),x ∈ Gk st n s -> Blw s x
 | 0,s,x,h=>by cases h
 | n + 1,s,x,h=>by
  rcases List.mem_append.1 h with h | h
  ·exact YE h
  ·obtain ⟨k,hk,hx⟩:=List.mem_flatMap.1 h;exact (Ve hk).trans (Ky st n k x hx)
theorem Mw (p:List Int):∀ (l:List Ac) (i:Nat),Dst (HN p i l)
 | [],i=>List.nodup_nil
 | x :: l,i=>by
  refine List.nodup_cons.2 ⟨fun h=>?_,Mw p l (i + 1)⟩;obtain ⟨y,hy,e⟩:=List.mem_map.1 h;obtain ⟨j,hj,rfl⟩:=EQ hy;have:=List.append_cancel_left e;simp at this;omega
def Inc (a b:Spt):Prop:=¬ a.path <+: b.path /\ ¬ b.path <+: a.path
theorem OY {f:Spt -> List Spt}:∀ (L:List Spt),(∀ s ∈ L,∀ x ∈ f s,Blw s x) -> (∀ s ∈ L,Dst (f s)) -> L.Pairwise Inc -> Dst (L.flatMap f)
 | [],_,_,_=>List.nodup_nil
 | s :: L,h1,h2,h3=>by
  obtain ⟨g1,g2⟩:=List.pairwise_cons.1 h3;unfold Dst;rw [List.flatMap_cons,List.map_append];refine List.nodup_append.2 ⟨h2 s List.mem_cons_self,OY L (fun s hs=>h1 s (List.mem_cons_of_mem _ hs)) (fun s hs=>h2 s (List.mem_cons_of_mem _ hs)) g2,?_⟩;intro p hp q hq e;subst e;obtain ⟨x,hx,rfl⟩:=List.mem_map.1 hp;obtain ⟨y,hy,e⟩:=List.mem_map.1 hq;obtain ⟨t,ht,hy⟩:=List.mem_flatMap.1 hy;have e1:=(h1 s List.mem_cons_self x hx).pre;have e2:=(h1 t (List.mem_cons_of_mem _ ht) y hy).pre;rw [e] at e2;rcases List.prefix_or_prefix_of_prefix e1 e2 with h | h
  ·exact (g1 t ht).1 h
  ·exact (g1 t ht).2 h
theorem UW (p:List Int) (l:List Ac) (i:Nat):(HN p i l).Pairwise Inc:=by
 have h:=Mw p l i;unfold Dst List.Nodup at h;rw [List.pairwise_map] at h;refine List.Pairwise.imp_of_mem ?_ h;intro a b ha hb hne;obtain ⟨j,_,rfl⟩:=EQ ha;obtain ⟨k,_,rfl⟩:=EQ hb;exact ⟨fun hp=>hne (hp.eq_of_length (by simp)),fun hp=>hne (hp.eq_of_length (by simp)).symm⟩
theorem Dst.sub {a b:List Spt} (h:Dst b) (hs:a.Sublist b):Dst a:=h.sublist (hs.map _)
theorem Vu (st:Ah) (s:Spt):Dst (ofP st s):=(Mw _ _ _).sub (Ka st s)
theorem Pu (st:Ah):∀ (n:Nat) (s:Spt),Dst (Gk st n s)
 | 0,s=>List.nodup_nil
 | n + 1,s=>by
  unfold Gk Dst;rw [List.map_append];refine List.nodup_append.2 ⟨Vu st s,OY _ (fun k _ x hx=>Ky st n k x hx) (fun k _=>Pu st n k) (UW _ _ _),?_⟩;intro p hp q hq e;subst e;obtain ⟨x,hx,rfl⟩:=List.mem_map.1 hp;obtain ⟨y,hy,e⟩:=List.mem_map.1 hq;obtain ⟨k,hk,hy⟩:=List.mem_flatMap.1 hy;obtain ⟨j,_,rfl⟩:=EQ ((Ka st s).subset hx);obtain ⟨i,_,rfl⟩:=EQ hk;obtain ⟨r,hr,h1,_⟩:=Ky st n _ y hy;rw [h1] at e;have:=congrArg List.length e;simp only [bk,bi,bj] at this;exact hr (List.length_eq_zero_iff.1 (by omega))
/- All paths. -/
mutual
def D5:Ac -> List (List Int)
 | ⟨_,_,_,Kids,_⟩=>[] :: DD 0 Kids
def DD:Nat -> List Ac -> List (List Int)
 | _,[]=>[]
 | i,x :: l=>(D5 x).map ((i:Int) :: ·) ++ DD (i + 1) l
end
mutual
theorem K8:∀ x:Ac,(D5 x).length <= szN x
 | ⟨k,nm,a,ks,t⟩=>by
  have h1:=KW ks 0;have h2:=F7 ⟨k,nm,a,ks,t⟩;simp only [D5,bi] at h1 h2 ⊢;omega
theorem KW:∀ (l:List Ac) (i:Nat),(DD i l).length <= Nd l
 | [],_=>by simp [DD]
 | x :: l,i=>by
  have h1:=K8 x;have h2:=KW l (i + 1);simp only [DD,bk,List.length_map,Nd] at h1 h2 ⊢;have:szN x=Bl x:=rfl;omega
end
theorem NH {p:List Int}:∀ (l:List Ac) (i j:Nat) (h:j < l.length),p ∈ D5 l[j] -> (((i + j:Nat):Int) :: p) ∈ DD i l
 | [],i,j,h,_=>by simp at h
 | x :: l,i,0,h,hp=>by
  simp only [DD];exact List.mem_append_left _ (List.mem_map.2 ⟨p,hp,rfl⟩)
 | x :: l,i,j + 1,h,hp=>by
  simp only [DD];refine List.mem_append_right _ ?_;have:=NH l (i + 1) j (by simpa using h) (by simpa using hp)
  rwa [show i + 1 + j=i + (j + 1) by omega] at this
theorem NT:∀ (p:List Int) (x y:Ac),atP x p=some y -> p ∈ D5 x
 | [],⟨k,nm,a,ks,t⟩,y,_=>List.mem_cons_self
 | s :: r,⟨k,nm,a,ks,t⟩,y,h=>by
  simp only [atP] at h;split at h
  ·cases h
  ·rename_i hs;obtain ⟨z,hz,h2⟩:=Option.bind_eq_some_iff.1 h;have h3:=NT r z y h2;obtain ⟨hj,rfl⟩:=List.getElem?_eq_some_iff.1 hz;have:=NH ks 0 s.toNat hj h3;rw [show (((0 + s.toNat:Nat):Int))=s by omega] at this;exact List.mem_cons_of_mem _ this
theorem Qr:∀ {l m:List (List Int)},l.Nodup -> (∀ x ∈ l,x ∈ m) -> l.length <= m.length
 | [],m,_,_=>Nat.zero_le _
 | x :: l,m,h,hs=>by
  obtain ⟨h1,h2⟩:=List.nodup_cons.1 h;have hx:=hs x List.mem_cons_self;have:=Qr (m:=m.erase x) h2 fun y hy=>(List.mem_erase_of_ne (fun e=>h1 (by rw [<- e];exact hy))).2 (hs y (List.mem_cons_of_mem _ hy));rw [List.length_erase_of_mem hx] at this;have hm:0 < m.length:=List.length_pos_of_mem hx;simp only [bi];omega
theorem Oe {d:Ac} {l:List Spt} (h:Dst l) (hv:∀ x ∈ l,Val d x):l.length <= szN d:=by
 have:=Qr (m:=D5 d) h fun p hp=>by
  obtain ⟨x,hx,rfl⟩:=List.mem_map.1 hp;exact NT _ _ _ (hv x hx)
 rw [List.length_map] at this;exact Nat.le_trans this (K8 d)

set_option linter.unusedSimpArgs false
set_option linter.unusedVariables false
set_option maxRecDepth 20000
theorem Ul (l m:List Int):l.isPrefixOf m=(decide (l.length <= m.length) && (l == m.take l.length)):=by
 rw [Bool.eq_iff_iff,List.isPrefixOf_iff_prefix,Bool.and_eq_true,decide_eq_true_eq,beq_iff_eq];exact ⟨fun h=>⟨h.length_le,List.prefix_iff_eq_take.1 h⟩,fun h=>List.prefix_iff_eq_take.2 h.2⟩
def QU (acc:List Spt) (x:Spt):Bool:=match acc.getLast? with
 | none=>true
 | some y=>!(y.path.isPrefixOf x.path)
def VO:List Spt -> List Spt -> List Spt
 | acc,[]=>acc
 | acc,x :: l=>VO (if QU acc x=true then acc ++ [x] else acc) l
def Xj (l:List Spt):List Spt:=VO [] l
theorem OS:∀ (l acc:List Spt),(VO acc l).Sublist (acc ++ l)
 | [],acc=>by simp [VO]
 | x :: l,acc=>by
  unfold VO;split
  ·have:=OS l (acc ++ [x]);simpa using this
  ·exact (OS l acc).trans ((List.Sublist.refl acc).append (List.sublist_cons_self x l))
theorem O3 (l:List Spt):(Xj l).Sublist l:=OS l []
def Srt (l:List Spt):Prop:=l.Pairwise fun a b=>HW a.path b.path < 0
theorem OL:∀ (l acc:List Spt),Srt (acc ++ l) -> (acc.Pairwise fun a b=>¬ a.path <+: b.path) -> (VO acc l).Pairwise fun a b=>¬ a.path <+: b.path
 | [],acc,_,h=>h
 | x :: l, acc, hs, h => by
  unfold VO;split
  ·rename_i hk;refine OL l (acc ++ [x]) (by simpa using hs) (List.pairwise_append.2 ⟨h,List.pairwise_singleton _ _,fun a ha b hb=>?_⟩);obtain rfl:=List.mem_singleton.1 hb;intro hp;obtain ⟨s1,s2,s3⟩:=List.pairwise_append.1 hs;unfold QU at hk
   cases hl:acc.getLast? with
   | none=>rw [List.getLast?_eq_none_iff] at hl;subst hl;cases ha
   | some y =>
    rw [hl] at hk;obtain ⟨init,rfl⟩:=List.getLast?_eq_some_iff.1 hl;have hny:¬ y.path <+: b.path:=by
     intro h;dsimp only at hk;rw [List.isPrefixOf_iff_prefix.2 h] at hk;cases hk
    rcases List.mem_append.1 ha with ha | ha
    ·have h1:=(List.pairwise_append.1 h).2.2 a ha y (List.mem_singleton.2 rfl);have h2:=(List.pairwise_append.1 s1).2.2 a ha y (List.mem_singleton.2 rfl);have h3:=XX hp h2 h1;have h4:=s3 y (List.mem_append_right _ (List.mem_singleton.2 rfl)) b List.mem_cons_self;have h5:=Jo.anti y.path b.path;omega
    ·obtain rfl:=List.mem_singleton.1 ha;exact hny hp
  ·refine OL l acc (List.Pairwise.sublist ((List.Sublist.refl acc).append (List.sublist_cons_self x l)) hs) h
theorem WB {l:List Spt} (h:Srt l):(Xj l).Pairwise Inc:=by
 have h1:=OL l [] (by simpa using h) .nil;have h2:Srt (Xj l):=List.Pairwise.sublist (O3 l) h;refine (h1.and h2).imp fun {a b} hh=>⟨hh.1,fun hp=>?_⟩
 have:=Yj hp;have h3:=Jo.anti a.path b.path;have h4:=hh.2;omega
theorem Wy (l:List Spt) (hl:l.length <= 1048576) (hp:∀ x ∈ l,x.path.length <= 1048576):Ge l=some (Xj l):=by
 unfold Ge;simp only [letJ]
 obtain ⟨o,e,rfl⟩:=A0 (b:=EU l) (fun i s=>s.2=(i:Int) /\ VO s.1 (l.drop i)=Xj l /\ s.1.length <= i /\ ∀ x ∈ s.1,x ∈ l) (fun o=>o=Xj l) l.length (x0:=(([]:List Spt),(0:Int))) ⟨rfl,rfl,by simp,fun x h=>by cases h⟩ (by
  rintro i ⟨acc,_⟩ rec hi ⟨rfl,h1,h2,h3⟩;simp only at h1 h2 h3;rw [List.drop_eq_getElem_cons hi] at h1;unfold VO at h1;left;have hx:=hp _ (bm hi);have go:∀ b:Bool,b=QU acc l[i] -> ∃ y,(cond b ((app 128 acc [l[i]]).bind fun _=>rec (acc ++ [l[i]],IntKind.wrap .i64 ((i:Int) + 1))) (rec (acc,IntKind.wrap .i64 ((i:Int) + 1))):Option (List Ag))=rec y /\ y.2=((i + 1:Nat):Int) /\ VO y.1 (l.drop (i + 1))=Xj l /\ y.1.length <= i + 1 /\ ∀ x ∈ y.1,x ∈ l:=by
   intro b hb;rw [w64 (by omega) (by omega)]
   cases b with
   | true =>
    rw [<- hb,if_pos rfl] at h1;refine ⟨(acc ++ [l[i]],((i + 1:Nat):Int)),?_,rfl,h1,by simp only [bk,bi,bj];omega,fun x hx=>?_⟩
    ·rw [bb,DJ (by simp only [bi,bj];omega) (by simp only [bi,bj];omega),ba];rfl
    ·rcases List.mem_append.1 hx with hx | hx
     ·exact h3 x hx
     ·rw [List.mem_singleton.1 hx];exact bm hi
   | false=>
    rw [<- hb,if_neg (by simp)] at h1;exact ⟨(acc,((i + 1:Nat):Int)),by rw [bc];rfl,rfl,h1,by simp only;omega,h3⟩
  unfold EU;simp only [letJ];rw [bf (by omega),bb,AC hi,ba]
  cases hl':acc.getLast? with
  | none=>
   have hk:true=QU acc l[i]:=by unfold QU;rw [hl']
   rw [List.getLast?_eq_none_iff] at hl';subst hl';exact go true hk
  | some y =>
   have hk:(!(y.path.isPrefixOf l[i].path))=QU acc l[i]:=by unfold QU;rw [hl']
   obtain ⟨init,rfl⟩:=List.getLast?_eq_some_iff.1 hl';have hy:=hp y (h3 y (List.mem_append_right _ (List.mem_singleton.2 rfl)));have hlen:(init ++ [y]).length=init.length + 1:=by simp
   have hix:idx (init ++ [y]) (IntKind.wrap .i64 (((init ++ [y]).length:Int) - 1))=some y:=by
    rw [w64 (by omega) (by omega),show ((init ++ [y]).length:Int) - 1=(init.length:Int) by omega,AC (by omega)];simp
   rw [show (((init ++ [y]).length:Int) == (0:Int))=false by rw [hlen];simp;omega,bc,hix,ba];rw [Ul] at hk;by_cases hlt:l[i].path.length < y.path.length
   ·rw [bf (by omega),bb];rw [bg (by omega),Bool.false_and,Bool.not_false] at hk;exact go true hk
   ·rw [bg (by omega),bc];simp only [ba];rw [W4 (by omega)];simp only [ba];rw [Ahb _ _ (by omega)];simp only [ba];rw [bf (by omega),Bool.true_and] at hk
    exact go _ hk) (by
  rintro ⟨acc,_⟩ rec ⟨rfl,h1,h2,h3⟩;simp only at h1;rw [List.drop_length] at h1;refine ⟨_,?_,h1⟩;unfold EU;dsimp only
  rw [bg (by omega),bc];rfl) (n:=FUEL) (by unfold FUEL;omega)
 rw [e];rfl
theorem Vg {T:Type} {cf:T -> T -> Int}:∀ {l:List T},(l.Pairwise fun a b=>cf a b ≠ 0) -> WD cf l=true
 | [],_=>rfl
 | x :: l,h=>by
  obtain ⟨h1,h2⟩:=List.pairwise_cons.1 h;simp only [WD,Bool.and_eq_true,List.all_eq_true,bne_iff_ne];exact ⟨h1,Vg h2⟩
structure InvS (d:Ac) (l:List Spt):Prop where
 s:Srt l
 v:∀ x ∈ l,Val d x
theorem InvS.dst {d:Ac} {l:List Spt} (h:InvS d l):Dst l:=by
 unfold Dst List.Nodup;rw [List.pairwise_map];refine h.s.imp fun {a b} hh e=>?_;rw [e,Jo.refl] at hh;omega
theorem Val.len {d:Ac} {x:Spt} (h:Val d x):x.path.length + szN x.node <= szN d:=MW _ _ _ h
theorem Z5 {d:Ac} {l:List Spt} (hs:szN d <= 1048576) (hd:Dst l) (hv:∀ x ∈ l,Val d x):PG JM Gl l=some (LZ Gl l) /\ InvS d (LZ Gl l):=by
 have hap:WD Gl l=true:=Vg (by
  unfold Dst List.Nodup at hd;rw [List.pairwise_map] at hd;refine hd.imp fun {a b} h e=>h ?_;unfold Gl at e;rw [U9] at e
  exact Qf e)
 have hg:l.all JM=true:=List.all_eq_true.2 fun x hx=>by
  have:=(hv x hx).len;unfold JM;rw [decide_eq_true_eq];omega
 have hl:=Oe hd hv;obtain ⟨p1,p2⟩:=Mg (cf:=Gl) (fun x y=>FJ _ _) UV hap;refine ⟨?_,⟨p2.imp fun {a b} h=>?_,fun x hx=>hv x (p1.subset hx)⟩⟩
 ·unfold PG;rw [hap,hg,bf (by omega)];rfl
 ·unfold Gl at h;rw [U9] at h;exact h
def stF (st:Ah) (s:Spt):List Spt:=if st.deep then Gk st FUEL s else ofP st s
def stL (st:Ah) (l:List Spt):List Spt:=if st.deep then Xj l else l
def Od (st:Ah) (l:List Spt):List Spt:=LZ Gl ((stL st l).flatMap (stF st))
theorem U8 {st:Ah} {s x:Spt} (h:x ∈ stF st s):Blw s x:=by
 unfold stF at h;split at h
 ·exact Ky st FUEL s x h
 ·exact YE h
theorem ZC (st:Ah) (s:Spt):Dst (stF st s):=by
 unfold stF;split
 ·exact Pu st FUEL s
 ·exact Vu st s
theorem Vw {st:Ah}:∀ (L:List Spt),Dst L -> Dst (L.flatMap (ofP st))
 | [],_=>List.nodup_nil
 | s :: L,h=>by
  obtain ⟨h1,h2⟩:=List.nodup_cons.1 h;unfold Dst;rw [List.flatMap_cons,List.map_append];refine List.nodup_append.2 ⟨Vu st s,Vw L h2,?_⟩;intro p hp q hq e;subst e;obtain ⟨x,hx,rfl⟩:=List.mem_map.1 hp;obtain ⟨y,hy,e⟩:=List.mem_map.1 hq;obtain ⟨t,ht,hy⟩:=List.mem_flatMap.1 hy;obtain ⟨j,_,rfl⟩:=EQ ((Ka st s).subset hx);obtain ⟨i,_,rfl⟩:=EQ ((Ka st t).subset hy);have:=List.append_inj_left' e rfl;exact h1 (List.mem_map.2 ⟨t,ht,this⟩)
theorem QP {d:Ac} (st:Ah) {l:List Spt} (h:InvS d l):Dst ((stL st l).flatMap (stF st)) /\ ∀ x ∈ (stL st l).flatMap (stF st),Val d x:=by
 have hsub:(stL st l).Sublist l:=by
  unfold stL;split
  ·exact O3 l
  ·exact .refl _
 refine ⟨?_,fun x hx=>?_⟩
 ·cases hd:st.deep with
  | true=>
   have e1:stL st l=Xj l:=by unfold stL;rw [hd];rfl
   rw [e1];exact OY _ (fun s _ x hx=>U8 hx) (fun s _=>ZC st s) (WB h.s)
  | false=>
   have e1:stL st l=l:=by unfold stL;rw [hd];rfl
   have e2:stF st=ofP st:=by funext s;unfold stF;rw [hd];rfl
   rw [e1,e2];exact Vw l h.dst
 ·obtain ⟨s,hs,hx⟩:=List.mem_flatMap.1 hx;exact (U8 hx).val (h.v s (hsub.subset hs))
theorem RG {d:Ac} (hs:szN d <= 1048576) (st:Ah) {l:List Spt} (h:InvS d l):PG JM Gl ((stL st l).flatMap (stF st))=some (Od st l) /\ InvS d (Od st l):=
 Z5 hs (QP st h).1 (QP st h).2

set_option linter.unusedSimpArgs false
set_option linter.unusedVariables false
set_option maxRecDepth 20000
def TT (st:Ah) (a:Ak):Bool:=(st.test == ([42]:List By8)) || ((a.Name.URI == st.name.URI) && ((a.Name.Local == st.name.Local) && true))
def Nh (st:Ah) (s:Spt):List Al:=(s.node.Attrs.filter (TT st)).map fun a=>⟨s.path,true,a.Name⟩
theorem Xs (st:Ah) (s:Spt):(Nh st s).length <= s.node.Attrs.length:=by
 unfold Nh;rw [List.length_map];exact List.length_filter_le _ _
theorem O5 {α β:Type} (f:α -> List β) (B:Nat):∀ l:List α,(∀ x ∈ l,(f x).length <= B) -> (l.flatMap f).length <= l.length * B
 | [],_=>by simp
 | x :: l,h=>by
  have h1:=h x List.mem_cons_self;have h2:=O5 f B l fun y hy=>h y (List.mem_cons_of_mem _ hy);rw [List.flatMap_cons,bk,bi,Nat.succ_mul];omega
theorem W9 (st:Ah) (s:Spt) (acc:List Al) (hp:s.path.length <= 1048576) (hA:s.node.Attrs.length <= 1048576) (ha:acc.length <= 1099511627776) :
  iter (Ec st s) FUEL (acc,(0:Int))=some (acc ++ Nh st s):=by
 obtain ⟨o,e,rfl⟩:=A0 (b:=Ec st s) (fun i x=>x=(acc ++ ((s.node.Attrs.take i).filter (TT st)).map (fun a=>(⟨s.path,true,a.Name⟩:Al)),(i:Int))) (fun o=>o=acc ++ Nh st s) s.node.Attrs.length (x0:=(acc,(0:Int))) (by simp) (by
  rintro i _ rec hi rfl;left;have hlen:(((s.node.Attrs.take i).filter (TT st)).map (fun a=>(⟨s.path,true,a.Name⟩:Al))).length <= 1048576:=by
   rw [List.length_map];have:=List.length_filter_le (TT st) (s.node.Attrs.take i);rw [List.length_take] at this;omega
  refine ⟨_,?_,rfl⟩;unfold Ec;simp only [letJ];rw [bf (by omega),bb,AC hi,ba,w64 (by omega) (by omega),List.take_succ_eq_append_getElem hi,List.filter_append,List.map_append];generalize hA':((s.node.Attrs.take i).filter (TT st)).map (fun a=>(⟨s.path,true,a.Name⟩:Al))=A at hlen ⊢;show (cond (TT st s.node.Attrs[i]) _ _:Option _)=_
  cases hf:TT st s.node.Attrs[i] with
  | false=>rw [bc];simp [hf]
  | true=>
   have hcl:L_CloneInts s.path=some s.path:=by unfold L_CloneInts;rw [if_pos (by omega)]
   rw [bb,hcl,ba,DJ (by simp only [bk,bi,bj];omega) (by simp only [bk,bi,bj];omega),ba]
   simp [hf]) (by
  rintro _ rec rfl;refine ⟨_,?_,rfl⟩;unfold Ec;dsimp only
  rw [bg (by omega),bc,List.take_length];rfl) (n:=FUEL) (by unfold FUEL;omega)
 exact e
def Aa0 (st:Ah) (l:List Spt):List Al:=l.flatMap (Nh st)
theorem Wi (st:Ah) (l:List Spt) (hl:l.length <= 1048576) (hx:∀ x ∈ l,x.path.length <= 1048576 /\ x.node.Attrs.length <= 1048576):Gm l st=some (Aa0 st l):=by
 unfold Gm;simp only [letJ]
 obtain ⟨o,e,rfl⟩:=A0 (b:=ER l st) (fun i x=>x=((l.take i).flatMap (Nh st),(i:Int))) (fun o=>o=Aa0 st l) l.length (x0:=(([]:List Al),(0:Int))) rfl (by
  rintro i _ rec hi rfl;left;obtain ⟨h1,h2⟩:=hx _ (bm hi);have hlen:((l.take i).flatMap (Nh st)).length <= 1099511627776:=by
   have h:=O5 (Nh st) 1048576 (l.take i) fun x hx'=>Nat.le_trans (Xs st x) (hx x (List.mem_of_mem_take hx')).2;have h3:(l.take i).length * 1048576 <= 1048576 * 1048576:=Nat.mul_le_mul_right _ (by rw [List.length_take];omega);omega
  refine ⟨_,?_,rfl⟩;unfold ER;simp only [letJ];rw [bf (by omega),bb,AC hi,ba,w64 (by omega) (by omega),W9 st _ _ h1 h2 hlen,ba,List.take_succ_eq_append_getElem hi,List.flatMap_append]
  simp) (by
  rintro _ rec rfl;refine ⟨_,?_,rfl⟩;unfold ER;dsimp only
  rw [bg (by omega),bc,List.take_length];rfl) (n:=FUEL) (by unfold FUEL;omega)
 rw [e];rfl
def trS (s:Spt):Al:=⟨s.path,false,⟨[],[]⟩⟩
def Np:List Ah -> List Spt -> List Al
 | [],l=>l.map trS
 | st :: r,l=>if st.attr then Aa0 st l else Np r (Od st l)
def OkS (N:Nat) (st:Ah):Prop:=(∀ c ∈ st.conds,OkC c N) /\ st.conds.length <= 1073741824
theorem Zm {d:Ac} {st:Ah} {l:List Spt} (hs:szN d <= 1048576) (hok:OkS (szN d) st) (h:InvS d l):iter (Ew st (stL st l)) FUEL (([]:List Spt),(0:Int))=some ((stL st l).flatMap (stF st)):=by
 obtain ⟨hd,hv⟩:=QP st h;have hsub:(stL st l).Sublist l:=by
  unfold stL;split
  ·exact O3 l
  ·exact .refl _
 have hll:=Oe h.dst h.v;have hLl:=hsub.length_le;generalize hL:stL st l=L at hd hv hsub hLl ⊢
 obtain ⟨o,e,rfl⟩:=A0 (b:=Ew st L) (fun i x=>x=((L.take i).flatMap (stF st),(i:Int))) (fun o=>o=L.flatMap (stF st)) L.length (x0:=(([]:List Spt),(0:Int))) rfl (by
  rintro i _ rec hi rfl;left;have hval:=h.v _ (hsub.subset (bm hi));have hvl:=hval.len;have hlen:((L.take i).flatMap (stF st)).length + (stF st L[i]).length <= 1048576:=by
   have e1:(L.take (i + 1)).flatMap (stF st)=(L.take i).flatMap (stF st) ++ stF st L[i]:=by
    rw [List.take_succ_eq_append_getElem hi,List.flatMap_append];simp
   have e2:((L.take (i + 1)).flatMap (stF st)).Sublist (L.flatMap (stF st)):=by
    conv=>rhs;rw [<- List.take_append_drop (i + 1) L,List.flatMap_append]
    exact List.sublist_append_left _ _
   have:=Oe (hd.sub e2) (fun x hx=>hv x (e2.subset hx));rw [e1,bk] at this;omega
  have key:∃ r,(cond st.deep (FW st L[i]) (Dw st L[i]))=some r /\ r=stF st L[i]:=by
   cases hdp:st.deep with
   | true=>
    rw [bb];refine ⟨_,U2 (N:=szN d) (by omega) hok.1 hok.2 FUEL L[i] (by unfold FUEL;omega) (by omega) (by omega),?_⟩;unfold stF;rw [hdp];rfl
   | false=>
    rw [bc];refine ⟨_,Afg (N:=szN d) st L[i] (by omega) (by omega) (by omega) hok.1 hok.2,?_⟩;unfold stF;rw [hdp];rfl
  obtain ⟨r,hr,hr2⟩:=key;refine ⟨((L.take (i + 1)).flatMap (stF st),((i + 1:Nat):Int)),?_,rfl⟩;have e1:(L.take (i + 1)).flatMap (stF st)=(L.take i).flatMap (stF st) ++ stF st L[i]:=by
   rw [List.take_succ_eq_append_getElem hi,List.flatMap_append];simp
  rw [e1,<- hr2];rw [<- hr2] at hlen;unfold Ew;simp only [letJ];rw [bf (by omega),bb,AC hi,ba,w64 (by omega) (by omega)]
  cases hdp:st.deep with
  | true=>
   rw [hdp,bb] at hr;rw [bb,hr,ba,DJ (by omega) (by omega),ba,ba];rfl
  | false=>
   rw [hdp,bc] at hr
   rw [bc,hr,ba,DJ (by omega) (by omega),ba,ba];rfl) (by
  rintro _ rec rfl;refine ⟨_,?_,rfl⟩;unfold Ew;dsimp only
  rw [bg (by omega),bc,List.take_length]) (n:=FUEL) (by unfold FUEL;omega)
 exact e
theorem Aah (l:List Spt) (hl:l.length <= 1048576):iter (Ev l) FUEL (([]:List Al),(0:Int))=some (l.map trS):=by
 obtain ⟨o,e,rfl⟩:=A0 (b:=Ev l) (fun i x=>x=((l.take i).map trS,(i:Int))) (fun o=>o=l.map trS) l.length (x0:=(([]:List Al),(0:Int))) rfl (by
  rintro i _ rec hi rfl;left;have hlen:((l.take i).map trS).length <= 1048576:=by rw [List.length_map,List.length_take];omega
  refine ⟨_,?_,rfl⟩;unfold Ev;dsimp only;rw [bf (by omega),bb,AC hi,ba,w64 (by omega) (by omega),DJ (by simp only [bi,bj];omega) (by simp only [bi,bj];omega),ba,List.take_succ_eq_append_getElem hi,List.map_append]
  rfl) (by
  rintro _ rec rfl;refine ⟨_,?_,rfl⟩;unfold Ev;dsimp only
  rw [bg (by omega),bc,List.take_length]) (n:=FUEL) (by unfold FUEL;omega)
 exact e
theorem InvS.bnd {d:Ac} {l:List Spt} (hs:szN d <= 1048576) (h:InvS d l):l.length <= 1048576 /\ ∀ x ∈ l,x.path.length <= 1048576 /\ x.node.Attrs.length <= 1048576:=by
 refine ⟨Nat.le_trans (Oe h.dst h.v) hs,fun x hx=>?_⟩;have h1:=(h.v x hx).len;have h2:=DF x.node;exact ⟨by omega,by omega⟩
def SF:List Ah -> List Spt -> List Spt
 | [],l=>l
 | st :: r,l=>SF r (Od st l)
theorem YN {d:Ac} (hs:szN d <= 1048576) (x:List Ah × Int × Int) (hx:∀ st ∈ x.1,OkS (szN d) st) (hlen:x.1.length <= 1048576) :
  ∃ o,iter (Ez x) FUEL ([(⟨([]:List Int),d⟩:Ag)],(0:Int))=some o /\ (match o with | .inl l=>InvS d l /\ Np x.1 [⟨[],d⟩]=l.map trS | .inr t=>t=(Np x.1 [⟨[],d⟩],0,0)):=by
 refine A0 (b:=Ez x) (fun i y=>y.2=(i:Int) /\ InvS d y.1 /\ Np x.1 [⟨[],d⟩]=Np (x.1.drop i) y.1) _ x.1.length (x0:=([(⟨([]:List Int),d⟩:Ag)],(0:Int))) ⟨rfl,⟨List.pairwise_singleton _ _,fun y hy=>?_⟩,rfl⟩ ?_ ?_ (n:=FUEL) (by unfold FUEL;omega)
 ·rw [List.mem_singleton.1 hy];rfl
 ·rintro i ⟨l,_⟩ rec hi ⟨rfl,hI,hp⟩;simp only at hI hp;obtain ⟨b1,b2⟩:=hI.bnd hs;have hok:=hx _ (bm hi);rw [List.drop_eq_getElem_cons hi] at hp;unfold Ez;simp only [letJ];rw [bf (by omega),bb,AC hi,ba,w64 (by omega) (by omega)];rw [show ∀ (st:Ah) (r:List Ah),Np (st :: r) l=if st.attr then Aa0 st l else Np r (Od st l) from fun _ _=>rfl] at hp
  cases ha:x.1[i].attr with
  | true=>
   right;rw [ha,if_pos rfl] at hp;rw [bb,Wi _ _ b1 b2,ba];exact ⟨_,rfl,by rw [hp]⟩
  | false =>
   left;rw [ha,if_neg (by simp)] at hp;obtain ⟨s1,s2⟩:=RG hs x.1[i] hI;have hl1:=Zm hs hok hI;have hout:=Wy l b1 fun y hy=>(b2 y hy).1;refine ⟨(Od x.1[i] l,((i + 1:Nat):Int)),?_,rfl,s2,hp⟩;rw [bc];unfold stL at s1 hl1
   cases hd:x.1[i].deep with
   | true=>
    rw [hd,if_pos rfl] at s1 hl1;rw [bb,hout,ba,hl1,ba,s1,ba];rfl
   | false=>
    rw [hd,if_neg (by simp)] at s1 hl1;rw [bc,hl1,ba,s1,ba];rfl
 ·rintro ⟨l,_⟩ rec ⟨rfl,hI,hp⟩;simp only at hI hp;rw [List.drop_length] at hp;refine ⟨.inl l,?_,hI,hp⟩;unfold Ez;dsimp only;rw [bg (by omega),bc]
theorem QY {d:Ac} (hs:szN d <= 1048576) (q:List By8) (x:List Ah × Int × Int) (hr:Dj q=some x) (hx:∀ st ∈ x.1,OkS (szN d) st) (hlen:x.1.length <= 1048576) :
  Ej d q=some (if x.2.2 ≠ 0 then ([],x.2.1,x.2.2) else if Cv d=some 0 then (Np x.1 [⟨[],d⟩],0,0) else ([],0,(Cv d).getD 0)):=by
 unfold Ej;rw [hr,ba];by_cases h0:x.2.2=0
 ·rw [show (x.2.2 != (0:Int))=false by simp [h0],bc,if_neg (by simpa using h0)];obtain ⟨r,hc,_⟩:=N2 d hs;rw [hc,ba];by_cases hr0:r=0
  ·subst hr0;rw [show ((0:Int) != (0:Int))=false by simp,bc,if_pos rfl];simp only [letJ];obtain ⟨o,e,ho⟩:=YN hs x hx hlen;rw [e,ba]
   cases o with
   | inr t=>simp only at ho ⊢;rw [ho]
   | inl l=>
    obtain ⟨hI,hp⟩:=ho;simp only;rw [Aah l (hI.bnd hs).1,ba,hp]
  ·rw [show (r != (0:Int))=true by simpa using hr0,bb,if_neg (by simpa using hr0)];rfl
 ·rw [show (x.2.2 != (0:Int))=true by simpa using h0,bb,if_pos h0]
end Go.Proofs.YtmnbjcpikllknaaGreatDoor
