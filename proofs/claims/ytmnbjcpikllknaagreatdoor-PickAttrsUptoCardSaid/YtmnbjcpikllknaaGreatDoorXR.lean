/- How paths compare: the program's own function, to the world's end. No condition. -/
import Derived.Deep.LoopGhost
import Derived.Deep.Draws
import Derived.Shelf.RegionOpenPlain
import Derived.Test.YtmnbjcpikllknaaGreatDoorPf
import Derived.Test.YtmnbjcpikllknaaGreatDoorTy
set_option linter.unusedSimpArgs false
set_option linter.unusedVariables false
set_option maxRecDepth 100000
namespace Go.Proofs.YtmnbjcpikllknaaGreatDoor
open Go.Proofs.Tryz
open Go.RowKit Go.Shelf Go.Lib Go.Sort
theorem Uv (x y:Int) (W:World):Calls prog 57 #[.int .i64 x,.int .i64 y] W fun e w'=>e=.returned (.int .i64 (Lib.compareInt x y)) /\ w'=W:=
 AnyG.cmp_Compare_int Tryz.cmpInt x y W
theorem KE:∀ (k:Nat) (l m:List Int),l.take k=m.take k -> k <= l.length -> k <= m.length -> Jb l m=Jb (l.drop k) (m.drop k)
 | 0,l,m,_,_,_=>rfl
 | k + 1,[],m,_,h,_=>by simp at h
 | k + 1,x :: l,[],_,_,h=>by simp at h
 | k + 1,x :: l,y :: m,h,h1,h2=>by
  simp only [List.take_succ_cons,List.cons.injEq] at h;obtain ⟨rfl,h⟩:=h;simp only [List.drop_succ_cons];rw [<- KE k l m h (by simpa using h1) (by simpa using h2)];simp [Jb]
theorem KN {l:List Int} {k:Nat} (h:k < l.length):l.drop k=l[k] :: l.drop (k + 1):=List.drop_eq_getElem_cons h
theorem Pp {l:List Int} {k:Nat} (h:k < l.length):l[k]! = l[k]:=getElem!_pos l k h
theorem UY {x y:Int} {a b:List Int} (h:Lib.compareInt x y ≠ 0):Jb (x :: a) (y :: b)=Lib.compareInt x y:=by
 unfold Lib.compareInt at *;simp only [Jb];by_cases h1:x < y
 ·simp [h1]
 ·by_cases h2:y < x
  ·simp [h1,h2]
  ·simp [h1,h2] at h
theorem Wo {x y:Int} (h:Lib.compareInt x y=0):x=y:=by
 unfold Lib.compareInt at h;by_cases h1:x < y
 ·simp [h1] at h
 ·by_cases h2:y < x
  ·simp [h1,h2] at h
  ·omega
set_option maxHeartbeats 2000000 in
theorem Compare_calls (w:World) (b1 o1 c1 b2 o2 c2:Nat) (l1 l2:List Int) (h1:∀ j,j < l1.length -> w.cell? ⟨b1,o1 + j,none⟩=some (.int .i64 l1[j]!)) (h2:∀ j,j < l2.length -> w.cell? ⟨b2,o2 + j,none⟩=some (.int .i64 l2[j]!))
  (hl1:l1.length <= 4611686018427387904) (hl2:l2.length <= 4611686018427387904):Calls prog 40 #[.slice (some ⟨b1,o1,none⟩) l1.length c1,.slice (some ⟨b2,o2,none⟩) l2.length c2] w fun e w'=>e=.returned (.int .i64 (Jb l1 l2)) /\ ∃ q,w'=w.drewN q:=by
 generalize hn:l1.length=n at hl1 ⊢;generalize hm:l2.length=m at hl2 ⊢
 go_enter func40,ntmps40
 go_wp2
 go_loopg [11] n (fun g s11 wr=>∃ k q:Nat,k <= n /\ n - k <= g /\ s11=.int .i64 k /\ wr=w.drewN q /\ Aside (l1.take k=l2.take k /\ k <= m))
 case atStart=>exact ⟨0,0,Nat.zero_le _,by omega,rfl,rfl,⟨rfl,Nat.zero_le _⟩⟩
 case round =>
  obtain ⟨k,q,hk,hg,rfl,rfl,A⟩:=hrel;by_cases hlt:k < n
  ·have g1:w.cell? ⟨b1,o1 + k,none⟩=some (.int .i64 l1[k]!):=h1 k (by omega);by_cases hmt:k < m
   ·have g2:w.cell? ⟨b2,o2 + k,none⟩=some (.int .i64 l2[k]!):=h2 k (by omega);clear h1 h2;have hcmp:=Uv l1[k]! l2[k]!;generalize hx:l1[k]! = x at g1 hcmp;generalize hy:l2[k]! = y at g2 hcmp;generalize hr:Lib.compareInt x y=r at hcmp;have B:Aside (l1[k]! = x /\ l2[k]! = y /\ Lib.compareInt x y=r):=⟨hx,hy,hr⟩
    clear hx hy hr;by_cases r0:r=0
    ·subst r0
     go_wp2_with (go_at_call 57;refine (hcmp _).mono ?_;rintro e w' ⟨rfl,rfl⟩)
     go_roundg (n - (k + 1))
     case measure=>omega
     case rel=>
      refine ⟨k + 1,q,by omega,by omega,by go_num,rfl,(show Aside _ from ?_)⟩;have a:=A.out;have b:=B.out;have e:=Wo b.2.2;refine ⟨?_,by omega⟩;rw [Pp (by omega)] at b;have b2:=b.2.1;rw [Pp (by omega)] at b2;rw [List.take_succ_eq_append_getElem (by omega),List.take_succ_eq_append_getElem (by omega),a.1,b.1,b2,e]
    ·go_wp2_with (go_at_call 57;refine (hcmp _).mono ?_;rintro e w' ⟨rfl,rfl⟩)
     go_ret
     have a:=A.out;have b:=B.out;rw [Pp (by omega)] at b;have b2:=b.2.1;rw [Pp (by omega)] at b2;have hres:Jb l1 l2=r:=by
      rw [KE k l1 l2 a.1 (by omega) (by omega),KN (l:=l1) (by omega),KN (l:=l2) (by omega),b.1,b2,UY (by rw [b.2.2];exact r0),b.2.2]
     exact ⟨by rw [hres];rfl,q,rfl⟩
   ·clear h1 h2
    go_wp2
    go_ret
    have a:=A.out;have e2:l2.drop k=[]:=List.drop_of_length_le (by omega);have hres:Jb l1 l2=1:=by
     rw [KE k l1 l2 a.1 (by omega) (by omega),KN (l:=l1) (by omega),e2];rfl
    exact ⟨by rw [hres];rfl,q,rfl⟩
  ·have:k=n:=by omega
   subst this;clear h1 h2;have e1:l1.drop k=[]:=List.drop_of_length_le (by omega);by_cases hnm:k < m
   ·have hres:Jb l1 l2=-1:=by
     have a:=A.out;rw [KE k l1 l2 a.1 (by omega) (by omega),e1,KN (l:=l2) (by omega)];rfl
    go_wp2
    go_ret
    exact ⟨by rw [hres];rfl,q,rfl⟩
   ·have hres:Jb l1 l2=0:=by
     have a:=A.out;have e2:l2.drop k=[]:=List.drop_of_length_le (by omega);rw [KE k l1 l2 a.1 (by omega) (by omega),e1,e2];rfl
    go_wp2
    go_ret
    exact ⟨by rw [hres];rfl,q,rfl⟩
theorem Compare_nil1 (w:World) (a1:Option Addr) (c1:Nat) (a2:Option Addr) (c2 m:Nat) (l2:List Int) (hm:l2.length=m) (hl2:m <= 4611686018427387904):Calls prog 40 #[.slice a1 0 c1,.slice a2 m c2] w fun e w'=>e=.returned (.int .i64 (Jb [] l2)) /\ ∃ q,w'=w.drewN q:=by
 go_enter func40,ntmps40
 go_wp2
 refine wp_loop_rounds 1 ?_;rw [rounds_succ];by_cases h0:m=0
 ·subst h0
  go_wp2
  go_ret
  refine ⟨?_,0,rfl⟩;have:l2=[]:=List.eq_nil_of_length_eq_zero hm;subst this;simp [Jb]
 ·go_wp2
  go_ret
  refine ⟨?_,0,rfl⟩
  cases l2 with
  | nil=>simp at hm;omega
  | cons=>simp [Jb]
theorem Compare_nil2 (w:World) (b1 o1 c1:Nat) (a2:Option Addr) (c2 n:Nat) (x:Int) (l1:List Int) (hn:l1.length + 1=n) (h1:w.cell? ⟨b1,o1,none⟩=some (.int .i64 x)) (hl:n <= 4611686018427387904):Calls prog 40 #[.slice (some ⟨b1,o1,none⟩) n c1,.slice a2 0 c2] w fun e w'=>e=.returned (.int .i64 (Jb (x :: l1) [])) /\ ∃ q,w'=w.drewN q:=by
 have h1':w.cell? ⟨b1,o1 + 0,none⟩=some (.int .i64 x):=h1;have hp:0 < n:=by omega
 go_enter func40,ntmps40
 go_wp2
 refine wp_loop_rounds 1 ?_;rw [rounds_succ]
 go_wp2
 go_ret
 exact ⟨rfl,0,rfl⟩

set_option linter.unusedSimpArgs false
set_option linter.unusedVariables false
set_option maxRecDepth 100000
open Go.RowKit Go.Shelf Go.Lib Go.Sort
theorem al2 (W:World) (A B:Obj) (q:Nat):((W.alloc A).alloc B).drewN q=grow (W.drewN q) (#[A] ++ #[B]):=by rw [alloc_eq_grow,alloc_eq_grow,grow_grow];rfl
set_option maxHeartbeats 2000000 in
theorem Clo_calls (W:World) (r:Int) (s1 x1 x2 x3 x4 x5 x6 s2 y1 y2 y3 y4 y5 y6:Value) (o1:∃ a n c,s1=.slice a n c) (o2:∃ a n c,s2=.slice a n c)
  (hcon:∀ os,Calls prog 40 #[s1,s2] (grow W os) fun e w'=>e=.returned (.int .i64 r) /\ ∃ q,w'=(grow W os).drewN q) :
  Calls prog 39 #[.agg #[s1,x1,x2,x3,x4,x5,x6],.agg #[s2,y1,y2,y3,y4,y5,y6]] W fun e w'=>e=.returned (.int .i64 r) /\ ∃ q os,w'=grow (W.drewN q) os:=by
 obtain ⟨a1,n1,c1,rfl⟩:=o1;obtain ⟨a2,n2,c2,rfl⟩:=o2;have hcon':∀ A B,Calls prog 40 #[.slice a1 n1 c1,.slice a2 n2 c2] ((W.alloc A).alloc B) fun e w'=>e=.returned (.int .i64 r) /\ ∃ q,w'=((W.alloc A).alloc B).drewN q:=fun A B=>by
  rw [alloc_eq_grow,alloc_eq_grow,grow_grow];exact hcon _
 clear hcon
 go_enter func39,ntmps39
 go_wp2_with (go_at_call 40;refine (hcon' _ _).mono ?_;rintro e w' ⟨rfl,q,rfl⟩)
 go_ret
 exact ⟨rfl,q,_,al2 ..⟩
theorem LR7 {K:Kn} {vs:List Value} {d1 d2 d3 d4 d5 d6 d7:D} (h:LR K vs [d1,d2,d3,d4,d5,d6,d7]):∃ v1 v2 v3 v4 v5 v6 v7,vs=[v1,v2,v3,v4,v5,v6,v7] /\ VR K v1 d1:=by
 cases h with | cons _ h1 r=>cases r with | cons _ _ r=>cases r with | cons _ _ r=>cases r with | cons _ _ r=>cases r with | cons _ _ r=>cases r with | cons _ _ r=>cases r with | cons _ _ r=>cases r with | nil=>exact ⟨_,_,_,_,_,_,_,rfl,h1⟩
theorem FJ:∀ a b:List Int,Jb b a=- Jb a b
 | [],[]=>rfl
 | [],_ :: _=>rfl
 | _ :: _,[]=>rfl
 | x :: a, y :: b => by
  simp only [Jb];by_cases h1:x < y
  ·have:¬ y < x:=by omega
   simp [h1,this]
  ·by_cases h2:y < x
   ·simp [h1,h2]
   ·simp only [if_neg h1,if_neg h2,FJ a b]
theorem Jq:∀ a b c:List Int,Jb a b <= 0 -> Jb b c <= 0 -> Jb a c <= 0
 | [],[],c,_,h=>h
 | [],_ :: _,[],_,_=>by simp [Jb]
 | [],_ :: _,_ :: _,_,_=>by simp [Jb]
 | _ :: _,[],_,h,_=>by simp [Jb] at h
 | x :: a,y :: b,[],_,h=>by simp [Jb] at h
 | x :: a, y :: b, z :: c, h1, h2 => by
  simp only [Jb] at h1 h2 ⊢;split at h1
  ·split at h2
   ·rw [if_pos (by omega)];omega
   ·split at h2
    ·omega
    ·rw [if_pos (by omega)];omega
  ·split at h1
   ·omega
   ·split at h2
    ·rw [if_pos (by omega)];omega
    ·split at h2
     ·omega
     ·rw [if_neg (by omega),if_neg (by omega)];exact Jq a b c h1 h2
theorem QJ (a b c:List Int) (h1:Jb a b < 0) (h2:Jb b c <= 0):Jb a c < 0:=by
 have h3:=Jq a b c (by omega) h2;rcases Int.lt_or_le (Jb a c) 0 with h | h
 ·exact h
 ·have h4:Jb c a <= 0:=by rw [FJ];omega
  have h5:=Jq b c a h2 h4;have h6:=FJ a b;omega
theorem Vr (x y:Ag):ltOf Gl x y=decide (Jb x.path y.path < 0):=rfl
theorem UV:SWO (ltOf Gl) where
 irrefl x:=by have:=FJ x.path x.path;rw [Vr,decide_eq_false_iff_not];omega
 trans x y z h1 h2:=by rw [Vr,decide_eq_true_eq] at *;exact QJ _ _ _ h1 (by omega)
 ntrans x y z h1 h2:=by
  rw [Vr,decide_eq_false_iff_not] at *;have a1:=FJ x.path y.path;have a2:=FJ y.path z.path;have a3:=FJ x.path z.path;have:=Jq z.path y.path x.path (by omega) (by omega);omega
theorem Ta (K:Kn) (h:Heap) (w:World) (x y:Ag) (vx vy:List Value) (gx:JM x=true) (gy:JM y=true) (H:HR K h w) (hx:LR K vx (Ai x)) (hy:LR K vy (Ai y)) :
  Calls prog 39 #[.agg vx.toArray,.agg vy.toArray] w fun e w'=>e=.returned (.int .i64 (Gl x y)) /\ ∃ q os,w'=grow (w.drewN q) os:=by
 obtain ⟨s1,x1,x2,x3,x4,x5,x6,rfl,r1⟩:=LR7 hx;obtain ⟨s2,y1,y2,y3,y4,y5,y6,rfl,r2⟩:=LR7 hy;simp only [JM,decide_eq_true_eq] at gx gy;show Calls prog 39 #[.agg #[s1,x1,x2,x3,x4,x5,x6],.agg #[s2,y1,y2,y3,y4,y5,y6]] w _;have q1:=RY (c:=fun b:Int=>.int .i64 b) H r1;have q2:=RY (c:=fun b:Int=>.int .i64 b) H r2;have old:∀ (os:Array Obj) {b o:Nat} {v:Value},w.cell? ⟨b,o,none⟩=some v -> (grow w os).cell? ⟨b,o,none⟩=some v:=fun os b o v hv=>by rw [cell?_grow _ _ _ (cell?_lt hv)];exact hv
 have row:∀ {b o:Nat} {l:List Int},(∀ j x,l[j]?=some x -> ∃ u,w.cell? ⟨b,o + j,none⟩=some u /\ VR K u (.int .i64 x)) -> ∀ (os:Array Obj) j,j < l.length -> (grow w os).cell? ⟨b,o + j,none⟩=some (.int .i64 l[j]!):=fun hc os j hj=>by
  obtain ⟨u,hu,hr⟩:=hc j _ (List.getElem?_eq_getElem hj);rw [Li hr] at hu;rw [Pp hj];exact old os hu
 rcases q1 with ⟨e1,a1,rfl⟩ | ⟨b1,o1,c1,rfl,_,hc1⟩
 ·have e2:∃ a c,s2=.slice a y.path.length c:=by
   rcases q2 with ⟨e2,a2,rfl⟩ | ⟨b2,o2,c2,rfl,_,_⟩
   ·exact ⟨a2,0,by rw [e2];rfl⟩
   ·exact ⟨_,_,rfl⟩
  obtain ⟨a2,c2,rfl⟩:=e2;refine Clo_calls w _ _ _ _ _ _ _ _ _ _ _ _ _ _ _ ⟨_,_,_,rfl⟩ ⟨_,_,_,rfl⟩ fun os=>?_;have:=Compare_nil1 (grow w os) a1 0 a2 c2 _ y.path rfl gy;rw [<- e1] at this;exact this
 ·rcases q2 with ⟨e2,a2,rfl⟩ | ⟨b2,o2,c2,rfl,_,hc2⟩
  ·cases hp:x.path with
   | nil=>
    refine Clo_calls w _ _ _ _ _ _ _ _ _ _ _ _ _ _ _ ⟨_,_,_,rfl⟩ ⟨_,_,_,rfl⟩ fun os=>?_;have:=Compare_nil1 (grow w os) (some ⟨b1,o1,none⟩) c1 a2 0 0 [] rfl (by omega);unfold Gl;rw [hp,e2];exact this
   | cons z l=>
    refine Clo_calls w _ _ _ _ _ _ _ _ _ _ _ _ _ _ _ ⟨_,_,_,rfl⟩ ⟨_,_,_,rfl⟩ fun os=>?_;have:=Compare_nil2 (grow w os) b1 o1 c1 a2 0 _ z l rfl (by have:=row hc1 os 0 (by rw [hp];simp);simpa [hp] using this) (by rw [hp] at gx;simpa using gx);unfold Gl;rw [hp,e2];exact this
  ·refine Clo_calls w _ _ _ _ _ _ _ _ _ _ _ _ _ _ _ ⟨_,_,_,rfl⟩ ⟨_,_,_,rfl⟩ fun os=>?_;exact Compare_calls (grow w os) b1 o1 c1 b2 o2 c2 x.path y.path (row hc1 os) (row hc2 os) gx gy
theorem Xt {w:World} {p:Option Addr} {cap:Nat} {fv:Value}:Calls prog 38 #[.slice p 0 cap,fv] w fun e w'=>e=.returned (.tuple #[]) /\ w'=w:=AnyF.slices_SortFunc_none Tryz.laysF06 p cap fv w
theorem Agj (K:Kn):∃ z vs,JM z=true /\ LR K vs (Ai z):=
 ⟨⟨[],⟨0,⟨[],[]⟩,[],[],[]⟩⟩,[.slice none 0 0,.int .i64 0,.string ⟨#[]⟩,.string ⟨#[]⟩,.slice none 0 0,.slice none 0 0,.string ⟨#[]⟩],rfl,
  .cons rfl (.slz _ _) (.cons rfl (.int _ _) (.cons rfl (.str []) (.cons rfl (.str []) (.cons rfl (.slz _ _) (.cons rfl (.slz _ _) (.cons rfl (.str []) .nil))))))⟩
theorem Wa {T:Type} {cf:T -> T -> Int} {l:List T}:(LZ cf l).length=l.length:=(KD l).length_eq
theorem Sort_ok {β:Type} {G:β -> Prop} {R:D -> Heap -> Prop} {f:List Ag -> Option β} {e:List Ag} {id:Nat} (h:Heap) (O:List (Nat × AObj)) (hz:id=0 -> e=[]) (ok:OK h (mo id Ai e :: O)) (hF:OptP ((PG JM Gl e).bind f) G)
  (hk:∀ r,(id=0 -> r=[]) -> r.length=e.length -> OK h (mo id Ai r :: O) -> OptP (f r) G -> R (.tup []) (Hp h (mo id Ai r :: O))):CallsA prog 38 [D0 7 id e,.fn (.func 39) [] []] (Hp h (mo id Ai e :: O)) R:=by
 obtain ⟨r,hr,hF⟩:=A8 hF;have hlen:r.length=e.length:=by rw [(NJ hr).2.2.2];exact Wa
 by_cases hid:id=0
 ·subst hid;have he:=hz rfl;subst he;have hr0:r=[]:=List.eq_nil_of_length_eq_zero hlen;subst hr0;refine .inl ⟨Ae3,fun K w vs H hl hv=>?_⟩;have h0:=hv 0;rw [XC hl];generalize vs.getD 0 undef=v0 at h0;have h0':VR K v0 .snil:=h0;cases h0';exact Xt.mono fun e w' ⟨a,b⟩=>⟨_,.tup [],K,_,a,Ext.refl K,by rw [b];exact H,.tup _ _ rfl (fun i=>by simp;exact .any _),hk [] (fun _=>rfl) rfl ok hF⟩
 ·rw [EI hid] at ok;have:=SH Tryz.laysF06 (P:=prog) (k:=7) (by decide) (fun w=>GD E9) (fun w=>Bh BM) (c:=Ai) (fun _=>rfl) (cf:=Gl) (fun x y=>FJ _ _) UV (g:=39) (enters_of func39 (by kernel_rfl) rfl) Ae3 Agj
   (fun K h w x y vx vy gx gy H hx hy=>Ta K h w x y vx vy gx gy H hx hy) ok hid hr
  rw [KJ hid,EI hid];refine CallsA.mono this ?_;rintro d h' ⟨rfl,ok',rfl⟩;have:=hk r (fun h=>absurd h hid) hlen (by rw [EI hid];exact ok') hF;rw [EI hid] at this;exact this
end Go.Proofs.YtmnbjcpikllknaaGreatDoor
