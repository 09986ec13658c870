/- One rule an operation, in step with a plain function. No condition. -/
import Derived.Test.YtmnbjcpikllknaaGreatDoorEng18
set_option linter.unusedSimpArgs false
set_option linter.unusedVariables false
namespace Go.Proofs.YtmnbjcpikllknaaGreatDoor
section
variable {P:Program} {md:Nat -> Nat} {w:Bool} {ops:Array Oper} {os:List Oper} {k:St -> Prop} {n:Nat} {l:List (Nat × D)} {h:Heap} {d:Nat} {t ty:TypeId} {pos:String} {af:Array Edge} {x y z:Operand}
variable {β:Type} {G:β -> Prop}
theorem F6 {op:Op} (he:Cz P N0 (md d) op (opL n l) h fun v h'=>AO P md w ops os ⟨AI n ((d,v) :: l),h'⟩ k):AO P md w ops (⟨some d,op,ty,pos,af,none⟩ :: os) ⟨AI n l,h⟩ k:=PH (by
 simp only [Gy,Ch,Gn,Oy,I9]
 exact he)
theorem ZL {op:Op} (he:Cz P N0 0 op (opL n l) h fun v h'=>AO P md w ops os ⟨AI n l,h'⟩ k):AO P md w ops (⟨none,op,ty,pos,af,none⟩ :: os) ⟨AI n l,h⟩ k:=PH (by
 simp only [Gy,Ch,Gn,I9]
 exact he)
theorem S_m {v:D} (hx:opL n l x=v) (hk:AO P md w ops os ⟨AI n ((d,v) :: l),h⟩ k):AO P md w ops (⟨some d,.move x,ty,pos,af,none⟩ :: os) ⟨AI n l,h⟩ k:=F6 (by subst hx;exact hk)
theorem S_a {v:D} (hx:opL n l x=v) (hk:AO P md w ops os ⟨AI n ((d,v) :: l),h⟩ k):AO P md w ops (⟨some d,.assign x,ty,pos,af,none⟩ :: os) ⟨AI n l,h⟩ k:=F6 (by subst hx;exact hk)
theorem KS {a b:Operand} {v:D} {c:Bool} (hc:opL n l x=.bool c) (hb:c=true) (ha:opL n l a=v) (hk:AO P md w ops os ⟨AI n ((d,v) :: l),h⟩ k):AO P md w ops (⟨some d,.pick x a b,ty,pos,af,none⟩ :: os) ⟨AI n l,h⟩ k:=
 F6 (by subst hb ha;simp only [Cz,hc,if_true];exact hk)
theorem Ml {a b:Operand} {v:D} {c:Bool} (hc:opL n l x=.bool c) (hb:c=false) (ha:opL n l b=v) (hk:AO P md w ops os ⟨AI n ((d,v) :: l),h⟩ k):AO P md w ops (⟨some d,.pick x a b,ty,pos,af,none⟩ :: os) ⟨AI n l,h⟩ k:=
 F6 (by subst hb ha;simp only [Cz,hc];exact hk)
theorem DN {op:BinOp} {u:TypeId} {dx dy v:D} (hx:opL n l x=dx) (hy:opL n l y=dy) (hb:E5 P h op t dx dy=some v) (hk:AO P md w ops os ⟨AI n ((d,v) :: l),h⟩ k) :
  AO P md w ops (⟨some d,.binOp op t x y u,ty,pos,af,none⟩ :: os) ⟨AI n l,h⟩ k:=F6 (by simp only [Cz,hx,hy,Xz hb,OptP_some];exact hk)
theorem Aip {op:UnOp} {dx v:D} (hx:opL n l x=dx) (hb:unD op dx=some v) (hk:AO P md w ops os ⟨AI n ((d,v) :: l),h⟩ k) :
  AO P md w ops (⟨some d,.unOp op t x,ty,pos,af,none⟩ :: os) ⟨AI n l,h⟩ k:=F6 (by simp only [Cz,hx,hb,OptP_some];exact hk)
theorem NR {u:TypeId} {dx v:D} (hx:opL n l x=dx) (hb:KX P h t u dx=some v) (hk:AO P md w ops os ⟨AI n ((d,v) :: l),h⟩ k) :
  AO P md w ops (⟨some d,.convert t u x,ty,pos,af,none⟩ :: os) ⟨AI n l,h⟩ k:=F6 (by
 simp only [Cz,hx];split
 ·rename_i el s hs;rw [QE] at hb;split at hb
  ·rename_i hc;have h1:=ED hc.1;simp [slD,h1] at hs
  ·simp at hb
 ·rename_i el k' id' off' n' hs;exfalso;simp only [KX] at hb;split at hb
  ·split at hb
   ·rename_i hc;have h1:=ED hc.2.1;simp [slD,h1] at hs
   ·simp at hb
  ·simp at hb
 ·rw [hb,OptP_some];exact hk)
theorem Agq {u:TypeId} {a b:List By8} {f:List By8 -> Option β} (hx:opL n l x=.str a) (hy:opL n l y=.str b) (hF:OptP ((cat a b).bind f) G)
  (hk:OptP (f (a ++ b)) G -> AO P md w ops os ⟨AI n ((d,.str (a ++ b)) :: l),h⟩ k):AO P md w ops (⟨some d,.binOp .add t x y u,ty,pos,af,none⟩ :: os) ⟨AI n l,h⟩ k:=
 F6 (by
  obtain ⟨v,hv,hF⟩:=A8 hF;unfold cat at hv;split at hv
  ·rename_i hc;injection hv with hv;subst hv
   simp only [Cz,hx,hy,MS,Mz,PK,Aaj,if_pos hc,OptP_some];exact hk hF
  ·simp at hv)
def nzI (b:Int):Option Int:=if b=0 then none else some b
theorem Aie {u:TypeId} {K:IntKind} {a b:Int} {f:Int -> Option β} (hx:opL n l x=.int K a) (hy:opL n l y=.int K b) (hF:OptP ((nzI b).bind f) G)
  (hk:OptP (f b) G -> AO P md w ops os ⟨AI n ((d,.int K (a.tmod b)) :: l),h⟩ k):AO P md w ops (⟨some d,.binOp .rem t x y u,ty,pos,af,none⟩ :: os) ⟨AI n l,h⟩ k:=
 F6 (by
  obtain ⟨v,hv,hF⟩:=A8 hF;unfold nzI at hv;split at hv
  ·simp at hv
  ·rename_i hc;injection hv with hv;subst hv
   simp only [Cz,hx,hy,MS,Mz,Aet,if_neg hc,OptP_some];exact hk hF)
theorem Ach {a b:List By8}:E5 P h .eql t (.str a) (.str b)=some (.bool (a == b)):=by rw [PK,ZB]
theorem Acm {a b:List By8}:E5 P h .neq t (.str a) (.str b)=some (.bool (!(a == b))):=by rw [PK,Z2]
theorem Vb {a b:List By8}:E5 P h .lss t (.str a) (.str b)=some (.bool (Op.bytesLess a b)):=by rw [PK,Aad]
theorem Acy {a b:List By8}:E5 P h .gtr t (.str a) (.str b)=some (.bool (!(Op.bytesLess a b || a == b))):=by rw [PK,ZH]
theorem SL {xs ys:List D} {fs:List (Nat × TypeId)} {b:Bool} (h1:P.eqGuardType P.depth t=false) (h2:sfD P t=some fs) (h3:C9 (eqD P h 9999) P xs ys fs=some b):E5 P h .eql t (.agg xs) (.agg ys)=some (.bool b):=by
 rw [To,if_pos h1,h2,ba,h3];rfl
theorem UG {xs ys:List D} {fs:List (Nat × TypeId)} {b:Bool} (h1:P.eqGuardType P.depth t=false) (h2:sfD P t=some fs) (h3:C9 (eqD P h 9999) P xs ys fs=some b):E5 P h .neq t (.agg xs) (.agg ys)=some (.bool !b):=by
 rw [TB,if_pos h1,h2,ba,h3];rfl
theorem Agl {s:TypeId} {K K':IntKind} {a:Int} (hk:kiD P t=some K') (hs:(P.underlying s).isSome=true):KX P h s t (.int K a)=some (.int K' (K'.wrap a)):=by
 rw [Ph,hk];simp only [hs,if_true]
theorem Ajs {s:TypeId} {K:IntKind} {f:FloatKind} {a:Int} (hk:kiD P t=none) (hf:faD P t=some f) (hs:(P.underlying s).isSome=true):KX P h s t (.int K a)=some (.float f (f.nearest a)):=by
 rw [Ph,hk,hf];simp only [hs,if_true]
def R2 (b:By8):List D:=[.int .u8 b.toNat]
theorem FA {α:Type} {q r:Nat} {c:α -> List D} {L:List α} {e:TypeId} (hx:opL n l x=.sl q (L.map c) r) (ht:slD P t=some e) (hk:AO P md w ops os ⟨AI n ((d,.int .i64 (L.length:Int)) :: l),h⟩ k) :
  AO P md w ops (⟨some d,.call ⟨.builtin .len,#[x],#[t]⟩,ty,pos,af,none⟩ :: os) ⟨AI n l,h⟩ k:=F6 (by
 simp only [Cz,Fi,List.map_cons,List.map_nil,hx,SJ,ht,Option.isSome_some,if_true,OptP_some,List.length_map];exact hk)
theorem Yr {e:TypeId} (hx:opL n l x=.snil) (ht:slD P t=some e) (hk:AO P md w ops os ⟨AI n ((d,.int .i64 0) :: l),h⟩ k) :
  AO P md w ops (⟨some d,.call ⟨.builtin .len,#[x],#[t]⟩,ty,pos,af,none⟩ :: os) ⟨AI n l,h⟩ k:=F6 (by
 simp only [Cz,Fi,List.map_cons,List.map_nil,hx,SJ,ht,Option.isSome_some,if_true,OptP_some];exact hk)
theorem Afh {a:List By8} (hx:opL n l x=.str a) (ht:stD P t=true) (hk:AO P md w ops os ⟨AI n ((d,.int .i64 (a.length:Int)) :: l),h⟩ k) :
  AO P md w ops (⟨some d,.call ⟨.builtin .len,#[x],#[t]⟩,ty,pos,af,none⟩ :: os) ⟨AI n l,h⟩ k:=F6 (by
 simp only [Cz,Fi,List.map_cons,List.map_nil,hx,SJ,ht,if_true,OptP_some];exact hk)
theorem Aei {K K':IntKind} {a b:Int} {ts:Array TypeId} (hx:opL n l x=.int K a) (hy:opL n l y=.int K' b) (hk:AO P md w ops os ⟨AI n ((d,.int K (if b < a then b else a)) :: l),h⟩ k) :
  AO P md w ops (⟨some d,.call ⟨.builtin .min,#[x,y],ts⟩,ty,pos,af,none⟩ :: os) ⟨AI n l,h⟩ k:=F6 (by
 simp only [Cz,List.map_cons,List.map_nil,hx,hy,Abx];exact hk)
theorem Ahe {K K':IntKind} {a b:Int} {ts:Array TypeId} (hx:opL n l x=.int K a) (hy:opL n l y=.int K' b) (hk:AO P md w ops os ⟨AI n ((d,.int K (if b > a then b else a)) :: l),h⟩ k) :
  AO P md w ops (⟨some d,.call ⟨.builtin .max,#[x,y],ts⟩,ty,pos,af,none⟩ :: os) ⟨AI n l,h⟩ k:=F6 (by
 simp only [Cz,List.map_cons,List.map_nil,hx,hy,Acz];exact hk)
theorem Ah7 {ds:List D} {i:Nat} {v:D} (hx:opL n l x=.tup ds) (hv:XB i (.tup ds)=some v) (hk:AO P md w ops os ⟨AI n ((d,v) :: l),h⟩ k) :
  AO P md w ops (⟨some d,.extract x i,ty,pos,af,none⟩ :: os) ⟨AI n l,h⟩ k:=F6 (by simp only [Cz,hx,hv,OptP_some];exact hk)
theorem Yz {v:D} (hx:opL n l x=v) (hv:Adf v=some v) (hk:AO P md w ops os ⟨AI n ((d,v) :: l),h⟩ k) :
  AO P md w ops (⟨some d,.nilCheck x,ty,pos,af,none⟩ :: os) ⟨AI n l,h⟩ k:=F6 (by simp only [Cz,hx,hv,OptP_some];exact hk)
theorem A2 {cs:List D} {f o:Nat} {ft:TypeId} {m:Nat} (hx:opL n l x=.iptr cs) (hf:fdD P t f=some (o,ft)) (hs:szD P ft=some (m + 1)) (ho:Nat.ble o cs.length=true) (hk:AO P md w ops os ⟨AI n ((d,.iptr (cs.drop o)) :: l),h⟩ k) :
  AO P md w ops (⟨some d,.fieldAddr t x f,ty,pos,af,none⟩ :: os) ⟨AI n l,h⟩ k:=F6 (by
 have ho':o <= cs.length:=Nat.le_of_ble_eq_true ho
 simp only [Cz,hx,Zk,hf,hs,Vf,ho',if_true];exact ⟨_,by simp,hk⟩)
theorem DH {i off:Nat} {f o:Nat} {ft:TypeId} {m:Nat} (hx:opL n l x=.ptr i off) (hf:fdD P t f=some (o,ft)) (hs:szD P ft=some (m + 1)) (hk:AO P md w ops os ⟨AI n ((d,.ptr i (off + o)) :: l),h⟩ k) :
  AO P md w ops (⟨some d,.fieldAddr t x f,ty,pos,af,none⟩ :: os) ⟨AI n l,h⟩ k:=F6 (by
 simp only [Cz,hx,Aan,hf,hs,Vf];exact ⟨_,by simp,hk⟩)
theorem AK {cs ds:List D} {v:D} {m:Nat} (ha:agD P t=some false) (hs:szD P t=some m) (he:cs=v :: ds):Fd P t cs=some v:=by
 subst he;simp only [Fd,ha,hs]
theorem AX {cs vs:List D} {m:Nat} (ha:agD P t=some true) (hs:szD P t=some m) (hl:Nat.ble m cs.length=true) (he:cs.take m=vs):Fd P t cs=some (.agg vs):=by
 simp only [Fd,ha,hs,if_pos (Nat.le_of_ble_eq_true hl),he]
theorem AE {cs:List D} {v:D} (hx:opL n l x=.iptr cs) (hp:Fd P t cs=some v) (hk:AO P md w ops os ⟨AI n ((d,v) :: l),h⟩ k) :
  AO P md w ops (⟨some d,.load t x,ty,pos,af,none⟩ :: os) ⟨AI n l,h⟩ k:=F6 (by simp only [Cz,hx,ZE,hp,OptP_some];exact hk)
theorem Cr {O:List (Nat × AObj)} {i off j:Nat} {cs:List D} {v:D} (ok:OK h O) (hm:md d=0) (hx:opL n l x=.ptr i off) (hj:O[j]?=some (i,.cells cs)) (hi:i ≠ 0) (hp:Fd P t (cs.drop off)=some v)
  (hk:AO P md w ops os ⟨AI n ((d,v) :: l),Hp h O⟩ k):AO P md w ops (⟨some d,.load t x,ty,pos,af,none⟩ :: os) ⟨AI n l,Hp h O⟩ k:=F6 (by
 simp only [Cz,hx,hm,Yq,Kf,Hp_get j ok hj hi,hp,OptP_some];exact hk)
theorem F3 {O:List (Nat × AObj)} {i off j:Nat} {cs cs':List D} {v:D} (ok:OK h O) (hx:opL n l x=.ptr i off) (hy:opL n l y=v) (hj:O[j]?=some (i,.cells cs)) (hi:i ≠ 0) (h1:v.lay=true) (h2:szD P t=some v.cells.length)
  (h3:Nat.ble (off + v.cells.length) cs.length=true) (h4:GH cs off v.cells=cs') (hk:OK h (O.set j (i,.cells cs')) -> AO P md w ops os ⟨AI n l,Hp h (O.set j (i,.cells cs'))⟩ k) :
  AO P md w ops (⟨none,.store t x y,ty,pos,af,none⟩ :: os) ⟨AI n l,Hp h O⟩ k:=ZL (by
 obtain ⟨e1,e2⟩:=Hp_set (y:=.cells cs') j ok hj hi;subst hy h4;simp only [Cz,hx,NF,Hp_get j ok hj hi]
 exact ⟨h1,h2,Nat.le_of_ble_eq_true h3,by rw [e1];exact hk e2⟩)
theorem Fr {α:Type} {q r:Nat} {c:α -> List D} {L:List α} {K:IntKind} {i:Int} {e:TypeId} {f:α -> Option β} (hx:opL n l x=.sl q (L.map c) r) (hy:opL n l y=.int K i) (hs:slD P t=some e) (hq:szD P e=some q)
  (hF:OptP ((idx L i).bind f) G) (hk:∀ a,idx L i=some a -> OptP (f a) G -> AO P md w ops os ⟨AI n ((d,.iptr (c a)) :: l),h⟩ k):AO P md w ops (⟨some d,.indexAddr t x y,ty,pos,af,none⟩ :: os) ⟨AI n l,h⟩ k:=F6 (by
 obtain ⟨a,ha,hF⟩:=A8 hF;have ha':=ha;unfold idx at ha';split at ha'
 ·rename_i h0;obtain ⟨hlt,he⟩:=List.getElem?_eq_some_iff.1 ha';have hlt':i < (L.length:Int):=by omega
  have hg:(L.map c).getD i.toNat []=c a:=by simp [List.getD,ha']
  simp only [Cz,hx,hy,RU,hs,ba,hq,List.length_map,h0,hlt',true_and,if_true,OptP_some,hg];exact hk a ha hF
 ·simp at ha')
theorem Gj {K:IntKind} {i:Int} {a:List By8} {f:By8 -> Option β} (hx:opL n l x=.str a) (hy:opL n l y=.int K i) (hs:stD P t=true)
  (hF:OptP ((idx a i).bind f) G) (hk:∀ b,idx a i=some b -> OptP (f b) G -> AO P md w ops os ⟨AI n ((d,.int .u8 (b.toNat:Int)) :: l),h⟩ k):AO P md w ops (⟨some d,.index t x y,ty,pos,af,none⟩ :: os) ⟨AI n l,h⟩ k:=F6 (by
 obtain ⟨b,hb,hF⟩:=A8 hF;have ha':=hb;unfold idx at ha';split at ha'
 ·rename_i h0;obtain ⟨hlt,he⟩:=List.getElem?_eq_some_iff.1 ha';have hlt':i < (a.length:Int):=by omega
  have hg:a.getD i.toNat 0=b:=by simp [List.getD,ha']
  simp only [Cz,hx,hy,U3,hs,h0,hlt',true_and,if_true,OptP_some,hg];exact hk b hb hF
 ·simp at ha')
theorem O0 {α:Type} {L:List α} {i j:Int} {a:List α} (h:slc L i j=some a):(0 <= i /\ i <= j /\ j <= (L.length:Int)) /\ a=(L.drop i.toNat).take (j.toNat - i.toNat):=by
 unfold slc at h;split at h
 ·rename_i hc;injection h with h;exact ⟨hc,h.symm⟩
 ·simp at h
theorem Km {a:List By8} {lo hi:Option Operand} {i j:Int} {f:List By8 -> Option β} (hx:opL n l x=.str a) (hs:stD P t=true) (h1:C2 (lo.map (opL n l)) 0=some i) (h2:C2 (hi.map (opL n l)) a.length=some j)
  (hF:OptP ((slc a i j).bind f) G) (hk:∀ b,slc a i j=some b -> OptP (f b) G -> AO P md w ops os ⟨AI n ((d,.str b) :: l),h⟩ k):AO P md w ops (⟨some d,.slice t x lo hi none,ty,pos,af,none⟩ :: os) ⟨AI n l,h⟩ k:=F6 (by
 obtain ⟨b,hb,hF⟩:=A8 hF;obtain ⟨hc,he⟩:=O0 hb;simp only [Cz,hx,PW,hs,h1,h2,if_true,if_pos hc,OptP_some,<- he]
 exact hk b hb hF)
theorem Adg {α:Type} {q r:Nat} {c:α -> List D} {L:List α} {e:TypeId} {lo hi:Option Operand} {i j:Int} {f:List α -> Option β} (hx:opL n l x=.sl q (L.map c) r) (hs:slD P t=some e) (hq:szD P e=some q)
  (h1:C2 (lo.map (opL n l)) 0=some i) (h2:C2 (hi.map (opL n l)) (L.map c).length=some j)
  (hF:OptP ((slc L i j).bind f) G) (hk:∀ b,slc L i j=some b -> OptP (f b) G -> AO P md w ops os ⟨AI n ((d,.sl q (b.map c) 0) :: l),h⟩ k):AO P md w ops (⟨some d,.slice t x lo hi none,ty,pos,af,none⟩ :: os) ⟨AI n l,h⟩ k:=F6 (by
 obtain ⟨b,hb,hF⟩:=A8 hF;obtain ⟨hc,he⟩:=O0 hb;have hc':0 <= i /\ i <= j /\ j <= ((L.map c).length:Int):=by simpa using hc
 have e1:((L.map c).drop i.toNat).take (j.toNat - i.toNat)=b.map c:=by rw [he,List.map_take,List.map_drop]
 simp only [Cz,hx,Ro,hs,ba,hq,h1,h2,if_true,if_pos hc',OptP_some,e1]
 exact hk b hb hF)
theorem Qg {a:Nat}:C2 ((none:Option Operand).map (opL n l)) a=some (a:Int):=rfl
theorem F4 {a:Nat} {K:IntKind} {i:Int} (hy:opL n l y=.int K i):C2 ((some y).map (opL n l)) a=some i:=by
 simp only [Option.map_some,hy];rfl
theorem Ad6 {α:Type} {c:α -> List D} {L:List α}:C2 ((none:Option Operand).map (opL n l)) (L.map c).length=some (L.length:Int):=by
 simp [C2]
theorem Up {O:List (Nat × AObj)} {v:D} {cs:List D} (ok:OK h O) (hm:md d=1) (hx:opL n l x=v) (h1:v.lay=true) (h2:v.cells=cs)
  (hk:∀ i,i ≠ 0 -> OK h ((i,.cells cs) :: O) -> AO P md w ops os ⟨AI n ((d,.ptr i 0) :: l),Hp h ((i,.cells cs) :: O)⟩ k):AO P md w ops (⟨some d,.box t x,ty,pos,af,none⟩ :: os) ⟨AI n l,Hp h O⟩ k:=F6 (by
 subst hx h2;simp only [Cz,hm,UI];refine ⟨h1,fun i hf hi=>?_⟩;obtain ⟨e1,e2⟩:=Hp_new (x:=.cells (opL n l x).cells) ok hf hi
 rw [e1];exact hk i hi e2)
theorem Cc {v:D} {cs:List D} (hm:md d=0) (hx:opL n l x=v) (h1:v.lay=true) (h2:v.cells=cs)
  (hk:AO P md w ops os ⟨AI n ((d,.iptr cs) :: l),h⟩ k):AO P md w ops (⟨some d,.box t x,ty,pos,af,none⟩ :: os) ⟨AI n l,h⟩ k:=F6 (by
 subst hx h2;simp only [Cz,hm,Aak]
 exact ⟨h1,hk⟩)
theorem Ca {O:List (Nat × AObj)} {cs:List D} (ok:OK h O) (hm:md d=1) (hz:zcD P t=some cs)
  (hk:∀ i,i ≠ 0 -> OK h ((i,.cells cs) :: O) -> AO P md w ops os ⟨AI n ((d,.ptr i 0) :: l),Hp h ((i,.cells cs) :: O)⟩ k):AO P md w ops (⟨some d,.alloc t,ty,pos,af,none⟩ :: os) ⟨AI n l,Hp h O⟩ k:=F6 (by
 simp only [Cz,hm,hz,OptP_some,UI];intro i hf hi;obtain ⟨e1,e2⟩:=Hp_new (x:=.cells cs) ok hf hi
 rw [e1];exact hk i hi e2)
theorem Dz {ps:Array (Nat × Operand)} {v:D} (hb:Kt P t (ps.toList.map fun p=>(p.1,opL n l p.2))=some v) (hk:AO P md w ops os ⟨AI n ((d,v) :: l),h⟩ k):AO P md w ops (⟨some d,.build t ps,ty,pos,af,none⟩ :: os) ⟨AI n l,h⟩ k:=F6 (by
 simp only [Cz,hb,OptP_some];exact hk)
theorem GY {z cs:List D} {pl:List (Nat × Nat)} {parts:List (Nat × D)} (hz:zcD P t=some z) (hp:plD P t=some pl) (hf:HP (fun i=>pl[i]?) z parts=some cs):Kt P t parts=some (.agg cs):=by
 simp only [Kt,hz,hp,hf];rfl
theorem PQ {O:List (Nat × AObj)} {ps:Array (Nat × Operand)} {m q B:Nat} {zs cs:List D} {es:List (List D)} (ok:OK h O) (hm:md d=2) (he:elD P t=some (q,B,zs)) (hn:Nat.ble (m * q) 16777216=true)
  (hf:HP (fun i=>some (i * q,q)) (List.replicate m zs).flatten (ps.toList.map fun p=>(p.1,opL n l p.2))=some cs) (hc:DM q m cs=es)
  (hk:∀ r,r ≠ 0 -> OK h ((r,.room) :: O) -> AO P md w ops os ⟨AI n ((d,.sl q es r) :: l),Hp h ((r,.room) :: O)⟩ k):AO P md w ops (⟨some d,.buildSlice t m ps,ty,pos,af,none⟩ :: os) ⟨AI n l,Hp h O⟩ k:=F6 (by
 subst hc;simp only [Cz,Yg,he,hm,hf,SC];refine ⟨Nat.le_of_ble_eq_true hn,fun r hfr hr=>?_⟩;obtain ⟨e1,e2⟩:=Hp_new (x:=.room) ok hfr hr
 rw [e1];exact hk r hr e2)
theorem Dh {ps:Array (Nat × Operand)} {m q B:Nat} {zs cs:List D} {es:List (List D)} (hm:md d=0) (he:elD P t=some (q,B,zs)) (hn:Nat.ble (m * q) 16777216=true)
  (hf:HP (fun i=>some (i * q,q)) (List.replicate m zs).flatten (ps.toList.map fun p=>(p.1,opL n l p.2))=some cs) (hc:DM q m cs=es)
  (hk:AO P md w ops os ⟨AI n ((d,.sl q es 0) :: l),h⟩ k):AO P md w ops (⟨some d,.buildSlice t m ps,ty,pos,af,none⟩ :: os) ⟨AI n l,h⟩ k:=F6 (by
 subst hc;simp only [Cz,Yg,he,hm,hf,Xc]
 exact ⟨Nat.le_of_ble_eq_true hn,hk⟩)
theorem Gq {O:List (Nat × AObj)} {α:Type} {q r r2 j B:Nat} {zs:List D} {c:α -> List D} {L M:List α} {u:TypeId} {f:List α -> Option β} (ok:OK h O) (hm:md d=2) (hx:opL n l x=.sl q (L.map c) r) (hy:opL n l y=.sl q (M.map c) r2)
  (hj:O[j]?=some (r,.room)) (hr:r ≠ 0) (he:elD P t=some (q,B,zs)) (hu:EE P u=true) (hF:OptP ((app B L M).bind f) G)
  (hk:∀ r',r' ≠ 0 -> OK h (O.set j (r',.room)) -> OptP (f (L ++ M)) G -> AO P md w ops os ⟨AI n ((d,.sl q ((L ++ M).map c) r') :: l),Hp h (O.set j (r',.room))⟩ k) :
  AO P md w ops (⟨some d,.call ⟨.builtin .append,#[x,y],#[t,u]⟩,ty,pos,af,none⟩ :: os) ⟨AI n l,Hp h O⟩ k:=F6 (by
 obtain ⟨v,hv,hF⟩:=A8 hF;unfold app at hv;split at hv
 ·rename_i hc;injection hv with hv;subst hv
  simp only [Cz,Fi,List.map_cons,List.map_nil,hx,hy,hm,GE,he,S7,if_true,hu,true_and,List.length_map,Hp_get j ok hj hr,SC];refine ⟨hc.1,hc.2,by decide,fun r' hf hr'=>?_⟩;obtain ⟨e1,e2⟩:=Hp_rel j ok hj hr;rw [e1];have hf':Hp h (O.set j (0,.room)) r'=none:=by
   rw [<- e1];by_cases e:r'=r
   ·subst e;exact Heap.upd_same ..
   ·rw [Heap.upd_ne _ _ e];exact hf
  obtain ⟨hlt,_⟩:=List.getElem?_eq_some_iff.1 hj;obtain ⟨e3,e4⟩:=Hp_fill (x:=.room) j e2 (by simp [hlt]) hr' hf';rw [e3,List.set_set] at *;rw [<- List.map_append];exact hk r' hr' e4 hF
 ·simp at hv)
theorem CallsA.arg {f:FuncId} {ds0 ds:List D} {h:Heap} {R:D -> Heap -> Prop} (hw:WdC ds0 ds) (c:CallsA P f ds h R):CallsA P f ds0 h R:=
 c.imp (fun c=>⟨c.1,fun K w vs H hl hv=>c.2 K w vs H (hl.trans hw.l) fun i=>(hw.c i).rel (hv i)⟩) fun c K w vs H hl hv=>c K w vs H (hl.trans hw.l) fun i=>(hw.c i).rel (hv i)
theorem CallsA.ret {f:FuncId} {ds:List D} {h:Heap} {R:D -> Heap -> Prop} (c:CallsA P f ds h fun d h'=>∃ d2 h2,Wd d d2 /\ WH h' h2 /\ R d2 h2):CallsA P f ds h R:=
 c.imp (fun c=>⟨c.1,fun K w vs H hl hv=>(c.2 K w vs H hl hv).mono fun e w' ⟨v,d,K',h',a,b,cc,dd,d2,h2,w1,w2,r⟩=>⟨v,d2,K',h2,a,b,cc.weaken w2,w1.rel dd,r⟩⟩)
  fun c K w vs H hl hv=>let ⟨v,w',d,K',h',a,b,cc,dd,d2,h2,w1,w2,r⟩:=c K w vs H hl hv;⟨v,w',d2,K',h2,a,b,cc.weaken w2,w1.rel dd,r⟩
theorem RS {g:FuncId} {args:Array Operand} {ts:Array TypeId} {ds:List D} (hc:CallsA P g ds h fun v h'=>AO P md w ops os ⟨AI n ((d,v) :: l),h'⟩ k) (hw:WdC (args.toList.map (opL n l)) ds) :
  AO P md w ops (⟨some d,.call ⟨.value (.func g),args,ts⟩,ty,pos,af,none⟩ :: os) ⟨AI n l,h⟩ k:=F6 (by
 have:=hc.arg hw
 simpa only [Cz,opL,List.nil_append,List.append_nil] using this)
theorem OK.wh {O:List (Nat × AObj)} (ok:OK h O):WH (Hp h O) h:=by
 have:∀ O:List (Nat × AObj),WO O []:=fun O=>by induction O with | nil=>exact .nil | cons p O ih=>exact .drop ih
 exact ((this O).spec ok).2.2
inductive RV (P:Program) (n:Nat) (l:List (Nat × D)) (h:Heap):List ResultVar -> List D -> Prop
 | nil:RV P n l h [] []
 | tmp {t:Nat} {v:D} {rs:List ResultVar} {vs:List D} (hx:opL n l (.tmp t)=v) (r:RV P n l h rs vs):RV P n l h (.tmp t :: rs) (v :: vs)
 | cell {a:Nat} {t:TypeId} {p v:D} {rs:List ResultVar} {vs:List D} (hx:opL n l (.tmp a)=p) (hl:MJ P h t p=some v) (r:RV P n l h rs vs):RV P n l h (.cell a t :: rs) (v :: vs)
theorem RV.spec:∀ {rs:List ResultVar} {vs:List D},RV P n l h rs vs -> rs.mapM (X7 P ⟨AI n l,h⟩)=some vs
 | _,_,.nil=>rfl
 | _,_,.tmp (t:=t) hx r=>by
  have:(AI n l).getD t .any=opL n l (.tmp t):=congrFun (I9 n l) (.tmp t);simp only [List.mapM_cons,X7,this,hx,r.spec];rfl
 | _,_,.cell (a:=a) hx hl r=>by
  have:(AI n l).getD a .any=opL n l (.tmp a):=congrFun (I9 n l) (.tmp a);simp only [List.mapM_cons,X7,this,hx,hl,r.spec];rfl
theorem DW {O:List (Nat × AObj)} {i off j:Nat} {cs:List D} {v:D} (ok:OK h O) (hj:O[j]?=some (i,.cells cs)) (hi:i ≠ 0) (hp:Fd P t (cs.drop off)=some v):MJ P (Hp h O) t (.ptr i off)=some v:=by
 rw [Kf,Hp_get j ok hj hi];exact hp
theorem KH {fn:Func} {rs:List ResultVar} {vs:List D} {R:D -> Heap -> Prop} (hr:fn.results.toList=rs) (hv:RV P n l h rs vs) (hR:R (S9 vs) h):RetP P fn R .ret ⟨AI n l,h⟩:=by
 show OptP (fn.results.toList.mapM (X7 P ⟨AI n l,h⟩)) fun l=>R (S9 l) h;rw [hr,hv.spec,OptP_some];exact hR
def TI:Nat -> List D -> List (Nat × D)
 | _,[]=>[]
 | i,d :: ds=>(i,d) :: TI (i + 1) ds
theorem Ss:∀ (ds:List D) (i t:Nat),G3 (TI i ds) t=if i <= t then ds.getD (t - i) .any else .any
 | [],i,t=>by simp [TI,G3]
 | d :: ds, i, t => by
  show (match Nat.beq i t with | true=>d | false=>G3 (TI (i + 1) ds) t)=_
  cases hb:Nat.beq i t with
  | true=>rw [Nat.beq_eq] at hb;subst hb;simp
  | false =>
   have hne:i ≠ t:=fun e=>by rw [e,Nat.beq_refl] at hb;simp at hb
   simp only [Ss ds (i + 1) t];by_cases h1:i <= t
   ·have e:t - i=(t - (i + 1)) + 1:=by omega
    rw [if_pos h1,if_pos (by omega),e];simp
   ·rw [if_neg h1,if_neg (by omega)]
theorem R7 (ds:List D) (m:Nat):ds ++ List.replicate m .any=AI (ds.length + m) (TI 0 ds):=by
 refine List.ext_getElem? fun j=>?_;by_cases hj:j < ds.length + m
 ·simp only [AI,List.getElem?_map,List.getElem?_range hj,Option.map_some,Ss];by_cases h1:j < ds.length
  ·rw [List.getElem?_append_left h1];simp [List.getD,h1]
  ·rw [List.getElem?_append_right (by omega),List.getElem?_replicate,if_pos (by omega)];simp [List.getD,h1]
 ·rw [List.getElem?_eq_none (by simp;omega),List.getElem?_eq_none (by simp [AI];omega)]
theorem AQ {f:FuncId} {fn:Func} {c:Code} {args:List D} {h:Heap} {R:D -> Heap -> Prop} {N:Nat} (hf:P.funcs[f]?=some fn) (hb:fn.body=some c) (he:CA P f=true) (hn:fn.ntmps=N) (ha:args.length + (N - args.length)=N)
  (hw:OK h [] -> WP P c (RetP P fn R) ⟨AI N (TI 0 args),Hp h []⟩):CallsA P f args h R:=by
 refine CallsA_body hf hb he ?_;rw [hn,R7,ha];exact hw trivial
def Ako (n:Int):List D:=[.int .i8 n]
def Ajj (n:Int):List D:=[.int .i16 n]
def Akg (n:Int):List D:=[.int .i32 n]
def B1 (n:Int):List D:=[.int .i64 n]
def Aj5 (n:Int):List D:=[.int .u16 n]
def Aj6 (n:Int):List D:=[.int .u32 n]
def Akk (n:Int):List D:=[.int .u64 n]
def Aiy (b:Bool):List D:=[.bool b]
def Akh (x:List By8):List D:=[.str x]
def Ajk (n:Nat):List D:=[.float .f64 n]
def Ga (n:Nat × Nat):List D:=[.cplx .f64 n.1 n.2]
def NW {α:Type} (q:Nat) (c:α -> List D) (l:List α):List D:=[.sl q (l.map c) 0]
def Aku (k:IntKind) (a b:Int):Int:=k.wrap ((BitVec.ofInt k.bits a &&& BitVec.ofInt k.bits b).toNat:Int)
def ior (k:IntKind) (a b:Int):Int:=k.wrap ((BitVec.ofInt k.bits a ||| BitVec.ofInt k.bits b).toNat:Int)
def Akr (k:IntKind) (a b:Int):Int:=k.wrap ((BitVec.ofInt k.bits a ^^^ BitVec.ofInt k.bits b).toNat:Int)
def TX (k:IntKind) (a b:Int):Int:=k.wrap ((BitVec.ofInt k.bits a &&& ~~~(BitVec.ofInt k.bits b)).toNat:Int)
def Akm (k:IntKind) (a b:Int):Int:=k.wrap (a * 2 ^ (min b.toNat k.bits))
def Akn (k:IntKind) (a b:Int):Int:=a.fdiv (2 ^ (min b.toNat k.bits))
def ngI (b:Int):Option Int:=if b < 0 then none else some b
theorem Aj1 {K:IntKind} {a b:Int}:E5 P h .or t (.int K a) (.int K b)=some (.int K (ior K a b)):=Ah0 ..
theorem Xd {K:IntKind} {a b:Int}:E5 P h .andNot t (.int K a) (.int K b)=some (.int K (TX K a b)):=Ua ..
theorem Akd {dst:Option Nat} {op:Op} {s:St} (hk:AO P md false ops [⟨dst,op,ty,pos,af,none⟩] s fun s'=>AO P md w ops os s' k):Gy P N0 md ops ⟨dst,op,ty,pos,af,none⟩ s fun s'=>AO P md w ops os s' k:=Ex hk.2 fun _ h=>h.2
theorem Acs {u e:TypeId} {a:List By8} (hm:md d=0) (hx:opL n l x=.str a) (hs:slD P u=some e) (ht:stD P t=true) (he:kiD P e=some .u8) (hk:AO P md w ops os ⟨AI n ((d,.sl 1 (a.map R2) 0) :: l),h⟩ k) :
  AO P md w ops (⟨some d,.convert t u x,ty,pos,af,none⟩ :: os) ⟨AI n l,h⟩ k:=F6 (by
 simp only [Cz,hs,hx,Abo,ht,he,hm,true_and]
 exact ⟨fun h0=>absurd h0 (by decide),fun _=>hk⟩)
end
theorem Afk {P:Program} {Q:Exit -> St -> Prop} {n:Nat} {l:List (Nat × D)} {h:Heap} {c:Operand} {x y:Code} {b:Bool} (hc:opL n l c=.bool b) (hb:b=true) (hT:WP P x Q ⟨AI n l,h⟩):WP P (.cond c x y) Q ⟨AI n l,h⟩:=by
 refine QO ?_;show U0 (opD (AI n l) c) _ _;rw [I9,hc,hb];exact hT
theorem Afn {P:Program} {Q:Exit -> St -> Prop} {n:Nat} {l:List (Nat × D)} {h:Heap} {c:Operand} {x y:Code} {b:Bool} (hc:opL n l c=.bool b) (hb:b=false) (hE:WP P y Q ⟨AI n l,h⟩):WP P (.cond c x y) Q ⟨AI n l,h⟩:=by
 refine QO ?_;show U0 (opD (AI n l) c) _ _;rw [I9,hc,hb];exact hE
theorem QB {P:Program} {md:Nat -> Nat} {w:Bool} {ops:Array Oper} {os:List Oper} {k:St -> Prop} {β:Type} {G:β -> Prop} {b:Bool} {X Y:Option β} {s:St} (hF:OptP (cond b X Y) G) (h1:b=true -> OptP X G -> AO P md w ops os s k)
  (h2:b=false -> OptP Y G -> AO P md w ops os s k):AO P md w ops os s k:=by
 rcases Sy hF with ⟨hb,h⟩ | ⟨hb,h⟩
 ·exact h1 hb h
 ·exact h2 hb h
theorem Exit.sel_ret {A:St -> Prop} {Q:Exit -> St -> Prop} {s:St} (h:Q .ret s):Exit.sel A Q .ret s:=h
theorem Exit.blk_ret {i:Nat} {Q:Exit -> St -> Prop} {s:St} (h:Q .ret s):Exit.blk i Q .ret s:=h
end Go.Proofs.YtmnbjcpikllknaaGreatDoor
