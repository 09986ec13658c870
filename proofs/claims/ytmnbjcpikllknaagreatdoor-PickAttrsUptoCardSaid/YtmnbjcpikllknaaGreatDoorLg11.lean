/- The library's functions that are met by their contracts, as plain functions. No condition. -/
import Derived.Lib.AtoiErrMem
import Derived.Laws.Externs
import Derived.Test.YtmnbjcpikllknaaGreatDoorEB
import Derived.Test.YtmnbjcpikllknaaGreatDoorSp
import Derived.Test.YtmnbjcpikllknaaGreatDoorLsf
set_option linter.unusedSimpArgs false
set_option linter.unusedVariables false
namespace Go.Proofs.YtmnbjcpikllknaaGreatDoor
open Go.Proofs.Tryz
open Go.RowKit
theorem ifO {α:Type} {c:Prop} [Decidable c] {x y:α} (h:(if c then some x else none)=some y):c /\ x=y:=by
 split at h
 ·rename_i hc;exact ⟨hc,Option.some.inj h⟩
 ·simp at h
theorem IR (s:List By8):(⟨s.toArray⟩:ByteArray).size=s.length:=by simp [ByteArray.size]
theorem Pl {K:Kn} {v:Value} {k:FloatKind} {n:Nat} (h:VR K v (.float k n)):v=.float k n:=by cases h;rfl
def L_IndexByte (s:List By8) (c:Int):Option Int:=some (Lib.indexByte s c.toNat.toUInt8)
theorem L_IndexByte_w (p0:List By8) (p1:Int) {G:Int -> Prop} (h:Heap) (hF:OptP (L_IndexByte p0 p1) G):CallsA prog 172 [.str p0,.int .u8 p1] h fun d h'=>∃ r,G r /\ d=.int .i64 r /\ h'=h:=by
 obtain ⟨r,hr,hG⟩:=hF;refine FG (d:=.int .i64 r) (by kernel_rfl) ⟨r,hG,rfl,rfl⟩ fun K w vs H hl hv=>?_;obtain rfl:vs=#[.string ⟨p0.toArray⟩,.int .u8 p1]:=by rw [XC hl,Jg (hv 0),Li (hv 1)]
 refine (Any.strings_IndexByte Tryz.lays137 ⟨p0.toArray⟩ p1 w).mono fun e w' ⟨he,hw⟩=>?_;subst hw;exact ⟨_,K,he,Ext.refl K,H,by rw [<- Option.some.inj hr];exact .int _ _⟩
theorem L_IndexByte_ok {β:Type} {f:Int -> Option β} {G:β -> Prop} {R:D -> Heap -> Prop} {p0:List By8} {p1:Int} (h:Heap) (hF:OptP ((L_IndexByte p0 p1).bind f) G) (hk:∀ r,L_IndexByte p0 p1=some r -> OptP (f r) G -> R (.int .i64 r) h):CallsA prog 172 [.str p0,.int .u8 p1] h R:=
 BX (enc:=fun r=>.int .i64 r) (fun G h hF=>L_IndexByte_w p0 p1 h hF) h hF hk
def L_DecodeRune (b:List By8):Option (Int × Int):=if b=[] then none else some (((Lib.decodeGo ⟨b.toArray⟩).1:Int),((Lib.decodeGo ⟨b.toArray⟩).2:Int))
theorem L_DecodeRune_w (p0:List By8) {G:Int × Int -> Prop} (h:Heap) (hF:OptP (L_DecodeRune p0) G):CallsA prog 186 [.sl 1 (List.map R2 p0) 0] h fun d h'=>∃ r,G r /\ d=.tup [.int .i32 r.1,.int .i64 r.2] /\ h'=h:=by
 obtain ⟨r,hr,hG⟩:=hF;unfold L_DecodeRune at hr;split at hr
 ·simp at hr
 ·rename_i hne;injection hr with hr
  subst hr;refine FG (d:=.tup [.int .i32 (Lib.decodeGo ⟨p0.toArray⟩).1,.int .i64 (Lib.decodeGo ⟨p0.toArray⟩).2]) (by kernel_rfl) ⟨_,hG,rfl,rfl⟩ fun K w vs H hl hv=>?_;rcases RY (c:=fun b:By8=>.int .u8 b.toNat) H (hv 0) with ⟨h0,_⟩ | ⟨b,o,cap,hvs,hcap,hce⟩
  ·exact absurd h0 hne
  ·obtain rfl:vs=#[.slice (some ⟨b,o,none⟩) p0.length cap]:=by rw [PE hl,hvs]
   have c:=Any7.utf8_DecodeRune Tryz.lays732 ⟨p0.toArray⟩ b o cap w H.tab.2.1 (fun j hj=>by
    rw [IR] at hj;obtain ⟨u,hu,hr⟩:=hce j p0[j] (List.getElem?_eq_getElem hj);rw [hu,Li hr];have:(⟨p0.toArray⟩:ByteArray).get! j=p0[j]:=by simp [ByteArray.get!,hj]
    rw [this])
   rw [IR] at c;refine Calls.mono c fun e w' ⟨he,hb⟩=>?_;refine ⟨_,K,he,Ext.refl K,H.under hb,.tup _ _ rfl fun i=>?_⟩
   match i with
   | 0=>exact .int _ _
   | 1=>exact .int _ _
   | i + 2=>exact .any _
theorem L_DecodeRune_ok {β:Type} {f:Int × Int -> Option β} {G:β -> Prop} {R:D -> Heap -> Prop} {p0:List By8} (h:Heap) (hF:OptP ((L_DecodeRune p0).bind f) G) (hk:∀ r,L_DecodeRune p0=some r -> OptP (f r) G -> R (.tup [.int .i32 r.1,.int .i64 r.2]) h):CallsA prog 186 [.sl 1 (List.map R2 p0) 0] h R:=
 BX (enc:=fun r=>.tup [.int .i32 r.1,.int .i64 r.2]) (fun G h hF=>L_DecodeRune_w p0 h hF) h hF hk
def L_DecodeRuneInString (b:List By8):Option (Int × Int):=some (((Lib.decodeGo ⟨b.toArray⟩).1:Int),((Lib.decodeGo ⟨b.toArray⟩).2:Int))
theorem L_DecodeRuneInString_w (p0:List By8) {G:Int × Int -> Prop} (h:Heap) (hF:OptP (L_DecodeRuneInString p0) G):CallsA prog 140 [.str p0] h fun d h'=>∃ r,G r /\ d=.tup [.int .i32 r.1,.int .i64 r.2] /\ h'=h:=by
 obtain ⟨r,hr,hG⟩:=hF;injection hr with hr
 subst hr;refine FG (d:=.tup [.int .i32 (Lib.decodeGo ⟨p0.toArray⟩).1,.int .i64 (Lib.decodeGo ⟨p0.toArray⟩).2]) (by kernel_rfl) ⟨_,hG,rfl,rfl⟩ fun K w vs H hl hv=>?_;obtain rfl:vs=#[.string ⟨p0.toArray⟩]:=by rw [PE hl,Jg (hv 0)]
 refine (Any.utf8_DecodeRuneInString Tryz.lays197 ⟨p0.toArray⟩ w H.tab.2.1).mono fun e w' ⟨he,hb⟩=>?_;refine ⟨_,K,he,Ext.refl K,H.under hb,.tup _ _ rfl fun i=>?_⟩
 match i with
 | 0=>exact .int _ _
 | 1=>exact .int _ _
 | i + 2=>exact .any _
theorem L_DecodeRuneInString_ok {β:Type} {f:Int × Int -> Option β} {G:β -> Prop} {R:D -> Heap -> Prop} {p0:List By8} (h:Heap) (hF:OptP ((L_DecodeRuneInString p0).bind f) G) (hk:∀ r,L_DecodeRuneInString p0=some r -> OptP (f r) G -> R (.tup [.int .i32 r.1,.int .i64 r.2]) h):CallsA prog 140 [.str p0] h R:=by
 obtain ⟨r,hr,hF⟩:=A8 hF;exact (L_DecodeRuneInString_w p0 (G:=fun q=>q=r) h ⟨r,hr,rfl⟩).mono fun d h' ⟨q,hq,hd,hh⟩=>by subst hq;subst hd;subst hh;exact hk _ hr hF
def L_ValidString (s:List By8):Option Bool:=if s.length <= 9223372036854775807 then some (Lib.validD s) else none
theorem L_ValidString_w (p0:List By8) {G:Bool -> Prop} (h:Heap) (hF:OptP (L_ValidString p0) G):CallsA prog 146 [.str p0] h fun d h'=>∃ r,G r /\ d=.bool r /\ h'=h:=by
 obtain ⟨r,hr,hG⟩:=hF;obtain ⟨h0,rfl⟩:=ifO hr;refine FG (d:=.bool (Lib.validD p0)) (by kernel_rfl) ⟨_,hG,rfl,rfl⟩ fun K w vs H hl hv=>?_;obtain rfl:vs=#[.string ⟨p0.toArray⟩]:=by rw [PE hl,Jg (hv 0)]
 refine (Any.utf8_ValidString Tryz.lays196 ⟨p0.toArray⟩ w (by rw [IR];exact h0) H.tab.2.1).mono fun e w' ⟨he,hb⟩=>?_;exact ⟨_,K,he,Ext.refl K,H.under hb,.bool _⟩
theorem L_ValidString_ok {β:Type} {f:Bool -> Option β} {G:β -> Prop} {R:D -> Heap -> Prop} {p0:List By8} (h:Heap) (hF:OptP ((L_ValidString p0).bind f) G) (hk:∀ r,L_ValidString p0=some r -> OptP (f r) G -> R (.bool r) h):CallsA prog 146 [.str p0] h R:=
 BX (enc:=fun r=>.bool r) (fun G h hF=>L_ValidString_w p0 h hF) h hF hk
def L_Contains (s sub:List By8):Option Bool:=if s.length < 4294967281 then some (Lib.contains s sub) else none
theorem L_Contains_w (p0 p1:List By8) {G:Bool -> Prop} (h:Heap) (hF:OptP (L_Contains p0 p1) G):CallsA prog 116 [.str p0,.str p1] h fun d h'=>∃ r,G r /\ d=.bool r /\ h'=h:=by
 obtain ⟨r,hr,hG⟩:=hF;obtain ⟨h0,rfl⟩:=ifO hr;refine FG (d:=.bool (Lib.contains p0 p1)) (by kernel_rfl) ⟨_,hG,rfl,rfl⟩ fun K w vs H hl hv=>?_;obtain rfl:vs=#[.string ⟨p0.toArray⟩,.string ⟨p1.toArray⟩]:=by rw [XC hl,Jg (hv 0),Jg (hv 1)]
 refine (Any.strings_Contains_shaped Tryz.laysM144 ⟨p0.toArray⟩ ⟨p1.toArray⟩ w H.tab.1 (by rw [IR];exact h0)).mono fun e w' ⟨he,hw⟩=>?_;subst hw;exact ⟨_,K,he,Ext.refl K,H,.bool _⟩
theorem L_Contains_ok {β:Type} {f:Bool -> Option β} {G:β -> Prop} {R:D -> Heap -> Prop} {p0:List By8} {p1:List By8} (h:Heap) (hF:OptP ((L_Contains p0 p1).bind f) G) (hk:∀ r,L_Contains p0 p1=some r -> OptP (f r) G -> R (.bool r) h):CallsA prog 116 [.str p0,.str p1] h R:=by
 obtain ⟨r,hr,hF⟩:=A8 hF;exact (L_Contains_w p0 p1 (G:=fun q=>q=r) h ⟨r,hr,rfl⟩).mono fun d h' ⟨q,hq,hd,hh⟩=>by subst hq;subst hd;subst hh;exact hk _ hr hF
def L_TrimLeft (s cs:List By8):Option (List By8):=if cs.length < 4294967281 /\ cs.all (fun b=>decide (b.toNat < 128))=true then some (Lib.trimLeftS s cs) else none
theorem L_TrimLeft_w (p0 p1:List By8) {G:List By8 -> Prop} (h:Heap) (hF:OptP (L_TrimLeft p0 p1) G):CallsA prog 118 [.str p0,.str p1] h fun d h'=>∃ r,G r /\ d=.str r /\ h'=h:=by
 obtain ⟨r,hr,hG⟩:=hF;obtain ⟨⟨h1,h2⟩,rfl⟩:=ifO hr;refine FG (d:=.str (Lib.trimLeftS p0 p1)) (by kernel_rfl) ⟨_,hG,rfl,rfl⟩ fun K w vs H hl hv=>?_;obtain rfl:vs=#[.string ⟨p0.toArray⟩,.string ⟨p1.toArray⟩]:=by rw [XC hl,Jg (hv 0),Jg (hv 1)]
 refine (Any.strings_TrimLeft_laid Tryz.lays161 (by kernel_rfl) ⟨p0.toArray⟩ ⟨p1.toArray⟩ w (by rw [IR];exact h1) (ascii_of_all h2)).mono fun e w' ⟨he,hb⟩=>?_;exact ⟨_,K,he,Ext.refl K,H.under hb,.str _⟩
theorem L_TrimLeft_ok {β:Type} {f:List By8 -> Option β} {G:β -> Prop} {R:D -> Heap -> Prop} {p0:List By8} {p1:List By8} (h:Heap) (hF:OptP ((L_TrimLeft p0 p1).bind f) G) (hk:∀ r,L_TrimLeft p0 p1=some r -> OptP (f r) G -> R (.str r) h):CallsA prog 118 [.str p0,.str p1] h R:=by
 obtain ⟨r,hr,hF⟩:=A8 hF;exact (L_TrimLeft_w p0 p1 (G:=fun q=>q=r) h ⟨r,hr,rfl⟩).mono fun d h' ⟨q,hq,hd,hh⟩=>by subst hq;subst hd;subst hh;exact hk _ hr hF
def L_SimpleFold (r:Int):Option Int:=if r=120 then some 88 else if r=88 then some 120 else if r=109 then some 77 else if r=77 then some 109 else if r=108 then some 76 else if r=76 then some 108 else none
theorem L_SimpleFold_w (p0:Int) {G:Int -> Prop} (h:Heap) (hF:OptP (L_SimpleFold p0) G):CallsA prog 147 [.int .i32 p0] h fun d h'=>∃ r,G r /\ d=.int .i32 r /\ h'=h:=by
 obtain ⟨r,hr,hG⟩:=hF;refine FG (d:=.int .i32 r) (by kernel_rfl) ⟨_,hG,rfl,rfl⟩ fun K w vs H hl hv=>?_;obtain rfl:vs=#[.int .i32 p0]:=by rw [PE hl,Li (hv 0)]
 have key:∀ (c:Nat) (v:Int),c < 128 -> 0 <= v /\ v < 128 -> p0=(c:Int) -> r=v -> w.cell? ⟨2,c,none⟩=some (.int .u16 v) -> Calls prog 147 #[.int .i32 p0] w fun e w'=>∃ v K',e=.returned v /\ Ext K K' /\ HR K' h w' /\ VR K' v (.int .i32 r):=by
  intro c v h1 h2 h3 h4 h5;subst h3 h4;exact (Xm c r h1 h2 w h5).mono fun e w' ⟨he,hw⟩=>by subst hw;exact ⟨_,K,he,Ext.refl K,H,.int _ _⟩
 have T:=H.tab.2.2.1;unfold L_SimpleFold at hr;split at hr
 ·rename_i e;injection hr with hr
  obtain ⟨v,hv,c1,_⟩:=T 120 (by decide);exact key 120 88 (by decide) (by decide) e hr.symm (by rw [hv,c1 rfl])
 split at hr
 ·rename_i e;injection hr with hr
  obtain ⟨v,hv,_,c1,_⟩:=T 88 (by decide);exact key 88 120 (by decide) (by decide) e hr.symm (by rw [hv,c1 rfl])
 split at hr
 ·rename_i e;injection hr with hr
  obtain ⟨v,hv,_,_,c1,_⟩:=T 109 (by decide);exact key 109 77 (by decide) (by decide) e hr.symm (by rw [hv,c1 rfl])
 split at hr
 ·rename_i e;injection hr with hr
  obtain ⟨v,hv,_,_,_,c1,_⟩:=T 77 (by decide);exact key 77 109 (by decide) (by decide) e hr.symm (by rw [hv,c1 rfl])
 split at hr
 ·rename_i e;injection hr with hr
  obtain ⟨v,hv,_,_,_,_,c1,_⟩:=T 108 (by decide);exact key 108 76 (by decide) (by decide) e hr.symm (by rw [hv,c1 rfl])
 split at hr
 ·rename_i e;injection hr with hr
  obtain ⟨v,hv,_,_,_,_,_,c1⟩:=T 76 (by decide);exact key 76 108 (by decide) (by decide) e hr.symm (by rw [hv,c1 rfl])
 ·simp at hr
theorem L_SimpleFold_ok {β:Type} {f:Int -> Option β} {G:β -> Prop} {R:D -> Heap -> Prop} {p0:Int} (h:Heap) (hF:OptP ((L_SimpleFold p0).bind f) G) (hk:∀ r,L_SimpleFold p0=some r -> OptP (f r) G -> R (.int .i32 r) h):CallsA prog 147 [.int .i32 p0] h R:=by
 obtain ⟨r,hr,hF⟩:=A8 hF;exact (L_SimpleFold_w p0 (G:=fun q=>q=r) h ⟨r,hr,rfl⟩).mono fun d h' ⟨q,hq,hd,hh⟩=>by subst hq;subst hd;subst hh;exact hk _ hr hF
def O6 (s:List By8):Int × Bool:=match Lib.atoiAll s with
  | .ok v=>(v,false)
  | .range=>(Lib.atoiSat s,true)
  | _=>(0,true)
def L_Atoi (s:List By8):Option (Int × Bool):=if s.length <= 281474976710656 then some (O6 s) else none
theorem L_Atoi_w (p0:List By8) {G:Int × Bool -> Prop} (h:Heap) (hF:OptP (L_Atoi p0) G):CallsA prog 200 [.str p0] h fun d h'=>∃ r,G r /\ d=.tup [.int .i64 r.1,ifD r.2] /\ h'=h:=by
  obtain ⟨r,hr,hG⟩:=hF;obtain ⟨h0,rfl⟩:=ifO hr;refine FG (d:=.tup [.int .i64 (O6 p0).1,ifD (O6 p0).2]) (by kernel_rfl) ⟨_,hG,rfl,rfl⟩ fun K w vs H hl hv=>?_;obtain rfl:vs=#[.string ⟨p0.toArray⟩]:=by rw [PE hl,Jg (hv 0)]
  obtain ⟨v3,hv3,hi3⟩:=H.tab.2.2.2.2.1;obtain ⟨v4,hv4,hi4⟩:=H.tab.2.2.2.2.2
  cases ha:Lib.atoiAll p0 with
  | ok v =>
    have e1:O6 p0=(v,false):=by simp only [O6,ha]
    rw [e1];refine (Any.strconv_Atoi_ok Tryz.laysC172 ⟨p0.toArray⟩ (by rw [IR];omega) v ha w).mono fun e w' ⟨he,hw⟩=>?_;have hb:Below w.heap.size w w':=by
      rcases hw with rfl | ⟨t,rfl⟩
      · exact Below.refl _ _
      · exact Lib.bytesWorld_below _ _ _
    refine ⟨_,K,he,Ext.refl K,H.under hb,.tup _ _ rfl fun i=>?_⟩
    match i with
    | 0=>exact .int _ _
    | 1=>exact .inil
    | i + 2=>exact .any _
  | range =>
    have e1:O6 p0=(Lib.atoiSat p0,true):=by simp only [O6,ha]
    rw [e1];refine (Any.strconv_Atoi_range Tryz.laysC172 ⟨p0.toArray⟩ (by rw [IR];exact h0) ha v4 w hv4 hi4).mono fun e w' ⟨N,he,_,_,hb⟩=>?_;refine ⟨_,K,he,Ext.refl K,H.under hb,.tup _ _ rfl fun i=>?_⟩
    match i with
    | 0=>exact .int _ _
    | 1=>exact .ifc _ _
    | i + 2=>exact .any _
  | _ =>
    have e1:O6 p0=(0,true):=by simp only [O6,ha]
    rw [e1];refine (Any.strconv_Atoi_syntax Tryz.laysC172 ⟨p0.toArray⟩ (by rw [IR];exact h0) ha v3 w hv3 hi3).mono fun e w' ⟨N,he,_,_,hb⟩=>?_;refine ⟨_,K,he,Ext.refl K,H.under hb,.tup _ _ rfl fun i=>?_⟩
    match i with
    | 0=>exact .int _ _
    | 1=>exact .ifc _ _
    | i + 2=>exact .any _
theorem L_Atoi_ok {β:Type} {f:Int × Bool -> Option β} {G:β -> Prop} {R:D -> Heap -> Prop} {p0:List By8} (h:Heap) (hF:OptP ((L_Atoi p0).bind f) G) (hk:∀ r,L_Atoi p0=some r -> OptP (f r) G -> R (.tup [.int .i64 r.1,ifD r.2]) h):CallsA prog 200 [.str p0] h R:=
  BX (enc:=fun r=>.tup [.int .i64 r.1,ifD r.2]) (fun G h hF=>L_Atoi_w p0 h hF) h hF hk
def L_bits (x:Nat):Option Int:=some (x:Int)
theorem L_bits_w (p0:Nat) {G:Int -> Prop} (h:Heap) (hF:OptP (L_bits p0) G):CallsA prog 204 [.float .f64 p0] h fun d h'=>∃ r,G r /\ d=.int .u64 r /\ h'=h:=by
  obtain ⟨r,hr,hG⟩:=hF;injection hr with hr;subst hr
  refine .inr fun K w vs H hl hv=>?_;obtain rfl:vs=#[.float .f64 p0]:=by rw [PE hl,Pl (hv 0)]
  exact ⟨.int .u64 p0,w,.int .u64 p0,K,h,by rw [run_callFunc_extern (e:=Extern.MathFloatBits.float64bits) func204 rfl rfl (by kernel_rfl) (by kernel_rfl)];rfl,Ext.refl K,H,.int _ _,_,hG,rfl,rfl⟩
theorem L_bits_ok {β:Type} {f:Int -> Option β} {G:β -> Prop} {R:D -> Heap -> Prop} {p0:Nat} (h:Heap) (hF:OptP ((L_bits p0).bind f) G) (hk:∀ r,L_bits p0=some r -> OptP (f r) G -> R (.int .u64 r) h):CallsA prog 204 [.float .f64 p0] h R:=by
  obtain ⟨r0,hr,hF⟩:=A8 hF;refine (L_bits_w (G:=fun r=>r=r0) p0 h ⟨r0,hr,rfl⟩).mono ?_;rintro _ _ ⟨r,rfl,rfl,rfl⟩;exact hk _ hr hF
def L_frombits (n:Int):Option Nat:=some n.toNat
theorem L_frombits_w (p0:Int) {G:Nat -> Prop} (h:Heap) (hF:OptP (L_frombits p0) G):CallsA prog 203 [.int .u64 p0] h fun d h'=>∃ r,G r /\ d=.float .f64 r /\ h'=h:=by
  obtain ⟨r,hr,hG⟩:=hF;injection hr with hr;subst hr
  refine .inr fun K w vs H hl hv=>?_;obtain rfl:vs=#[.int .u64 p0]:=by rw [PE hl,Li (hv 0)]
  exact ⟨.float .f64 p0.toNat,w,.float .f64 p0.toNat,K,h,by rw [run_callFunc_extern (e:=Extern.MathFloatBits.float64frombits) func203 rfl rfl (by kernel_rfl) (by kernel_rfl)];rfl,Ext.refl K,H,.float _ _,_,hG,rfl,rfl⟩
theorem L_frombits_ok {β:Type} {f:Nat -> Option β} {G:β -> Prop} {R:D -> Heap -> Prop} {p0:Int} (h:Heap) (hF:OptP ((L_frombits p0).bind f) G) (hk:∀ r,L_frombits p0=some r -> OptP (f r) G -> R (.float .f64 r) h):CallsA prog 203 [.int .u64 p0] h R:=by
  obtain ⟨r0,hr,hF⟩:=A8 hF;refine (L_frombits_w (G:=fun r=>r=r0) p0 h ⟨r0,hr,rfl⟩).mono ?_;rintro _ _ ⟨r,rfl,rfl,rfl⟩;exact hk _ hr hF
def L_archTrunc (x:Nat):Option Nat:=match FloatKind.f64.decode x with
  | .nan _ _=>none
  | d=>some (FloatKind.f64.encode (d.integral .zero))
theorem L_archTrunc_w (p0:Nat) {G:Nat -> Prop} (h:Heap) (hF:OptP (L_archTrunc p0) G):CallsA prog 201 [.float .f64 p0] h fun d h'=>∃ r,G r /\ d=.float .f64 r /\ h'=h:=by
  obtain ⟨r,hr,hG⟩:=hF;refine .inr fun K w vs H hl hv=>?_;obtain rfl:vs=#[.float .f64 p0]:=by rw [PE hl,Pl (hv 0)]
  refine ⟨.float .f64 r, w, .float .f64 r, K, h, ?_, Ext.refl K, H, .float _ _, _, hG, rfl, rfl⟩;rw [run_callFunc_extern (e := Extern.MathFloor.toIntegral "math.archTrunc" .zero) func201 rfl rfl (by kernel_rfl) (by kernel_rfl)];unfold L_archTrunc at hr;have key : (Extern.MathFloor.toIntegral "math.archTrunc" .zero #[.float .f64 p0]).run prog w = .ok (.float .f64 r) w := by
    delta Extern.MathFloor.toIntegral Extern.MathFloor.toIntegral.match_2
    dsimp only;rw [dif_pos (show (#[Value.float FloatKind.f64 p0]:Array Value).size=1 from rfl)]
    delta Extern.MathFloor.toIntegral._sparseCasesOn_2 Extern.MathFloor.toIntegral._sparseCasesOn_3
    dsimp only [Array.getLit];simp only [List.getElem_toArray,List.getElem_cons_zero]
    cases hd:FloatKind.f64.decode p0 with
    | number s m e=>rw [hd] at hr;injection hr with hr;subst hr;rfl
    | infinity s=>rw [hd] at hr;injection hr with hr;subst hr;rfl
    | nan s t=>rw [hd] at hr;simp at hr
  rw [key];rfl
theorem L_archTrunc_ok {β:Type} {f:Nat -> Option β} {G:β -> Prop} {R:D -> Heap -> Prop} {p0:Nat} (h:Heap) (hF:OptP ((L_archTrunc p0).bind f) G) (hk:∀ r,L_archTrunc p0=some r -> OptP (f r) G -> R (.float .f64 r) h):CallsA prog 201 [.float .f64 p0] h R:=by
  obtain ⟨r0,hr,hF⟩:=A8 hF;refine (L_archTrunc_w (G:=fun r=>r=r0) p0 h ⟨r0,hr,rfl⟩).mono ?_;rintro _ _ ⟨r,rfl,rfl,rfl⟩;exact hk _ hr hF
def L_CloneInts (l:List Int):Option (List Int):=if l.length * 8 <= 140737488355328 then some l else none
theorem L_CloneInts_w (p0 : List Int) {G : List Int -> Prop} (h : Heap) (hF : OptP (L_CloneInts p0) G) : CallsA prog 76 [.sl 1 (List.map B1 p0) 0] h fun d h' => ∃ r, G r /\ d = .sl 1 (List.map B1 r) 0 /\ h' = h := by
  obtain ⟨r,hr,hG⟩:=hF;obtain ⟨h0,rfl⟩:=ifO hr;refine FG (d:=.sl 1 (List.map B1 p0) 0) (by kernel_rfl) ⟨_,hG,rfl,rfl⟩ fun K w vs H hl hv=>?_;rcases RY (c:=fun b:Int=>.int .i64 b) H (hv 0) with ⟨rfl,a,hvs⟩ | ⟨b,o,cap,hvs,hcap,hce⟩
  · obtain rfl : vs = #[.slice a 0 0] := by rw [PE hl, hvs]
    cases a with
    | none =>
      refine (Any.slices_Clone_int_nil Tryz.laysNm215 0 0 w).mono fun e w' ⟨he,hw⟩=>?_;subst hw;exact ⟨_,K,he,Ext.refl K,H,.slz _ _⟩
    | some a =>
      refine (Any.slices_Clone_int_zero Tryz.laysNm215 a 0 w).mono fun e w' ⟨v,he,ho,_,hb⟩=>?_;refine ⟨_,K,he,Ext.refl K,H.under hb,?_⟩;rcases ho.2 with ⟨rfl,_⟩ | ⟨g,cap,cur,rfl,_,_,_,_,_,_⟩
      · exact .slz _ _
      · exact .sl g 0 1 [] 0 cap (fun _ _=>undef) (by simp) (by simp) (fun i j=>by simp;exact .any _) (by simp) (fun h=>absurd rfl h)
  · obtain rfl : vs = #[.slice (some ⟨b, o, none⟩) p0.length cap] := by rw [PE hl, hvs]
    refine (Any.slices_Clone_int Tryz.laysNm215 b o p0.length cap p0 w (Nat.le_refl _) h0 (fun j hj=>by
      obtain ⟨u,hu,hr⟩:=hce j p0[j] (List.getElem?_eq_getElem hj)
      rw [hu,Li hr];simp [List.getD,hj])).mono fun e w' ⟨v,he,ho,_,hb⟩=>?_
    rw [List.take_length] at ho;rcases ho.2 with ⟨rfl,h1⟩ | ⟨g,cap,cur,rfl,hg,hc,hn,_,hsz,ht⟩
    · have:p0=[]:=List.eq_nil_of_length_eq_zero h1;subst this;exact ⟨_,K,he,Ext.refl K,H.under hb,.slz _ _⟩
    · have hcell : ∀ j x, p0[j]? = some x -> w'.cell? ⟨g, j, none⟩ = some (.int .i64 x) := fun j x hx => by
        have:(p0.map (Value.int .i64))[j]?=some (.int .i64 x):=by simp [hx]
        rw [<- ht] at this;rw [List.getElem?_take] at this;split at this
        · simp only [World.cell?,hc];simpa using this
        · simp at this
      obtain ⟨E,H'⟩:=H.learn hb hg (fun o=>(p0[o]?).map (Value.int .i64)) (fun o v hv=>by
        simp only [Option.map_eq_some_iff] at hv;obtain ⟨x,hx,rfl⟩:=hv
        exact ⟨hcell o x hx,rfl⟩)
      refine ⟨_,_,he,E,H',?_⟩;exact ZK (K:=K) (c:=fun b:Int=>.int .i64 b) (l:=p0) (fun j=>.int .i64 (p0.getD j 0)) (fun j hj=>by simp [List.getElem?_eq_getElem hj,List.getD]) (fun j x hx=>by simp [List.getD,hx];exact .int _ _) hn
theorem L_CloneInts_ok {β:Type} {f:List Int -> Option β} {G:β -> Prop} {R:D -> Heap -> Prop} {p0:List Int} (h:Heap) (hF:OptP ((L_CloneInts p0).bind f) G) (hk:∀ r,L_CloneInts p0=some r -> OptP (f r) G -> R (.sl 1 (List.map B1 r) 0) h):CallsA prog 76 [.sl 1 (List.map B1 p0) 0] h R:=
  BX (enc:=fun r=>.sl 1 (List.map B1 r) 0) (fun G h hF=>L_CloneInts_w p0 h hF) h hF hk
end Go.Proofs.YtmnbjcpikllknaaGreatDoor
