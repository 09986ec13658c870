/- The abstract machine's equations, one by one, for simp. No condition. -/
import Derived.Test.YtmnbjcpikllknaaGreatDoorEng12
set_option linter.unusedSimpArgs false
set_option linter.unusedVariables false
namespace Go.Proofs.YtmnbjcpikllknaaGreatDoor
section
variable (P:Program) (h:Heap) (t:TypeId) (k k':IntKind) (a b:Int) (m:Nat)
theorem Adh:E5 P h .add t (.int k a) (.int k b)=some (.int k (k.wrap (a + b))):=by simp [E5,EW]
theorem Acp:E5 P h .sub t (.int k a) (.int k b)=some (.int k (k.wrap (a - b))):=by simp [E5,EW]
theorem XI:E5 P h .mul t (.int k a) (.int k b)=some (.int k (k.wrap (a * b))):=by simp [E5,EW]
theorem Aet:E5 P h .rem t (.int k a) (.int k b)=if b=0 then none else some (.int k (a.tmod b)):=by simp [E5,EW]
theorem Ah0:E5 P h .or t (.int k a) (.int k b)=some (.int k (k.wrap (BitVec.ofInt k.bits a ||| BitVec.ofInt k.bits b).toNat)):=by simp only [E5,if_true];rfl
theorem Ua:E5 P h .andNot t (.int k a) (.int k b)=some (.int k (k.wrap (BitVec.ofInt k.bits a &&& ~~~(BitVec.ofInt k.bits b)).toNat)):=by simp only [E5,if_true];rfl
theorem Abp:E5 P h .eql t (.int k a) (.int k b)=some (.bool (a == b)):=by simp [E5,EW]
theorem Ae7:E5 P h .neq t (.int k a) (.int k b)=some (.bool (a != b)):=by simp [E5,EW]
theorem Abq:E5 P h .lss t (.int k a) (.int k b)=some (.bool (decide (a < b))):=by simp [E5,EW]
theorem Aca:E5 P h .leq t (.int k a) (.int k b)=some (.bool (decide (a <= b))):=by simp [E5,EW]
theorem Adp:E5 P h .gtr t (.int k a) (.int k b)=some (.bool (decide (b < a))):=by simp [E5,EW]
theorem Abs:E5 P h .geq t (.int k a) (.int k b)=some (.bool (decide (b <= a))):=by simp [E5,EW]
theorem PK (op:BinOp) (x y:List By8):E5 P h op t (.str x) (.str y)=Hl op x y:=by simp [E5]
def Akl:D -> Bool
 | .nilp | .ptr _ _ | .iptr _=>true
 | _=>false
def nz:Option Nat -> Bool
 | some n=>n != 0
 | none=>false
theorem Vf (n:Nat):nz (some n)=(n != 0):=rfl
theorem Vn (n:Nat) (xs ys:List D):eqD P h (n + 1) t (.agg xs) (.agg ys)=(sfD P t).bind fun fs=>C9 (eqD P h n) P xs ys fs:=by
 show (match sfD P t with | some fs=>C9 (eqD P h n) P xs ys fs | none=>none)=_;cases sfD P t <;> rfl
theorem To (xs ys:List D):E5 P h .eql t (.agg xs) (.agg ys)=if P.eqGuardType P.depth t=false then ((sfD P t).bind fun fs=>C9 (eqD P h 9999) P xs ys fs).map .bool else none:=by
 rw [<- Vn P h t 9999];show (if (!P.eqGuardType P.depth t)=true then (eqD P h 10000 t (.agg xs) (.agg ys)).map D.bool else none)=_;cases P.eqGuardType P.depth t <;> rfl
theorem TB (xs ys:List D):E5 P h .neq t (.agg xs) (.agg ys)=if P.eqGuardType P.depth t=false then ((sfD P t).bind fun fs=>C9 (eqD P h 9999) P xs ys fs).map fun b=>.bool (!b) else none:=by
 rw [<- Vn P h t 9999];show (if (!P.eqGuardType P.depth t)=true then (eqD P h 10000 t (.agg xs) (.agg ys)).map (fun b=>D.bool (!b)) else none)=_;cases P.eqGuardType P.depth t <;> rfl
theorem E6 (f:TypeId -> D -> D -> Option Bool) (xs ys:List D):C9 f P xs ys []=some true:=rfl
theorem El (f:TypeId -> D -> D -> Option Bool) (xs ys:List D) (o:Nat) (ft:TypeId) (r:List (Nat × TypeId)) :
  C9 f P xs ys ((o,ft) :: r)=(Fd P ft (xs.drop o)).bind fun a=>(Fd P ft (ys.drop o)).bind fun b=>(f ft a b).bind fun c=>(C9 f P xs ys r).map fun e=>c && e:=by
 simp only [C9];cases Fd P ft (xs.drop o) <;> cases Fd P ft (ys.drop o) <;> rfl
theorem FN:eqD P h 9999 t (.int k a) (.int k b)=if (kiD P t).isSome=true then some (a == b) else none:=by simp [eqD]
theorem FB (x y:List By8):eqD P h 9999 t (.str x) (.str y)=if stD P t=true then some (x == y) else none:=by simp [eqD]
theorem EX (x y:Bool):eqD P h 9999 t (.bool x) (.bool y)=if boD P t=true then some (x == y) else none:=by simp [eqD]
theorem FD (xs ys:List D):eqD P h 9999 t (.agg xs) (.agg ys)=(sfD P t).bind fun fs=>C9 (eqD P h 9998) P xs ys fs:=Vn P h t 9998 xs ys
theorem E7:eqD P h 9998 t (.int k a) (.int k b)=if (kiD P t).isSome=true then some (a == b) else none:=by simp [eqD]
theorem EY (x y:List By8):eqD P h 9998 t (.str x) (.str y)=if stD P t=true then some (x == y) else none:=by simp [eqD]
theorem Es (x y:Bool):eqD P h 9998 t (.bool x) (.bool y)=if boD P t=true then some (x == y) else none:=by simp [eqD]
theorem Aaj (x y:List By8):Hl .add x y=if x.length + y.length <= 9223372036854775807 then some (.str (x ++ y)) else none:=rfl
theorem ZB (x y:List By8):Hl .eql x y=some (.bool (x == y)):=rfl
theorem Z2 (x y:List By8):Hl .neq x y=some (.bool (!(x == y))):=rfl
theorem Aad (x y:List By8):Hl .lss x y=some (.bool (Op.bytesLess x y)):=rfl
theorem ZH (x y:List By8):Hl .gtr x y=some (.bool (!(Op.bytesLess x y || x == y))):=rfl
theorem Adz (x:Bool):unD .not (.bool x)=some (.bool (!x)):=rfl
theorem U6 (f:FloatKind) (x:Nat):unD .neg (.float f x)=some (.float f (Op.negFloat f x)):=rfl
theorem Abx (ts:List TypeId) (x y:Int) (R:D -> Heap -> Prop):Fi P m .min ts [.int k x,.int k' y] h R=R (.int k (if y < x then y else x)) h:=by simp [Fi,MH,Aaz,OptP]
theorem Acz (ts:List TypeId) (x y:Int) (R:D -> Heap -> Prop):Fi P m .max ts [.int k x,.int k' y] h R=R (.int k (if y > x then y else x)) h:=by simp [Fi,MH,Aaz,OptP]
theorem Tm:SJ P h t .snil=if (slD P t).isSome=true then some (.int .i64 0) else none:=rfl
theorem T6 (n:Nat) (es:List (List D)) (r:Nat):SJ P h t (.sl n es r)=if (slD P t).isSome=true then some (.int .i64 es.length) else none:=rfl
theorem Ac2 (id:Nat):SJ P h t (.mp id)=match P.underlying t,h id with | some (.map _ _),some (.map es _)=>some (.int .i64 es.length) | _,_=>none:=rfl
theorem Xc (n:Nat) (es:List (List D)) (h h':Heap) (R:D -> Heap -> Prop):HC 0 n es h h' R=R (.sl n es 0) h':=rfl
theorem SC (n:Nat) (es:List (List D)) (h h':Heap) (R:D -> Heap -> Prop):HC 2 n es h h' R=∀ r,h r=none -> r ≠ 0 -> R (.sl n es r) (h'.upd r (some .room)):=rfl
theorem Aak (h:Heap) (cs:List D) (R:D -> Heap -> Prop):Vo 0 h cs R=R (.iptr cs) h:=rfl
theorem UI (h:Heap) (cs:List D) (R:D -> Heap -> Prop):Vo 1 h cs R=∀ i,h i=none -> i ≠ 0 -> R (.ptr i 0) (h.upd i (some (.cells cs))):=rfl
theorem HZ (cs:List D):Fd P t cs=match agD P t,szD P t with
 | some true,some n=>if n <= cs.length then some (.agg (cs.take n)) else none
 | some false,some _=>match cs with | d :: _=>some d | []=>none
 | _,_=>none:=rfl
theorem Kf (id off:Nat):MJ P h t (.ptr id off)=match h id with | some (.cells cs)=>Fd P t (cs.drop off) | some (.bytes cs)=>Fd P t (cs.drop off) | _=>none:=by
 simp only [MJ,KV]
 cases h id with
 | none=>rfl
 | some x=>cases x <;> rfl
theorem RU (i:Int) (n:Nat) (es:List (List D)) (r:Nat):D9 P t (.sl n es r) (.int k i)=if ((slD P t).bind (szD P))=some n /\ 0 <= i /\ i < es.length then some (.iptr (es.getD i.toNat [])) else none:=by
 simp only [D9];cases slD P t <;> simp
theorem Pr (i:Int) (id off:Nat):D9 P t (.ptr id off) (.int k i)=match arD P t with | some (n,e)=>(match szD P e with | some q=>if 0 <= i /\ i < n then some (.ptr id (off + i.toNat * q)) else none | none=>none) | none=>none:=rfl
theorem U3 (i:Int) (s:List By8):MP P t (.str s) (.int k i)=if stD P t=true /\ 0 <= i /\ i < s.length then some (Kx (s.getD i.toNat 0)) else none:=rfl
theorem Zk (f:Nat) (cs:List D):Fz P t f (.iptr cs)=match fdD P t f with | some (o,ft)=>if nz (szD P ft)=true then (if o <= cs.length then some (.iptr (cs.drop o)) else none) else none | none=>none:=by
 simp only [Fz]
 cases fdD P t f with
 | none=>rfl
 | some x=>
  obtain ⟨o,ft⟩:=x
  cases hs:szD P ft with
  | none=>simp [nz,hs]
  | some n=>cases n <;> simp [nz,hs,Tq]
theorem Aan (f id off:Nat):Fz P t f (.ptr id off)=match fdD P t f with | some (o,ft)=>if nz (szD P ft)=true then some (.ptr id (off + o)) else none | none=>none:=by
 simp only [Fz]
 cases fdD P t f with
 | none=>rfl
 | some x=>
  obtain ⟨o,ft⟩:=x
  cases hs:szD P ft with
  | none=>simp [nz,hs]
  | some n=>cases n <;> simp [nz,hs,Tq]
theorem Ph (s:TypeId):KX P h s t (.int k a)=match kiD P t with
  | some k'=>if (P.underlying s).isSome=true then some (.int k' (k'.wrap a)) else none
  | none=>match faD P t with
   | some f=>if (P.underlying s).isSome=true then some (.float f (f.nearest a)) else none
   | none=>if stD P t=true /\ (P.underlying s).isSome=true then some (.str (Utf8.encode a).data.toList) else none:=rfl
theorem QE (s:TypeId) (x:List By8):KX P h s t (.str x)=if stD P t=true /\ stD P s=true then some (.str x) else none:=rfl
theorem PW (s:List By8) (lo hi:Option D):IX P t (.str s) lo hi=if stD P t=true then match C2 lo 0,C2 hi s.length with
   | some l,some h=>if 0 <= l /\ l <= h /\ h <= s.length then some (.str ((s.drop l.toNat).take (h.toNat - l.toNat))) else none
   | _,_=>none
  else none:=rfl
theorem Ro (n:Nat) (es:List (List D)) (r:Nat) (lo hi:Option D):IX P t (.sl n es r) lo hi=if ((slD P t).bind (szD P))=some n then match C2 lo 0,C2 hi es.length with
   | some l,some h=>if 0 <= l /\ l <= h /\ h <= es.length then some (.sl n ((es.drop l.toNat).take (h.toNat - l.toNat)) 0) else none
   | _,_=>none
  else none:=by
 simp only [IX];cases slD P t <;> rfl
theorem Lo (n id off l0:Nat) (lo hi:Option D):IX P t (.msl n id off l0) lo hi=if ((slD P t).bind (szD P))=some n then match C2 lo 0,C2 hi l0 with
   | some l,some h=>if 0 <= l /\ l <= h /\ h <= l0 /\ (l=0 \/ l < l0) then some (.msl n id (off + l.toNat * n) (h.toNat - l.toNat)) else if 0 <= l /\ l=h /\ h=l0 then some (.sl n [] 0) else none
   | _,_=>none
  else none:=by
 simp only [IX];cases slD P t <;> rfl
end
end Go.Proofs.YtmnbjcpikllknaaGreatDoor
