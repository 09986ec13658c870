/- The abstract machine's equations, one by one, for simp. No condition. -/
import Derived.Test.YtmnbjcpikllknaaGreatDoorEng12
set_option linter.unusedSimpArgs false
set_option linter.unusedVariables false
namespace Go.Proofs.YtmnbjcpikllknaaGreatDoor
section
variable (P : Program) (h : Heap) (t : TypeId) (k k' : IntKind) (a b : Int) (m : Nat)
theorem Aal : EG P h .add t (.int k a) (.int k b) = some (.int k (k.wrap (a + b))) := by simp [EG, Ev]
theorem Aa0 : EG P h .sub t (.int k a) (.int k b) = some (.int k (k.wrap (a - b))) := by simp [EG, Ev]
theorem XB : EG P h .mul t (.int k a) (.int k b) = some (.int k (k.wrap (a * b))) := by simp [EG, Ev]
theorem Ac7 : EG P h .quo t (.int k a) (.int k b) = if b = 0 then none else some (.int k (k.wrap (a.tdiv b))) := by simp [EG, Ev]
theorem X0 : EG P h .rem t (.int k a) (.int k b) = if b = 0 then none else some (.int k (a.tmod b)) := by simp [EG, Ev]
theorem Afq : EG P h .or t (.int k a) (.int k b) = some (.int k (k.wrap (BitVec.ofInt k.bits a ||| BitVec.ofInt k.bits b).toNat)) := by simp only [EG, if_true]; rfl
theorem Ur : EG P h .andNot t (.int k a) (.int k b) = some (.int k (k.wrap (BitVec.ofInt k.bits a &&& ~~~(BitVec.ofInt k.bits b)).toNat)) := by simp only [EG, if_true]; rfl
theorem Ad8 : EG P h .eql t (.int k a) (.int k b) = some (.bool (a == b)) := by simp [EG, Ev]
theorem Aa5 : EG P h .neq t (.int k a) (.int k b) = some (.bool (a != b)) := by simp [EG, Ev]
theorem Ab2 : EG P h .lss t (.int k a) (.int k b) = some (.bool (decide (a < b))) := by simp [EG, Ev]
theorem Abd : EG P h .leq t (.int k a) (.int k b) = some (.bool (decide (a <= b))) := by simp [EG, Ev]
theorem Aar : EG P h .gtr t (.int k a) (.int k b) = some (.bool (decide (b < a))) := by simp [EG, Ev]
theorem Aca : EG P h .geq t (.int k a) (.int k b) = some (.bool (decide (b <= a))) := by simp [EG, Ev]
theorem Qd (op : BinOp) (x y : List By8) : EG P h op t (.str x) (.str y) = Hb op x y := by simp [EG]
def Aij : D -> Bool
 | .nilp | .ptr _ _ | .iptr _ => true
 | _ => false
def nz : Option Nat -> Bool
 | some n => n != 0
 | none => false
theorem UR (n : Nat) : nz (some n) = (n != 0) := rfl
theorem TH (n : Nat) (xs ys : List D) : eqD P h (n + 1) t (.agg xs) (.agg ys) = (sfD P t).bind fun fs => Db (eqD P h n) P xs ys fs := by
 show (match sfD P t with | some fs => Db (eqD P h n) P xs ys fs | none => none) = _;cases sfD P t <;> rfl
theorem Te (xs ys : List D) : EG P h .eql t (.agg xs) (.agg ys) = if P.eqGuardType P.depth t = false then ((sfD P t).bind fun fs => Db (eqD P h 9999) P xs ys fs).map .bool else none := by
 rw [<- TH P h t 9999];show (if (!P.eqGuardType P.depth t) = true then (eqD P h 10000 t (.agg xs) (.agg ys)).map D.bool else none) = _;cases P.eqGuardType P.depth t <;> rfl
theorem Si (xs ys : List D) : EG P h .neq t (.agg xs) (.agg ys) = if P.eqGuardType P.depth t = false then ((sfD P t).bind fun fs => Db (eqD P h 9999) P xs ys fs).map fun b => .bool (!b) else none := by
 rw [<- TH P h t 9999];show (if (!P.eqGuardType P.depth t) = true then (eqD P h 10000 t (.agg xs) (.agg ys)).map (fun b => D.bool (!b)) else none) = _;cases P.eqGuardType P.depth t <;> rfl
theorem Fo (f : TypeId -> D -> D -> Option Bool) (xs ys : List D) : Db f P xs ys [] = some true := rfl
theorem EM (f : TypeId -> D -> D -> Option Bool) (xs ys : List D) (o : Nat) (ft : TypeId) (r : List (Nat × TypeId)) :
  Db f P xs ys ((o, ft) :: r) = (E7 P ft (xs.drop o)).bind fun a => (E7 P ft (ys.drop o)).bind fun b => (f ft a b).bind fun c => (Db f P xs ys r).map fun e => c && e := by
 simp only [Db];cases E7 P ft (xs.drop o) <;> cases E7 P ft (ys.drop o) <;> rfl
theorem Ge : eqD P h 9999 t (.int k a) (.int k b) = if (kiD P t).isSome = true then some (a == b) else none := by simp [eqD]
theorem Gg (x y : List By8) : eqD P h 9999 t (.str x) (.str y) = if stD P t = true then some (x == y) else none := by simp [eqD]
theorem Fs (x y : Bool) : eqD P h 9999 t (.bool x) (.bool y) = if boD P t = true then some (x == y) else none := by simp [eqD]
theorem Gi (xs ys : List D) : eqD P h 9999 t (.agg xs) (.agg ys) = (sfD P t).bind fun fs => Db (eqD P h 9998) P xs ys fs := TH P h t 9998 xs ys
theorem Fr : eqD P h 9998 t (.int k a) (.int k b) = if (kiD P t).isSome = true then some (a == b) else none := by simp [eqD]
theorem Fl (x y : List By8) : eqD P h 9998 t (.str x) (.str y) = if stD P t = true then some (x == y) else none := by simp [eqD]
theorem EQ (x y : Bool) : eqD P h 9998 t (.bool x) (.bool y) = if boD P t = true then some (x == y) else none := by simp [eqD]
theorem YN (x y : List By8) : Hb .add x y = if x.length + y.length <= 9223372036854775807 then some (.str (x ++ y)) else none := rfl
theorem YV (x y : List By8) : Hb .eql x y = some (.bool (x == y)) := rfl
theorem Y2 (x y : List By8) : Hb .neq x y = some (.bool (!(x == y))) := rfl
theorem Y3 (x y : List By8) : Hb .lss x y = some (.bool (Op.bytesLess x y)) := rfl
theorem YS (x y : List By8) : Hb .gtr x y = some (.bool (!(Op.bytesLess x y || x == y))) := rfl
theorem Adb (x : Bool) : unD .not (.bool x) = some (.bool (!x)) := rfl
theorem T6 (f : FloatKind) (x : Nat) : unD .neg (.float f x) = some (.float f (Op.negFloat f x)) := rfl
theorem Ab3 (ts : List TypeId) (x y : Int) (R : D -> Heap -> Prop) : Ff P m .min ts [.int k x, .int k' y] h R = R (.int k (if y < x then y else x)) h := by simp [Ff, Mi, ZV, OptP]
theorem Abc (ts : List TypeId) (x y : Int) (R : D -> Heap -> Prop) : Ff P m .max ts [.int k x, .int k' y] h R = R (.int k (if y > x then y else x)) h := by simp [Ff, Mi, ZV, OptP]
theorem SV : SJ P h t .snil = if (slD P t).isSome = true then some (.int .i64 0) else none := rfl
theorem U9 (n : Nat) (es : List (List D)) (r : Nat) : SJ P h t (.sl n es r) = if (slD P t).isSome = true then some (.int .i64 es.length) else none := rfl
theorem Ac8 (id : Nat) : SJ P h t (.mp id) = match P.underlying t, h id with | some (.map _ _), some (.map es _) => some (.int .i64 es.length) | _, _ => none := rfl
theorem VM (n : Nat) (es : List (List D)) (h h' : Heap) (R : D -> Heap -> Prop) : HG 0 n es h h' R = R (.sl n es 0) h' := rfl
theorem RA (n : Nat) (es : List (List D)) (h h' : Heap) (R : D -> Heap -> Prop) : HG 2 n es h h' R = ∀ r, h r = none -> r ≠ 0 -> R (.sl n es r) (h'.upd r (some .room)) := rfl
theorem Zt (h : Heap) (cs : List D) (R : D -> Heap -> Prop) : Us 0 h cs R = R (.iptr cs) h := rfl
theorem U7 (h : Heap) (cs : List D) (R : D -> Heap -> Prop) : Us 1 h cs R = ∀ i, h i = none -> i ≠ 0 -> R (.ptr i 0) (h.upd i (some (.cells cs))) := rfl
theorem IC (cs : List D) : E7 P t cs = match agD P t, szD P t with
 | some true, some n => if n <= cs.length then some (.agg (cs.take n)) else none
 | some false, some _ => match cs with | d :: _ => some d | [] => none
 | _, _ => none := rfl
theorem Kc (id off : Nat) : LT P h t (.ptr id off) = match h id with | some (.cells cs) => E7 P t (cs.drop off) | some (.bytes cs) => E7 P t (cs.drop off) | _ => none := by
 simp only [LT, KM]
 cases h id with
 | none => rfl
 | some x => cases x <;> rfl
theorem RB (i : Int) (n : Nat) (es : List (List D)) (r : Nat) : D8 P t (.sl n es r) (.int k i) = if ((slD P t).bind (szD P)) = some n /\ 0 <= i /\ i < es.length then some (.iptr (es.getD i.toNat [])) else none := by
 simp only [D8]; cases slD P t <;> simp
theorem Pb (i : Int) (id off : Nat) : D8 P t (.ptr id off) (.int k i) = match arD P t with | some (n, e) => (match szD P e with | some q => if 0 <= i /\ i < n then some (.ptr id (off + i.toNat * q)) else none | none => none) | none => none := rfl
theorem Ug (i : Int) (s : List By8) : Mb P t (.str s) (.int k i) = if stD P t = true /\ 0 <= i /\ i < s.length then some (Ir (s.getD i.toNat 0)) else none := rfl
theorem YL (f : Nat) (cs : List D) : Fp P t f (.iptr cs) = match fdD P t f with | some (o, ft) => if nz (szD P ft) = true then (if o <= cs.length then some (.iptr (cs.drop o)) else none) else none | none => none := by
 simp only [Fp]
 cases fdD P t f with
 | none => rfl
 | some x =>
  obtain ⟨o, ft⟩ := x
  cases hs : szD P ft with
  | none => simp [nz, hs]
  | some n => cases n <;> simp [nz, hs, Sq]
theorem ZF (f id off : Nat) : Fp P t f (.ptr id off) = match fdD P t f with | some (o, ft) => if nz (szD P ft) = true then some (.ptr id (off + o)) else none | none => none := by
 simp only [Fp]
 cases fdD P t f with
 | none => rfl
 | some x =>
  obtain ⟨o, ft⟩ := x
  cases hs : szD P ft with
  | none => simp [nz, hs]
  | some n => cases n <;> simp [nz, hs, Sq]
theorem Pj (s : TypeId) : Ju P h s t (.int k a) = match kiD P t with
  | some k' => if (P.underlying s).isSome = true then some (.int k' (k'.wrap a)) else none
  | none => match faD P t with
   | some f => if (P.underlying s).isSome = true then some (.float f (f.nearest a)) else none
   | none => if stD P t = true /\ (P.underlying s).isSome = true then some (.str (Utf8.encode a).data.toList) else none := rfl
theorem Q0 (s : TypeId) (x : List By8) : Ju P h s t (.str x) = if stD P t = true /\ stD P s = true then some (.str x) else none := rfl
theorem Yo (s : TypeId) : Ju P h s t .snil = match slD P s with
  | some e => if kiD P e = some .u8 /\ stD P t = true then some (.str []) else none
  | none => none := rfl
theorem SO (s : TypeId) (n : Nat) (es : List (List D)) (r : Nat) : Ju P h s t (.sl n es r) = match slD P s with
  | some e => if kiD P e = some .u8 /\ stD P t = true /\ n = 1 then (E5 es).map .str else none
  | none => none := rfl
theorem P2 (s : List By8) (lo hi : Option D) : IY P t (.str s) lo hi = if stD P t = true then match C1 lo 0, C1 hi s.length with
   | some l, some h => if 0 <= l /\ l <= h /\ h <= s.length then some (.str ((s.drop l.toNat).take (h.toNat - l.toNat))) else none
   | _, _ => none
  else none := rfl
theorem Qk (n : Nat) (es : List (List D)) (r : Nat) (lo hi : Option D) : IY P t (.sl n es r) lo hi = if ((slD P t).bind (szD P)) = some n then match C1 lo 0, C1 hi es.length with
   | some l, some h => if 0 <= l /\ l <= h /\ h <= es.length then some (.sl n ((es.drop l.toNat).take (h.toNat - l.toNat)) 0) else none
   | _, _ => none
  else none := by
 simp only [IY]; cases slD P t <;> rfl
theorem Le (n id off l0 : Nat) (lo hi : Option D) : IY P t (.msl n id off l0) lo hi = if ((slD P t).bind (szD P)) = some n then match C1 lo 0, C1 hi l0 with
   | some l, some h => if 0 <= l /\ l <= h /\ h <= l0 /\ (l = 0 \/ l < l0) then some (.msl n id (off + l.toNat * n) (h.toNat - l.toNat)) else if 0 <= l /\ l = h /\ h = l0 then some (.sl n [] 0) else none
   | _, _ => none
  else none := by
 simp only [IY]; cases slD P t <;> rfl
end
end Go.Proofs.YtmnbjcpikllknaaGreatDoor
