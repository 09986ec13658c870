/- The abstract machine's equations, one by one, for simp. No condition. -/
import Derived.Test.YtjofelloaofooaaGreatDoorEng12
set_option linter.unusedSimpArgs false
set_option linter.unusedVariables false
namespace Go.Proofs.YtjofelloaofooaaGreatDoor
section
variable (P : Program) (h : Heap) (t : TypeId) (k k' : IntKind) (a b : Int) (m : Nat)
theorem Ti : EQ P h .add t (.int k a) (.int k b) = some (.int k (k.wrap (a + b))) := by simp [EQ, El]
theorem Xi : EQ P h .sub t (.int k a) (.int k b) = some (.int k (k.wrap (a - b))) := by simp [EQ, El]
theorem Zf : EQ P h .or t (.int k a) (.int k b) = some (.int k (k.wrap (BitVec.ofInt k.bits a ||| BitVec.ofInt k.bits b).toNat)) := by simp only [EQ, if_true]; rfl
theorem Lm : EQ P h .eql t (.int k a) (.int k b) = some (.bool (a == b)) := by simp [EQ, El]
theorem SJ : EQ P h .neq t (.int k a) (.int k b) = some (.bool (a != b)) := by simp [EQ, El]
theorem Su : EQ P h .lss t (.int k a) (.int k b) = some (.bool (decide (a < b))) := by simp [EQ, El]
theorem W9 : EQ P h .leq t (.int k a) (.int k b) = some (.bool (decide (a <= b))) := by simp [EQ, El]
theorem Sw : EQ P h .gtr t (.int k a) (.int k b) = some (.bool (decide (b < a))) := by simp [EQ, El]
theorem Xe : EQ P h .geq t (.int k a) (.int k b) = some (.bool (decide (b <= a))) := by simp [EQ, El]
theorem Xw : EQ P h .shr t (.int k a) (.int k' b) = if b < 0 then none else some (.int k (a.fdiv (2 ^ (min b.toNat k.bits)))) := by simp [EQ]
theorem Lz (op : BinOp) (x y : List By8) : EQ P h op t (.str x) (.str y) = FJ op x y := by simp [EQ]
theorem MT (x y : Bool) : EQ P h .eql t (.bool x) (.bool y) = if boD P t = true then some (.bool (x == y)) else none := by
 simp [EQ, Hr, eqD]; try (split <;> simp)
def Acs : D -> Bool
 | .nilp | .ptr _ _ | .iptr _ => true
 | _ => false
def nz : Option Nat -> Bool
 | some n => n != 0
 | none => false
theorem Qq (n : Nat) : nz (some n) = (n != 0) := rfl
theorem Qe (n : Nat) (xs ys : List D) : eqD P h (n + 1) t (.agg xs) (.agg ys) = (sfD P t).bind fun fs => Cg (eqD P h n) P xs ys fs := by
 show (match sfD P t with | some fs => Cg (eqD P h n) P xs ys fs | none => none) = _;cases sfD P t <;> rfl
theorem OQ (xs ys : List D) : EQ P h .eql t (.agg xs) (.agg ys) = if P.eqGuardType P.depth t = false then ((sfD P t).bind fun fs => Cg (eqD P h 9999) P xs ys fs).map .bool else none := by
 rw [<- Qe P h t 9999];show (if (!P.eqGuardType P.depth t) = true then (eqD P h 10000 t (.agg xs) (.agg ys)).map D.bool else none) = _;cases P.eqGuardType P.depth t <;> rfl
theorem OU (xs ys : List D) : EQ P h .neq t (.agg xs) (.agg ys) = if P.eqGuardType P.depth t = false then ((sfD P t).bind fun fs => Cg (eqD P h 9999) P xs ys fs).map fun b => .bool (!b) else none := by
 rw [<- Qe P h t 9999];show (if (!P.eqGuardType P.depth t) = true then (eqD P h 10000 t (.agg xs) (.agg ys)).map (fun b => D.bool (!b)) else none) = _;cases P.eqGuardType P.depth t <;> rfl
theorem EG (f : TypeId -> D -> D -> Option Bool) (xs ys : List D) : Cg f P xs ys [] = some true := rfl
theorem En (f : TypeId -> D -> D -> Option Bool) (xs ys : List D) (o : Nat) (ft : TypeId) (r : List (Nat × TypeId)) :
  Cg f P xs ys ((o, ft) :: r) = (Ek P ft (xs.drop o)).bind fun a => (Ek P ft (ys.drop o)).bind fun b => (f ft a b).bind fun c => (Cg f P xs ys r).map fun e => c && e := by
 simp only [Cg];cases Ek P ft (xs.drop o) <;> cases Ek P ft (ys.drop o) <;> rfl
theorem Fp : eqD P h 9999 t (.int k a) (.int k b) = if (kiD P t).isSome = true then some (a == b) else none := by simp [eqD]
theorem Fi (x y : List By8) : eqD P h 9999 t (.str x) (.str y) = if stD P t = true then some (x == y) else none := by simp [eqD]
theorem EN (x y : Bool) : eqD P h 9999 t (.bool x) (.bool y) = if boD P t = true then some (x == y) else none := by simp [eqD]
theorem Fb (xs ys : List D) : eqD P h 9999 t (.agg xs) (.agg ys) = (sfD P t).bind fun fs => Cg (eqD P h 9998) P xs ys fs := Qe P h t 9998 xs ys
theorem EJ : eqD P h 9998 t (.int k a) (.int k b) = if (kiD P t).isSome = true then some (a == b) else none := by simp [eqD]
theorem EK (x y : List By8) : eqD P h 9998 t (.str x) (.str y) = if stD P t = true then some (x == y) else none := by simp [eqD]
theorem Eg (x y : Bool) : eqD P h 9998 t (.bool x) (.bool y) = if boD P t = true then some (x == y) else none := by simp [eqD]
theorem U8 (x y : List By8) : FJ .add x y = if x.length + y.length <= 9223372036854775807 then some (.str (x ++ y)) else none := rfl
theorem TE (x y : List By8) : FJ .eql x y = some (.bool (x == y)) := rfl
theorem T1 (x y : List By8) : FJ .neq x y = some (.bool (!(x == y))) := rfl
theorem TG (x y : List By8) : FJ .lss x y = some (.bool (Op.bytesLess x y)) := rfl
theorem TB (x y : List By8) : FJ .gtr x y = some (.bool (!(Op.bytesLess x y || x == y))) := rfl
theorem VE (x : Bool) : unD .not (.bool x) = some (.bool (!x)) := rfl
theorem Wi (ts : List TypeId) (x y : Int) (R : D -> Heap -> Prop) : Fc P m .min ts [.int k x, .int k' y] h R = R (.int k (if y < x then y else x)) h := by simp [Fc, MZ, Xn, OptP]
theorem Ou : Oz P h t .snil = if (slD P t).isSome = true then some (.int .i64 0) else none := rfl
theorem PJ (n : Nat) (es : List (List D)) (r : Nat) : Oz P h t (.sl n es r) = if (slD P t).isSome = true then some (.int .i64 es.length) else none := rfl
theorem VG (id : Nat) : Oz P h t (.mp id) = match P.underlying t, h id with | some (.map _ _), some (.map es _) => some (.int .i64 es.length) | _, _ => none := rfl
theorem RE (n : Nat) (es : List (List D)) (h h' : Heap) (R : D -> Heap -> Prop) : Gm 0 n es h h' R = R (.sl n es 0) h' := rfl
theorem Rt (n : Nat) (es : List (List D)) (h h' : Heap) (R : D -> Heap -> Prop) : Gm 2 n es h h' R = ∀ r, h r = none -> r ≠ 0 -> R (.sl n es r) (h'.upd r (some .room)) := rfl
theorem UI (t : TypeId) (h : Heap) (cs : List D) (R : D -> Heap -> Prop) : O8 0 t h cs R = R (.iptr cs) h := rfl
theorem Tx (t : TypeId) (h : Heap) (cs : List D) (R : D -> Heap -> Prop) : O8 7 t h cs R = ∀ i, h i = none -> i ≠ 0 -> R (.ptr i 0) (h.upd i (some (.box (TH t cs)))) := rfl
theorem Pn (t : TypeId) (h : Heap) (cs : List D) (R : D -> Heap -> Prop) : O8 1 t h cs R = ∀ i, h i = none -> i ≠ 0 -> R (.ptr i 0) (h.upd i (some (.cells cs))) := rfl
theorem Ht (cs : List D) : Ek P t cs = match agD P t, szD P t with
 | some true, some n => if n <= cs.length then some (.agg (cs.take n)) else none
 | some false, some _ => match cs with | d :: _ => some d | [] => none
 | _, _ => none := rfl
theorem Hu (id off : Nat) : JC P h t (.ptr id off) = match h id with | some (.cells cs) => Ek P t (cs.drop off) | some (.bytes cs) => Ek P t (cs.drop off) | some (.box p) => ((p.cell off).map fun d => [d]).bind (Ek P t) | _ => none := by
 simp only [JC, Ig]
 cases h id with
 | none => rfl
 | some x => cases x <;> rfl
theorem N8 (i : Int) (n : Nat) (es : List (List D)) (r : Nat) : DC P t (.sl n es r) (.int k i) = if ((slD P t).bind (szD P)) = some n /\ 0 <= i /\ i < es.length then some (.iptr (es.getD i.toNat [])) else none := by
 simp only [DC]; cases slD P t <;> simp
theorem WQ (i : Int) (id off : Nat) : DC P t (.ptr id off) (.int k i) = match arD P t with | some (n, e) => (match szD P e with | some q => if 0 <= i /\ i < n then some (.ptr id (off + i.toNat * q)) else none | none => none) | none => none := rfl
theorem Qk (i : Int) (s : List By8) : Lp P t (.str s) (.int k i) = if stD P t = true /\ 0 <= i /\ i < s.length then some (Gp (s.getD i.toNat 0)) else none := rfl
theorem Uf (f : Nat) (cs : List D) : Ep P t f (.iptr cs) = match fdD P t f with | some (o, ft) => if nz (szD P ft) = true then (if o <= cs.length then some (.iptr (cs.drop o)) else none) else none | none => none := by
 simp only [Ep]
 cases fdD P t f with
 | none => rfl
 | some x =>
  obtain ⟨o, ft⟩ := x
  cases hs : szD P ft with
  | none => simp [nz, hs]
  | some n => cases n <;> simp [nz, hs, OE]
theorem U5 (f id off : Nat) : Ep P t f (.ptr id off) = match fdD P t f with | some (o, ft) => if nz (szD P ft) = true then some (.ptr id (off + o)) else none | none => none := by
 simp only [Ep]
 cases fdD P t f with
 | none => rfl
 | some x =>
  obtain ⟨o, ft⟩ := x
  cases hs : szD P ft with
  | none => simp [nz, hs]
  | some n => cases n <;> simp [nz, hs, OE]
theorem Qn (s : TypeId) : HY P h s t (.int k a) = match kiD P t with
  | some k' => if (P.underlying s).isSome = true then some (.int k' (k'.wrap a)) else none
  | none => match faD P t with
   | some f => if (P.underlying s).isSome = true then some (.float f (f.nearest a)) else none
   | none => if stD P t = true /\ (P.underlying s).isSome = true then some (.str (Utf8.encode a).data.toList) else none := rfl
theorem M2 (s : TypeId) (x : List By8) : HY P h s t (.str x) = if stD P t = true /\ stD P s = true then some (.str x) else none := rfl
theorem T3 (s : TypeId) : HY P h s t .snil = match slD P s with
  | some e => if kiD P e = some .u8 /\ stD P t = true then some (.str []) else none
  | none => none := rfl
theorem O1 (s : TypeId) (n : Nat) (es : List (List D)) (r : Nat) : HY P h s t (.sl n es r) = match slD P s with
  | some e => if kiD P e = some .u8 /\ stD P t = true /\ n = 1 then (D2 es).map .str else none
  | none => none := rfl
theorem L4 (s : List By8) (lo hi : Option D) : GE P t (.str s) lo hi = if stD P t = true then match B4 lo 0, B4 hi s.length with
   | some l, some h => if 0 <= l /\ l <= h /\ h <= s.length then some (.str ((s.drop l.toNat).take (h.toNat - l.toNat))) else none
   | _, _ => none
  else none := rfl
theorem M1 (n : Nat) (es : List (List D)) (r : Nat) (lo hi : Option D) : GE P t (.sl n es r) lo hi = if ((slD P t).bind (szD P)) = some n then match B4 lo 0, B4 hi es.length with
   | some l, some h => if 0 <= l /\ l <= h /\ h <= es.length then some (.sl n ((es.drop l.toNat).take (h.toNat - l.toNat)) 0) else none
   | _, _ => none
  else none := by
 simp only [GE]; cases slD P t <;> rfl
theorem LP (n id off l0 : Nat) (lo hi : Option D) : GE P t (.msl n id off l0) lo hi = if ((slD P t).bind (szD P)) = some n then match B4 lo 0, B4 hi l0 with
   | some l, some h => if 0 <= l /\ l <= h /\ h <= l0 /\ (l = 0 \/ l < l0) then some (.msl n id (off + l.toNat * n) (h.toNat - l.toNat)) else if 0 <= l /\ l = h /\ h = l0 then some (.sl n [] 0) else none
   | _, _ => none
  else none := by
 simp only [GE]; cases slD P t <;> rfl
end
end Go.Proofs.YtjofelloaofooaaGreatDoor
