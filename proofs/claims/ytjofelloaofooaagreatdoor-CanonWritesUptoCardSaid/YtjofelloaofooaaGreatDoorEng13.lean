/- The abstract machine's equations, one by one, for simp. No condition. -/
import Derived.Test.YtjofelloaofooaaGreatDoorEng12
set_option linter.unusedSimpArgs false
set_option linter.unusedVariables false
namespace Go.Proofs.YtjofelloaofooaaGreatDoor
section
variable (P : Program) (h : Heap) (t : TypeId) (k k' : IntKind) (a b : Int) (m : Nat)
theorem U4 : EU P h .add t (.int k a) (.int k b) = some (.int k (k.wrap (a + b))) := by simp [EU, Ea]
theorem X5 : EU P h .sub t (.int k a) (.int k b) = some (.int k (k.wrap (a - b))) := by simp [EU, Ea]
theorem YE : EU P h .mul t (.int k a) (.int k b) = some (.int k (k.wrap (a * b))) := by simp [EU, Ea]
theorem XO : EU P h .quo t (.int k a) (.int k b) = if b = 0 then none else some (.int k (k.wrap (a.tdiv b))) := by simp [EU, Ea]
theorem Yn : EU P h .rem t (.int k a) (.int k b) = if b = 0 then none else some (.int k (a.tmod b)) := by simp [EU, Ea]
theorem Ab1 : EU P h .or t (.int k a) (.int k b) = some (.int k (k.wrap (BitVec.ofInt k.bits a ||| BitVec.ofInt k.bits b).toNat)) := by simp only [EU, if_true]; rfl
theorem NA : EU P h .eql t (.int k a) (.int k b) = some (.bool (a == b)) := by simp [EU, Ea]
theorem Uy : EU P h .neq t (.int k a) (.int k b) = some (.bool (a != b)) := by simp [EU, Ea]
theorem Vd : EU P h .lss t (.int k a) (.int k b) = some (.bool (decide (a < b))) := by simp [EU, Ea]
theorem Yt : EU P h .leq t (.int k a) (.int k b) = some (.bool (decide (a <= b))) := by simp [EU, Ea]
theorem Vb : EU P h .gtr t (.int k a) (.int k b) = some (.bool (decide (b < a))) := by simp [EU, Ea]
theorem X9 : EU P h .geq t (.int k a) (.int k b) = some (.bool (decide (b <= a))) := by simp [EU, Ea]
theorem Za : EU P h .shr t (.int k a) (.int k' b) = if b < 0 then none else some (.int k (a.fdiv (2 ^ (min b.toNat k.bits)))) := by simp [EU]
theorem MX (op : BinOp) (x y : List By8) : EU P h op t (.str x) (.str y) = Gh op x y := by simp [EU]
def Ad9 : D -> Bool
 | .nilp | .ptr _ _ | .iptr _ => true
 | _ => false
def nz : Option Nat -> Bool
 | some n => n != 0
 | none => false
theorem Q4 (n : Nat) : nz (some n) = (n != 0) := rfl
theorem Sz (n : Nat) (xs ys : List D) : eqD P h (n + 1) t (.agg xs) (.agg ys) = (sfD P t).bind fun fs => C6 (eqD P h n) P xs ys fs := by
 show (match sfD P t with | some fs => C6 (eqD P h n) P xs ys fs | none => none) = _;cases sfD P t <;> rfl
theorem Qb (xs ys : List D) : EU P h .eql t (.agg xs) (.agg ys) = if P.eqGuardType P.depth t = false then ((sfD P t).bind fun fs => C6 (eqD P h 9999) P xs ys fs).map .bool else none := by
 rw [<- Sz P h t 9999];show (if (!P.eqGuardType P.depth t) = true then (eqD P h 10000 t (.agg xs) (.agg ys)).map D.bool else none) = _;cases P.eqGuardType P.depth t <;> rfl
theorem Qe (xs ys : List D) : EU P h .neq t (.agg xs) (.agg ys) = if P.eqGuardType P.depth t = false then ((sfD P t).bind fun fs => C6 (eqD P h 9999) P xs ys fs).map fun b => .bool (!b) else none := by
 rw [<- Sz P h t 9999];show (if (!P.eqGuardType P.depth t) = true then (eqD P h 10000 t (.agg xs) (.agg ys)).map (fun b => D.bool (!b)) else none) = _;cases P.eqGuardType P.depth t <;> rfl
theorem FD (f : TypeId -> D -> D -> Option Bool) (xs ys : List D) : C6 f P xs ys [] = some true := rfl
theorem Fb (f : TypeId -> D -> D -> Option Bool) (xs ys : List D) (o : Nat) (ft : TypeId) (r : List (Nat × TypeId)) :
  C6 f P xs ys ((o, ft) :: r) = (Ey P ft (xs.drop o)).bind fun a => (Ey P ft (ys.drop o)).bind fun b => (f ft a b).bind fun c => (C6 f P xs ys r).map fun e => c && e := by
 simp only [C6];cases Ey P ft (xs.drop o) <;> cases Ey P ft (ys.drop o) <;> rfl
theorem Gx : eqD P h 9999 t (.int k a) (.int k b) = if (kiD P t).isSome = true then some (a == b) else none := by simp [eqD]
theorem Gr (x y : List By8) : eqD P h 9999 t (.str x) (.str y) = if stD P t = true then some (x == y) else none := by simp [eqD]
theorem FG (x y : Bool) : eqD P h 9999 t (.bool x) (.bool y) = if boD P t = true then some (x == y) else none := by simp [eqD]
theorem Gv (xs ys : List D) : eqD P h 9999 t (.agg xs) (.agg ys) = (sfD P t).bind fun fs => C6 (eqD P h 9998) P xs ys fs := Sz P h t 9998 xs ys
theorem FF : eqD P h 9998 t (.int k a) (.int k b) = if (kiD P t).isSome = true then some (a == b) else none := by simp [eqD]
theorem FE (x y : List By8) : eqD P h 9998 t (.str x) (.str y) = if stD P t = true then some (x == y) else none := by simp [eqD]
theorem Fd (x y : Bool) : eqD P h 9998 t (.bool x) (.bool y) = if boD P t = true then some (x == y) else none := by simp [eqD]
theorem Wg (x y : List By8) : Gh .add x y = if x.length + y.length <= 9223372036854775807 then some (.str (x ++ y)) else none := rfl
theorem VA (x y : List By8) : Gh .eql x y = some (.bool (x == y)) := rfl
theorem WM (x y : List By8) : Gh .neq x y = some (.bool (!(x == y))) := rfl
theorem VU (x y : List By8) : Gh .lss x y = some (.bool (Op.bytesLess x y)) := rfl
theorem Wu (x y : List By8) : Gh .gtr x y = some (.bool (!(Op.bytesLess x y || x == y))) := rfl
theorem Yr (x : Bool) : unD .not (.bool x) = some (.bool (!x)) := rfl
theorem Ym (ts : List TypeId) (x y : Int) (R : D -> Heap -> Prop) : FQ P m .min ts [.int k x, .int k' y] h R = R (.int k (if y < x then y else x)) h := by simp [FQ, Oz, XH, OptP]
theorem Qd : PP P h t .snil = if (slD P t).isSome = true then some (.int .i64 0) else none := rfl
theorem RL (n : Nat) (es : List (List D)) (r : Nat) : PP P h t (.sl n es r) = if (slD P t).isSome = true then some (.int .i64 es.length) else none := rfl
theorem XB (id : Nat) : PP P h t (.mp id) = match P.underlying t, h id with | some (.map _ _), some (.map es _) => some (.int .i64 es.length) | _, _ => none := rfl
theorem S6 (n : Nat) (es : List (List D)) (h h' : Heap) (R : D -> Heap -> Prop) : Hb 0 n es h h' R = R (.sl n es 0) h' := rfl
theorem Pz (n : Nat) (es : List (List D)) (h h' : Heap) (R : D -> Heap -> Prop) : Hb 2 n es h h' R = ∀ r, h r = none -> r ≠ 0 -> R (.sl n es r) (h'.upd r (some .room)) := rfl
theorem Wh (t : TypeId) (h : Heap) (cs : List D) (R : D -> Heap -> Prop) : Qv 0 t h cs R = R (.iptr cs) h := rfl
theorem Vw (t : TypeId) (h : Heap) (cs : List D) (R : D -> Heap -> Prop) : Qv 7 t h cs R = ∀ i, h i = none -> i ≠ 0 -> R (.ptr i 0) (h.upd i (some (.box (V1 t cs)))) := rfl
theorem Rj (t : TypeId) (h : Heap) (cs : List D) (R : D -> Heap -> Prop) : Qv 1 t h cs R = ∀ i, h i = none -> i ≠ 0 -> R (.ptr i 0) (h.upd i (some (.cells cs))) := rfl
theorem JD (cs : List D) : Ey P t cs = match agD P t, szD P t with
 | some true, some n => if n <= cs.length then some (.agg (cs.take n)) else none
 | some false, some _ => match cs with | d :: _ => some d | [] => none
 | _, _ => none := rfl
theorem GN (id off : Nat) : Kw P h t (.ptr id off) = match h id with | some (.cells cs) => Ey P t (cs.drop off) | some (.bytes cs) => Ey P t (cs.drop off) | some (.box p) => ((p.cell off).map fun d => [d]).bind (Ey P t) | _ => none := by
 simp only [Kw, Jy]
 cases h id with
 | none => rfl
 | some x => cases x <;> rfl
theorem O7 (i : Int) (n : Nat) (es : List (List D)) (r : Nat) : DQ P t (.sl n es r) (.int k i) = if ((slD P t).bind (szD P)) = some n /\ 0 <= i /\ i < es.length then some (.iptr (es.getD i.toNat [])) else none := by
 simp only [DQ]; cases slD P t <;> simp
theorem NG (i : Int) (id off : Nat) : DQ P t (.ptr id off) (.int k i) = match arD P t with | some (n, e) => (match szD P e with | some q => if 0 <= i /\ i < n then some (.ptr id (off + i.toNat * q)) else none | none => none) | none => none := rfl
theorem Qj (i : Int) (cs : List D) : DQ P t (.iptr cs) (.int k i) = match arD P t with | some (n, e) => (match szD P e with | some q => if 0 <= i /\ i < n then (if i.toNat * q <= cs.length then some (.iptr (cs.drop (i.toNat * q))) else none) else none | none => none) | none => none := rfl
theorem RW (i : Int) (s : List By8) : KE P t (.str s) (.int k i) = if stD P t = true /\ 0 <= i /\ i < s.length then some (Gf (s.getD i.toNat 0)) else none := rfl
theorem V0 (f : Nat) (cs : List D) : EJ P t f (.iptr cs) = match fdD P t f with | some (o, ft) => if nz (szD P ft) = true then (if o <= cs.length then some (.iptr (cs.drop o)) else none) else none | none => none := by
 simp only [EJ]
 cases fdD P t f with
 | none => rfl
 | some x =>
  obtain ⟨o, ft⟩ := x
  cases hs : szD P ft with
  | none => simp [nz, hs]
  | some n => cases n <;> simp [nz, hs, Qp]
theorem VY (f id off : Nat) : EJ P t f (.ptr id off) = match fdD P t f with | some (o, ft) => if nz (szD P ft) = true then some (.ptr id (off + o)) else none | none => none := by
 simp only [EJ]
 cases fdD P t f with
 | none => rfl
 | some x =>
  obtain ⟨o, ft⟩ := x
  cases hs : szD P ft with
  | none => simp [nz, hs]
  | some n => cases n <;> simp [nz, hs, Qp]
theorem R8 (s : TypeId) : Id P h s t (.int k a) = match kiD P t with
  | some k' => if (P.underlying s).isSome = true then some (.int k' (k'.wrap a)) else none
  | none => match faD P t with
   | some f => if (P.underlying s).isSome = true then some (.float f (f.nearest a)) else none
   | none => if stD P t = true /\ (P.underlying s).isSome = true then some (.str (Utf8.encode a).data.toList) else none := rfl
theorem OL (s : TypeId) (x : List By8) : Id P h s t (.str x) = if stD P t = true /\ stD P s = true then some (.str x) else none := rfl
theorem OC (s : TypeId) : Id P h s t .snil = match slD P s with
  | some e => if kiD P e = some .u8 /\ stD P t = true then some (.str []) else none
  | none => none := rfl
theorem PJ (s : TypeId) (n : Nat) (es : List (List D)) (r : Nat) : Id P h s t (.sl n es r) = match slD P s with
  | some e => if kiD P e = some .u8 /\ stD P t = true /\ n = 1 then (Ep es).map .str else none
  | none => none := rfl
theorem Nz (s : List By8) (lo hi : Option D) : HW P t (.str s) lo hi = if stD P t = true then match C0 lo 0, C0 hi s.length with
   | some l, some h => if 0 <= l /\ l <= h /\ h <= s.length then some (.str ((s.drop l.toNat).take (h.toNat - l.toNat))) else none
   | _, _ => none
  else none := rfl
theorem Om (n : Nat) (es : List (List D)) (r : Nat) (lo hi : Option D) : HW P t (.sl n es r) lo hi = if ((slD P t).bind (szD P)) = some n then match C0 lo 0, C0 hi es.length with
   | some l, some h => if 0 <= l /\ l <= h /\ h <= es.length then some (.sl n ((es.drop l.toNat).take (h.toNat - l.toNat)) 0) else none
   | _, _ => none
  else none := by
 simp only [HW]; cases slD P t <;> rfl
theorem Nd (n id off l0 : Nat) (lo hi : Option D) : HW P t (.msl n id off l0) lo hi = if ((slD P t).bind (szD P)) = some n then match C0 lo 0, C0 hi l0 with
   | some l, some h => if 0 <= l /\ l <= h /\ h <= l0 /\ (l = 0 \/ l < l0) then some (.msl n id (off + l.toNat * n) (h.toNat - l.toNat)) else if 0 <= l /\ l = h /\ h = l0 then some (.sl n [] 0) else none
   | _, _ => none
  else none := by
 simp only [HW]; cases slD P t <;> rfl
end
end Go.Proofs.YtjofelloaofooaaGreatDoor
