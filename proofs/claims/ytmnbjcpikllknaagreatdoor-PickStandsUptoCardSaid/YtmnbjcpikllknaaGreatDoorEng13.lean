/- The abstract machine's equations, one by one, for simp. No condition. -/
import Derived.Test.YtmnbjcpikllknaaGreatDoorEng12
set_option linter.unusedSimpArgs false
set_option linter.unusedVariables false
namespace Go.Proofs.YtmnbjcpikllknaaGreatDoor
section
variable (P : Program) (h : Heap) (t : TypeId) (k k' : IntKind) (a b : Int) (m : Nat)
theorem WA : D0 P h .add t (.int k a) (.int k b) = some (.int k (k.wrap (a + b))) := by simp [D0, DO]
theorem Wz : D0 P h .sub t (.int k a) (.int k b) = some (.int k (k.wrap (a - b))) := by simp [D0, DO]
theorem Vl : D0 P h .mul t (.int k a) (.int k b) = some (.int k (k.wrap (a * b))) := by simp [D0, DO]
theorem Vz : D0 P h .rem t (.int k a) (.int k b) = if b = 0 then none else some (.int k (a.tmod b)) := by simp [D0, DO]
theorem X4 : D0 P h .or t (.int k a) (.int k b) = some (.int k (k.wrap (BitVec.ofInt k.bits a ||| BitVec.ofInt k.bits b).toNat)) := by simp only [D0, if_true]; rfl
theorem RE : D0 P h .andNot t (.int k a) (.int k b) = some (.int k (k.wrap (BitVec.ofInt k.bits a &&& ~~~(BitVec.ofInt k.bits b)).toNat)) := by simp only [D0, if_true]; rfl
theorem W5 : D0 P h .eql t (.int k a) (.int k b) = some (.bool (a == b)) := by simp [D0, DO]
theorem WU : D0 P h .neq t (.int k a) (.int k b) = some (.bool (a != b)) := by simp [D0, DO]
theorem Wf : D0 P h .lss t (.int k a) (.int k b) = some (.bool (decide (a < b))) := by simp [D0, DO]
theorem Ve : D0 P h .leq t (.int k a) (.int k b) = some (.bool (decide (a <= b))) := by simp [D0, DO]
theorem VK : D0 P h .gtr t (.int k a) (.int k b) = some (.bool (decide (b < a))) := by simp [D0, DO]
theorem WN : D0 P h .geq t (.int k a) (.int k b) = some (.bool (decide (b <= a))) := by simp [D0, DO]
theorem MW (op : BinOp) (x y : List UInt8) : D0 P h op t (.str x) (.str y) = Gc op x y := by simp [D0]
def YQ : D -> Bool
 | .nilp | .ptr _ _ | .iptr _ => true
 | _ => false
def nz : Option Nat -> Bool
 | some n => n != 0
 | none => false
theorem Q9 (n : Nat) : nz (some n) = (n != 0) := rfl
theorem Qz (n : Nat) (xs ys : List D) : eqD P h (n + 1) t (.agg xs) (.agg ys) = (sfD P t).bind fun fs => Ch (eqD P h n) P xs ys fs := by
 show (match sfD P t with | some fs => Ch (eqD P h n) P xs ys fs | none => none) = _;cases sfD P t <;> rfl
theorem P0 (xs ys : List D) : D0 P h .eql t (.agg xs) (.agg ys) = if P.eqGuardType P.depth t = false then ((sfD P t).bind fun fs => Ch (eqD P h 9999) P xs ys fs).map .bool else none := by
 rw [<- Qz P h t 9999];show (if (!P.eqGuardType P.depth t) = true then (eqD P h 10000 t (.agg xs) (.agg ys)).map D.bool else none) = _;cases P.eqGuardType P.depth t <;> rfl
theorem Qe (xs ys : List D) : D0 P h .neq t (.agg xs) (.agg ys) = if P.eqGuardType P.depth t = false then ((sfD P t).bind fun fs => Ch (eqD P h 9999) P xs ys fs).map fun b => .bool (!b) else none := by
 rw [<- Qz P h t 9999];show (if (!P.eqGuardType P.depth t) = true then (eqD P h 10000 t (.agg xs) (.agg ys)).map (fun b => D.bool (!b)) else none) = _;cases P.eqGuardType P.depth t <;> rfl
theorem Ei (f : TypeId -> D -> D -> Option Bool) (xs ys : List D) : Ch f P xs ys [] = some true := rfl
theorem DT (f : TypeId -> D -> D -> Option Bool) (xs ys : List D) (o : Nat) (ft : TypeId) (r : List (Nat × TypeId)) :
  Ch f P xs ys ((o, ft) :: r) = (Eb P ft (xs.drop o)).bind fun a => (Eb P ft (ys.drop o)).bind fun b => (f ft a b).bind fun c => (Ch f P xs ys r).map fun e => c && e := by
 simp only [Ch];cases Eb P ft (xs.drop o) <;> cases Eb P ft (ys.drop o) <;> rfl
theorem E7 : eqD P h 9999 t (.int k a) (.int k b) = if (kiD P t).isSome = true then some (a == b) else none := by simp [eqD]
theorem Fa (x y : List UInt8) : eqD P h 9999 t (.str x) (.str y) = if stD P t = true then some (x == y) else none := by simp [eqD]
theorem Er (x y : Bool) : eqD P h 9999 t (.bool x) (.bool y) = if boD P t = true then some (x == y) else none := by simp [eqD]
theorem E8 (xs ys : List D) : eqD P h 9999 t (.agg xs) (.agg ys) = (sfD P t).bind fun fs => Ch (eqD P h 9998) P xs ys fs := Qz P h t 9998 xs ys
theorem En : eqD P h 9998 t (.int k a) (.int k b) = if (kiD P t).isSome = true then some (a == b) else none := by simp [eqD]
theorem Es (x y : List UInt8) : eqD P h 9998 t (.str x) (.str y) = if stD P t = true then some (x == y) else none := by simp [eqD]
theorem DQ (x y : Bool) : eqD P h 9998 t (.bool x) (.bool y) = if boD P t = true then some (x == y) else none := by simp [eqD]
theorem TU (x y : List UInt8) : Gc .add x y = if x.length + y.length <= 9223372036854775807 then some (.str (x ++ y)) else none := rfl
theorem UE (x y : List UInt8) : Gc .eql x y = some (.bool (x == y)) := rfl
theorem TW (x y : List UInt8) : Gc .neq x y = some (.bool (!(x == y))) := rfl
theorem T3 (x y : List UInt8) : Gc .lss x y = some (.bool (Op.bytesLess x y)) := rfl
theorem Uw (x y : List UInt8) : Gc .gtr x y = some (.bool (!(Op.bytesLess x y || x == y))) := rfl
theorem VM (x : Bool) : unD .not (.bool x) = some (.bool (!x)) := rfl
theorem Q1 (f : FloatKind) (x : Nat) : unD .neg (.float f x) = some (.float f (Op.negFloat f x)) := rfl
theorem VJ (ts : List TypeId) (x y : Int) (R : D -> Heap -> Prop) : D4 P m .min ts [.int k x, .int k' y] h R = R (.int k (if y < x then y else x)) h := by simp [D4, Kb, U7, OptP]
theorem Vn (ts : List TypeId) (x y : Int) (R : D -> Heap -> Prop) : D4 P m .max ts [.int k x, .int k' y] h R = R (.int k (if y > x then y else x)) h := by simp [D4, Kb, U7, OptP]
theorem P8 : PL P h t .snil = if (slD P t).isSome = true then some (.int .i64 0) else none := rfl
theorem RO (n : Nat) (es : List (List D)) (r : Nat) : PL P h t (.sl n es r) = if (slD P t).isSome = true then some (.int .i64 es.length) else none := rfl
theorem Vu (id : Nat) : PL P h t (.mp id) = match P.underlying t, h id with | some (.map _ _), some (.map es _) => some (.int .i64 es.length) | _, _ => none := rfl
theorem Sw (n : Nat) (es : List (List D)) (h h' : Heap) (R : D -> Heap -> Prop) : Gu 0 n es h h' R = R (.sl n es 0) h' := rfl
theorem Pu (n : Nat) (es : List (List D)) (h h' : Heap) (R : D -> Heap -> Prop) : Gu 2 n es h h' R = ∀ r, h r = none -> r ≠ 0 -> R (.sl n es r) (h'.upd r (some .room)) := rfl
theorem UI (h : Heap) (cs : List D) (R : D -> Heap -> Prop) : Qw 0 h cs R = R (.iptr cs) h := rfl
theorem RK (h : Heap) (cs : List D) (R : D -> Heap -> Prop) : Qw 1 h cs R = ∀ i, h i = none -> i ≠ 0 -> R (.ptr i 0) (h.upd i (some (.cells cs))) := rfl
theorem Hn (cs : List D) : Eb P t cs = match agD P t, szD P t with
 | some true, some n => if n <= cs.length then some (.agg (cs.take n)) else none
 | some false, some _ => match cs with | d :: _ => some d | [] => none
 | _, _ => none := rfl
theorem Ib (id off : Nat) : Ku P h t (.ptr id off) = match h id with | some (.cells cs) => Eb P t (cs.drop off) | some (.bytes cs) => Eb P t (cs.drop off) | _ => none := by
 simp only [Ku, I4]
 cases h id with
 | none => rfl
 | some x => cases x <;> rfl
theorem Pw (i : Int) (n : Nat) (es : List (List D)) (r : Nat) : Dc P t (.sl n es r) (.int k i) = if ((slD P t).bind (szD P)) = some n /\ 0 <= i /\ i < es.length then some (.iptr (es.getD i.toNat [])) else none := by
 simp only [Dc]; cases slD P t <;> simp
theorem Vm (i : Int) (id off : Nat) : Dc P t (.ptr id off) (.int k i) = match arD P t with | some (n, e) => (match szD P e with | some q => if 0 <= i /\ i < n then some (.ptr id (off + i.toNat * q)) else none | none => none) | none => none := rfl
theorem R1 (i : Int) (s : List UInt8) : MU P t (.str s) (.int k i) = if stD P t = true /\ 0 <= i /\ i < s.length then some (Ix (s.getD i.toNat 0)) else none := rfl
theorem U4 (f : Nat) (cs : List D) : Ej P t f (.iptr cs) = match fdD P t f with | some (o, ft) => if nz (szD P ft) = true then (if o <= cs.length then some (.iptr (cs.drop o)) else none) else none | none => none := by
 simp only [Ej]
 cases fdD P t f with
 | none => rfl
 | some x =>
  obtain ⟨o, ft⟩ := x
  cases hs : szD P ft with
  | none => simp [nz, hs]
  | some n => cases n <;> simp [nz, hs, PQ]
theorem Ub (f id off : Nat) : Ej P t f (.ptr id off) = match fdD P t f with | some (o, ft) => if nz (szD P ft) = true then some (.ptr id (off + o)) else none | none => none := by
 simp only [Ej]
 cases fdD P t f with
 | none => rfl
 | some x =>
  obtain ⟨o, ft⟩ := x
  cases hs : szD P ft with
  | none => simp [nz, hs]
  | some n => cases n <;> simp [nz, hs, PQ]
theorem MM (s : TypeId) : I6 P h s t (.int k a) = match kiD P t with
  | some k' => if (P.underlying s).isSome = true then some (.int k' (k'.wrap a)) else none
  | none => match faD P t with
   | some f => if (P.underlying s).isSome = true then some (.float f (f.nearest a)) else none
   | none => if stD P t = true /\ (P.underlying s).isSome = true then some (.str (Utf8.encode a).data.toList) else none := rfl
theorem Ox (s : TypeId) (x : List UInt8) : I6 P h s t (.str x) = if stD P t = true /\ stD P s = true then some (.str x) else none := rfl
theorem NM (s : List UInt8) (lo hi : Option D) : G2 P t (.str s) lo hi = if stD P t = true then match B8 lo 0, B8 hi s.length with
   | some l, some h => if 0 <= l /\ l <= h /\ h <= s.length then some (.str ((s.drop l.toNat).take (h.toNat - l.toNat))) else none
   | _, _ => none
  else none := rfl
theorem OB (n : Nat) (es : List (List D)) (r : Nat) (lo hi : Option D) : G2 P t (.sl n es r) lo hi = if ((slD P t).bind (szD P)) = some n then match B8 lo 0, B8 hi es.length with
   | some l, some h => if 0 <= l /\ l <= h /\ h <= es.length then some (.sl n ((es.drop l.toNat).take (h.toNat - l.toNat)) 0) else none
   | _, _ => none
  else none := by
 simp only [G2]; cases slD P t <;> rfl
theorem Jj (n id off l0 : Nat) (lo hi : Option D) : G2 P t (.msl n id off l0) lo hi = if ((slD P t).bind (szD P)) = some n then match B8 lo 0, B8 hi l0 with
   | some l, some h => if 0 <= l /\ l <= h /\ h <= l0 /\ (l = 0 \/ l < l0) then some (.msl n id (off + l.toNat * n) (h.toNat - l.toNat)) else if 0 <= l /\ l = h /\ h = l0 then some (.sl n [] 0) else none
   | _, _ => none
  else none := by
 simp only [G2]; cases slD P t <;> rfl
end
end Go.Proofs.YtmnbjcpikllknaaGreatDoor
