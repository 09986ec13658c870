/- The abstract machine's equations, one by one, for simp. No condition. -/
import Derived.Test.YtmnbjcpikllknaaGreatDoorEng12
set_option linter.unusedSimpArgs false
set_option linter.unusedVariables false
namespace Go.Proofs.YtmnbjcpikllknaaGreatDoor
section
variable (P : Program) (h : Heap) (t : TypeId) (k k' : IntKind) (a b : Int) (m : Nat)
theorem Abq : DY P h .add t (.int k a) (.int k b) = some (.int k (k.wrap (a + b))) := by simp [DY, D5]
theorem Aai : DY P h .sub t (.int k a) (.int k b) = some (.int k (k.wrap (a - b))) := by simp [DY, D5]
theorem Ww : DY P h .mul t (.int k a) (.int k b) = some (.int k (k.wrap (a * b))) := by simp [DY, D5]
theorem Acr : DY P h .rem t (.int k a) (.int k b) = if b = 0 then none else some (.int k (a.tmod b)) := by simp [DY, D5]
theorem Aeu : DY P h .or t (.int k a) (.int k b) = some (.int k (k.wrap (BitVec.ofInt k.bits a ||| BitVec.ofInt k.bits b).toNat)) := by simp only [DY, if_true]; rfl
theorem S6 : DY P h .andNot t (.int k a) (.int k b) = some (.int k (k.wrap (BitVec.ofInt k.bits a &&& ~~~(BitVec.ofInt k.bits b)).toNat)) := by simp only [DY, if_true]; rfl
theorem Z7 : DY P h .eql t (.int k a) (.int k b) = some (.bool (a == b)) := by simp [DY, D5]
theorem ZY : DY P h .neq t (.int k a) (.int k b) = some (.bool (a != b)) := by simp [DY, D5]
theorem ZU : DY P h .lss t (.int k a) (.int k b) = some (.bool (decide (a < b))) := by simp [DY, D5]
theorem Abi : DY P h .leq t (.int k a) (.int k b) = some (.bool (decide (a <= b))) := by simp [DY, D5]
theorem Aaf : DY P h .gtr t (.int k a) (.int k b) = some (.bool (decide (b < a))) := by simp [DY, D5]
theorem Aa5 : DY P h .geq t (.int k a) (.int k b) = some (.bool (decide (b <= a))) := by simp [DY, D5]
theorem O3 (op : BinOp) (x y : List By8) : DY P h op t (.str x) (.str y) = GM op x y := by simp [DY]
theorem PR (x y : Bool) : DY P h .neq t (.bool x) (.bool y) = if boD P t = true then some (.bool (!(x == y))) else none := by
 simp [DY, GL, eqD]; try (split <;> simp)
def Agq : D -> Bool
 | .nilp | .ptr _ _ | .iptr _ => true
 | _ => false
def nz : Option Nat -> Bool
 | some n => n != 0
 | none => false
theorem Tt (n : Nat) : nz (some n) = (n != 0) := rfl
theorem TT (n : Nat) (xs ys : List D) : eqD P h (n + 1) t (.agg xs) (.agg ys) = (sfD P t).bind fun fs => Cx (eqD P h n) P xs ys fs := by
 show (match sfD P t with | some fs => Cx (eqD P h n) P xs ys fs | none => none) = _;cases sfD P t <;> rfl
theorem Rq (xs ys : List D) : DY P h .eql t (.agg xs) (.agg ys) = if P.eqGuardType P.depth t = false then ((sfD P t).bind fun fs => Cx (eqD P h 9999) P xs ys fs).map .bool else none := by
 rw [<- TT P h t 9999];show (if (!P.eqGuardType P.depth t) = true then (eqD P h 10000 t (.agg xs) (.agg ys)).map D.bool else none) = _;cases P.eqGuardType P.depth t <;> rfl
theorem Sl (xs ys : List D) : DY P h .neq t (.agg xs) (.agg ys) = if P.eqGuardType P.depth t = false then ((sfD P t).bind fun fs => Cx (eqD P h 9999) P xs ys fs).map fun b => .bool (!b) else none := by
 rw [<- TT P h t 9999];show (if (!P.eqGuardType P.depth t) = true then (eqD P h 10000 t (.agg xs) (.agg ys)).map (fun b => D.bool (!b)) else none) = _;cases P.eqGuardType P.depth t <;> rfl
theorem EG (f : TypeId -> D -> D -> Option Bool) (xs ys : List D) : Cx f P xs ys [] = some true := rfl
theorem D7 (f : TypeId -> D -> D -> Option Bool) (xs ys : List D) (o : Nat) (ft : TypeId) (r : List (Nat × TypeId)) :
  Cx f P xs ys ((o, ft) :: r) = (Ep P ft (xs.drop o)).bind fun a => (Ep P ft (ys.drop o)).bind fun b => (f ft a b).bind fun c => (Cx f P xs ys r).map fun e => c && e := by
 simp only [Cx];cases Ep P ft (xs.drop o) <;> cases Ep P ft (ys.drop o) <;> rfl
theorem Fw : eqD P h 9999 t (.int k a) (.int k b) = if (kiD P t).isSome = true then some (a == b) else none := by simp [eqD]
theorem FM (x y : List By8) : eqD P h 9999 t (.str x) (.str y) = if stD P t = true then some (x == y) else none := by simp [eqD]
theorem EC (x y : Bool) : eqD P h 9999 t (.bool x) (.bool y) = if boD P t = true then some (x == y) else none := by simp [eqD]
theorem FB (xs ys : List D) : eqD P h 9999 t (.agg xs) (.agg ys) = (sfD P t).bind fun fs => Cx (eqD P h 9998) P xs ys fs := TT P h t 9998 xs ys
theorem EF : eqD P h 9998 t (.int k a) (.int k b) = if (kiD P t).isSome = true then some (a == b) else none := by simp [eqD]
theorem Ey (x y : List By8) : eqD P h 9998 t (.str x) (.str y) = if stD P t = true then some (x == y) else none := by simp [eqD]
theorem Ea (x y : Bool) : eqD P h 9998 t (.bool x) (.bool y) = if boD P t = true then some (x == y) else none := by simp [eqD]
theorem YD (x y : List By8) : GM .add x y = if x.length + y.length <= 9223372036854775807 then some (.str (x ++ y)) else none := rfl
theorem XC (x y : List By8) : GM .eql x y = some (.bool (x == y)) := rfl
theorem X3 (x y : List By8) : GM .neq x y = some (.bool (!(x == y))) := rfl
theorem YA (x y : List By8) : GM .lss x y = some (.bool (Op.bytesLess x y)) := rfl
theorem XX (x y : List By8) : GM .gtr x y = some (.bool (!(Op.bytesLess x y || x == y))) := rfl
theorem Aap (x : Bool) : unD .not (.bool x) = some (.bool (!x)) := rfl
theorem SU (f : FloatKind) (x : Nat) : unD .neg (.float f x) = some (.float f (Op.negFloat f x)) := rfl
theorem Acj (ts : List TypeId) (x y : Int) (R : D -> Heap -> Prop) : En P m .min ts [.int k x, .int k' y] h R = R (.int k (if y < x then y else x)) h := by simp [En, LN, Zq, OptP]
theorem Aa4 (ts : List TypeId) (x y : Int) (R : D -> Heap -> Prop) : En P m .max ts [.int k x, .int k' y] h R = R (.int k (if y > x then y else x)) h := by simp [En, LN, Zq, OptP]
theorem Si : RF P h t .snil = if (slD P t).isSome = true then some (.int .i64 0) else none := rfl
theorem SI (n : Nat) (es : List (List D)) (r : Nat) : RF P h t (.sl n es r) = if (slD P t).isSome = true then some (.int .i64 es.length) else none := rfl
theorem Aca (id : Nat) : RF P h t (.mp id) = match P.underlying t, h id with | some (.map _ _), some (.map es _) => some (.int .i64 es.length) | _, _ => none := rfl
theorem Vx (n : Nat) (es : List (List D)) (h h' : Heap) (R : D -> Heap -> Prop) : Hi 0 n es h h' R = R (.sl n es 0) h' := rfl
theorem QT (n : Nat) (es : List (List D)) (h h' : Heap) (R : D -> Heap -> Prop) : Hi 2 n es h h' R = ∀ r, h r = none -> r ≠ 0 -> R (.sl n es r) (h'.upd r (some .room)) := rfl
theorem XJ (h : Heap) (cs : List D) (R : D -> Heap -> Prop) : US 0 h cs R = R (.iptr cs) h := rfl
theorem Ub (h : Heap) (cs : List D) (R : D -> Heap -> Prop) : US 1 h cs R = ∀ i, h i = none -> i ≠ 0 -> R (.ptr i 0) (h.upd i (some (.cells cs))) := rfl
theorem H1 (cs : List D) : Ep P t cs = match agD P t, szD P t with
 | some true, some n => if n <= cs.length then some (.agg (cs.take n)) else none
 | some false, some _ => match cs with | d :: _ => some d | [] => none
 | _, _ => none := rfl
theorem IS (id off : Nat) : L7 P h t (.ptr id off) = match h id with | some (.cells cs) => Ep P t (cs.drop off) | some (.bytes cs) => Ep P t (cs.drop off) | _ => none := by
 simp only [L7, Ke]
 cases h id with
 | none => rfl
 | some x => cases x <;> rfl
theorem QQ (i : Int) (n : Nat) (es : List (List D)) (r : Nat) : Dv P t (.sl n es r) (.int k i) = if ((slD P t).bind (szD P)) = some n /\ 0 <= i /\ i < es.length then some (.iptr (es.getD i.toNat [])) else none := by
 simp only [Dv]; cases slD P t <;> simp
theorem Aan (i : Int) (id off : Nat) : Dv P t (.ptr id off) (.int k i) = match arD P t with | some (n, e) => (match szD P e with | some q => if 0 <= i /\ i < n then some (.ptr id (off + i.toNat * q)) else none | none => none) | none => none := rfl
theorem UJ (i : Int) (s : List By8) : Pg P t (.str s) (.int k i) = if stD P t = true /\ 0 <= i /\ i < s.length then some (JH (s.getD i.toNat 0)) else none := rfl
theorem Yw (f : Nat) (cs : List D) : EH P t f (.iptr cs) = match fdD P t f with | some (o, ft) => if nz (szD P ft) = true then (if o <= cs.length then some (.iptr (cs.drop o)) else none) else none | none => none := by
 simp only [EH]
 cases fdD P t f with
 | none => rfl
 | some x =>
  obtain ⟨o, ft⟩ := x
  cases hs : szD P ft with
  | none => simp [nz, hs]
  | some n => cases n <;> simp [nz, hs, R6]
theorem Yf (f id off : Nat) : EH P t f (.ptr id off) = match fdD P t f with | some (o, ft) => if nz (szD P ft) = true then some (.ptr id (off + o)) else none | none => none := by
 simp only [EH]
 cases fdD P t f with
 | none => rfl
 | some x =>
  obtain ⟨o, ft⟩ := x
  cases hs : szD P ft with
  | none => simp [nz, hs]
  | some n => cases n <;> simp [nz, hs, R6]
theorem OM (s : TypeId) : JT P h s t (.int k a) = match kiD P t with
  | some k' => if (P.underlying s).isSome = true then some (.int k' (k'.wrap a)) else none
  | none => match faD P t with
   | some f => if (P.underlying s).isSome = true then some (.float f (f.nearest a)) else none
   | none => if stD P t = true /\ (P.underlying s).isSome = true then some (.str (Utf8.encode a).data.toList) else none := rfl
theorem PD (s : TypeId) (x : List By8) : JT P h s t (.str x) = if stD P t = true /\ stD P s = true then some (.str x) else none := rfl
theorem Pf (s : List By8) (lo hi : Option D) : H0 P t (.str s) lo hi = if stD P t = true then match Cp lo 0, Cp hi s.length with
   | some l, some h => if 0 <= l /\ l <= h /\ h <= s.length then some (.str ((s.drop l.toNat).take (h.toNat - l.toNat))) else none
   | _, _ => none
  else none := rfl
theorem Qg (n : Nat) (es : List (List D)) (r : Nat) (lo hi : Option D) : H0 P t (.sl n es r) lo hi = if ((slD P t).bind (szD P)) = some n then match Cp lo 0, Cp hi es.length with
   | some l, some h => if 0 <= l /\ l <= h /\ h <= es.length then some (.sl n ((es.drop l.toNat).take (h.toNat - l.toNat)) 0) else none
   | _, _ => none
  else none := by
 simp only [H0]; cases slD P t <;> rfl
theorem Kt (n id off l0 : Nat) (lo hi : Option D) : H0 P t (.msl n id off l0) lo hi = if ((slD P t).bind (szD P)) = some n then match Cp lo 0, Cp hi l0 with
   | some l, some h => if 0 <= l /\ l <= h /\ h <= l0 /\ (l = 0 \/ l < l0) then some (.msl n id (off + l.toNat * n) (h.toNat - l.toNat)) else if 0 <= l /\ l = h /\ h = l0 then some (.sl n [] 0) else none
   | _, _ => none
  else none := by
 simp only [H0]; cases slD P t <;> rfl
end
end Go.Proofs.YtmnbjcpikllknaaGreatDoor
