/- The abstract machine's equations, one by one, for simp. No condition. -/
import Derived.Test.YtjofelloaofooaaGreatDoorEng12
set_option linter.unusedSimpArgs false
set_option linter.unusedVariables false
namespace Go.Proofs.YtjofelloaofooaaGreatDoor
section
variable (P : Program) (h : Heap) (t : TypeId) (k k' : IntKind) (a b : Int) (m : Nat)
theorem Rl : Ex P h .add t (.int k a) (.int k b) = some (.int k (k.wrap (a + b))) := by simp [Ex, DW]
theorem U2 : Ex P h .sub t (.int k a) (.int k b) = some (.int k (k.wrap (a - b))) := by simp [Ex, DW]
theorem Xg : Ex P h .or t (.int k a) (.int k b) = some (.int k (k.wrap (BitVec.ofInt k.bits a ||| BitVec.ofInt k.bits b).toNat)) := by simp only [Ex, if_true]; rfl
theorem Li : Ex P h .eql t (.int k a) (.int k b) = some (.bool (a == b)) := by simp [Ex, DW]
theorem Rn : Ex P h .neq t (.int k a) (.int k b) = some (.bool (a != b)) := by simp [Ex, DW]
theorem RS : Ex P h .lss t (.int k a) (.int k b) = some (.bool (decide (a < b))) := by simp [Ex, DW]
theorem VS : Ex P h .leq t (.int k a) (.int k b) = some (.bool (decide (a <= b))) := by simp [Ex, DW]
theorem RJ : Ex P h .gtr t (.int k a) (.int k b) = some (.bool (decide (b < a))) := by simp [Ex, DW]
theorem UD : Ex P h .geq t (.int k a) (.int k b) = some (.bool (decide (b <= a))) := by simp [Ex, DW]
theorem VC : Ex P h .shr t (.int k a) (.int k' b) = if b < 0 then none else some (.int k (a.fdiv (2 ^ (min b.toNat k.bits)))) := by simp [Ex]
theorem Lj (op : BinOp) (x y : List By8) : Ex P h op t (.str x) (.str y) = Fj op x y := by simp [Ex]
def ZF : D -> Bool
 | .nilp | .ptr _ _ | .iptr _ => true
 | _ => false
def nz : Option Nat -> Bool
 | some n => n != 0
 | none => false
theorem P1 (n : Nat) : nz (some n) = (n != 0) := rfl
theorem O0 (n : Nat) (xs ys : List D) : eqD P h (n + 1) t (.agg xs) (.agg ys) = (sfD P t).bind fun fs => BT (eqD P h n) P xs ys fs := by
 show (match sfD P t with | some fs => BT (eqD P h n) P xs ys fs | none => none) = _;cases sfD P t <;> rfl
theorem Ng (xs ys : List D) : Ex P h .eql t (.agg xs) (.agg ys) = if P.eqGuardType P.depth t = false then ((sfD P t).bind fun fs => BT (eqD P h 9999) P xs ys fs).map .bool else none := by
 rw [<- O0 P h t 9999];show (if (!P.eqGuardType P.depth t) = true then (eqD P h 10000 t (.agg xs) (.agg ys)).map D.bool else none) = _;cases P.eqGuardType P.depth t <;> rfl
theorem NI (xs ys : List D) : Ex P h .neq t (.agg xs) (.agg ys) = if P.eqGuardType P.depth t = false then ((sfD P t).bind fun fs => BT (eqD P h 9999) P xs ys fs).map fun b => .bool (!b) else none := by
 rw [<- O0 P h t 9999];show (if (!P.eqGuardType P.depth t) = true then (eqD P h 10000 t (.agg xs) (.agg ys)).map (fun b => D.bool (!b)) else none) = _;cases P.eqGuardType P.depth t <;> rfl
theorem Hx (f : TypeId -> D -> D -> Option Bool) (xs ys : List D) : BT f P xs ys [] = some true := rfl
theorem GT (f : TypeId -> D -> D -> Option Bool) (xs ys : List D) (o : Nat) (ft : TypeId) (r : List (Nat × TypeId)) :
  BT f P xs ys ((o, ft) :: r) = (DR P ft (xs.drop o)).bind fun a => (DR P ft (ys.drop o)).bind fun b => (f ft a b).bind fun c => (BT f P xs ys r).map fun e => c && e := by
 simp only [BT];cases DR P ft (xs.drop o) <;> cases DR P ft (ys.drop o) <;> rfl
theorem Iq : eqD P h 9999 t (.int k a) (.int k b) = if (kiD P t).isSome = true then some (a == b) else none := by simp [eqD]
theorem IJ (x y : List By8) : eqD P h 9999 t (.str x) (.str y) = if stD P t = true then some (x == y) else none := by simp [eqD]
theorem HJ (x y : Bool) : eqD P h 9999 t (.bool x) (.bool y) = if boD P t = true then some (x == y) else none := by simp [eqD]
theorem IT (xs ys : List D) : eqD P h 9999 t (.agg xs) (.agg ys) = (sfD P t).bind fun fs => BT (eqD P h 9998) P xs ys fs := O0 P h t 9998 xs ys
theorem HK : eqD P h 9998 t (.int k a) (.int k b) = if (kiD P t).isSome = true then some (a == b) else none := by simp [eqD]
theorem HH (x y : List By8) : eqD P h 9998 t (.str x) (.str y) = if stD P t = true then some (x == y) else none := by simp [eqD]
theorem GU (x y : Bool) : eqD P h 9998 t (.bool x) (.bool y) = if boD P t = true then some (x == y) else none := by simp [eqD]
theorem TN (x y : List By8) : Fj .add x y = if x.length + y.length <= 9223372036854775807 then some (.str (x ++ y)) else none := rfl
theorem Tc (x y : List By8) : Fj .eql x y = some (.bool (x == y)) := rfl
theorem SN (x y : List By8) : Fj .neq x y = some (.bool (!(x == y))) := rfl
theorem Tp (x y : List By8) : Fj .lss x y = some (.bool (Op.bytesLess x y)) := rfl
theorem TL (x y : List By8) : Fj .gtr x y = some (.bool (!(Op.bytesLess x y || x == y))) := rfl
theorem UV (x : Bool) : unD .not (.bool x) = some (.bool (!x)) := rfl
theorem V0 (ts : List TypeId) (x y : Int) (R : D -> Heap -> Prop) : ES P m .min ts [.int k x, .int k' y] h R = R (.int k (if y < x then y else x)) h := by simp [ES, L9, VK, OptP]
theorem Ni : NB P h t .snil = if (slD P t).isSome = true then some (.int .i64 0) else none := rfl
theorem Ou (n : Nat) (es : List (List D)) (r : Nat) : NB P h t (.sl n es r) = if (slD P t).isSome = true then some (.int .i64 es.length) else none := rfl
theorem VY (id : Nat) : NB P h t (.mp id) = match P.underlying t, h id with | some (.map _ _), some (.map es _) => some (.int .i64 es.length) | _, _ => none := rfl
theorem QT (n : Nat) (es : List (List D)) (h h' : Heap) (R : D -> Heap -> Prop) : FM 0 n es h h' R = R (.sl n es 0) h' := rfl
theorem Nd (n : Nat) (es : List (List D)) (h h' : Heap) (R : D -> Heap -> Prop) : FM 2 n es h h' R = ∀ r, h r = none -> r ≠ 0 -> R (.sl n es r) (h'.upd r (some .room)) := rfl
theorem SU (t : TypeId) (h : Heap) (cs : List D) (R : D -> Heap -> Prop) : N8 0 t h cs R = R (.iptr cs) h := rfl
theorem Tz (t : TypeId) (h : Heap) (cs : List D) (R : D -> Heap -> Prop) : N8 7 t h cs R = ∀ i, h i = none -> i ≠ 0 -> R (.ptr i 0) (h.upd i (some (.box (SD t cs)))) := rfl
theorem OY (t : TypeId) (h : Heap) (cs : List D) (R : D -> Heap -> Prop) : N8 1 t h cs R = ∀ i, h i = none -> i ≠ 0 -> R (.ptr i 0) (h.upd i (some (.cells cs))) := rfl
theorem LE (cs : List D) : DR P t cs = match agD P t, szD P t with
 | some true, some n => if n <= cs.length then some (.agg (cs.take n)) else none
 | some false, some _ => match cs with | d :: _ => some d | [] => none
 | _, _ => none := rfl
theorem GW (id off : Nat) : I6 P h t (.ptr id off) = match h id with | some (.cells cs) => DR P t (cs.drop off) | some (.bytes cs) => DR P t (cs.drop off) | some (.box p) => ((p.cell off).map fun d => [d]).bind (DR P t) | _ => none := by
 simp only [I6, Hu]
 cases h id with
 | none => rfl
 | some x => cases x <;> rfl
theorem Mt (i : Int) (n : Nat) (es : List (List D)) (r : Nat) : Dd P t (.sl n es r) (.int k i) = if ((slD P t).bind (szD P)) = some n /\ 0 <= i /\ i < es.length then some (.iptr (es.getD i.toNat [])) else none := by
 simp only [Dd]; cases slD P t <;> simp
theorem Vg (i : Int) (id off : Nat) : Dd P t (.ptr id off) (.int k i) = match arD P t with | some (n, e) => (match szD P e with | some q => if 0 <= i /\ i < n then some (.ptr id (off + i.toNat * q)) else none | none => none) | none => none := rfl
theorem Oc (i : Int) (s : List By8) : Lq P t (.str s) (.int k i) = if stD P t = true /\ 0 <= i /\ i < s.length then some (FT (s.getD i.toNat 0)) else none := rfl
theorem TD (f : Nat) (cs : List D) : D2 P t f (.iptr cs) = match fdD P t f with | some (o, ft) => if nz (szD P ft) = true then (if o <= cs.length then some (.iptr (cs.drop o)) else none) else none | none => none := by
 simp only [D2]
 cases fdD P t f with
 | none => rfl
 | some x =>
  obtain ⟨o, ft⟩ := x
  cases hs : szD P ft with
  | none => simp [nz, hs]
  | some n => cases n <;> simp [nz, hs, Nm]
theorem Sq (f id off : Nat) : D2 P t f (.ptr id off) = match fdD P t f with | some (o, ft) => if nz (szD P ft) = true then some (.ptr id (off + o)) else none | none => none := by
 simp only [D2]
 cases fdD P t f with
 | none => rfl
 | some x =>
  obtain ⟨o, ft⟩ := x
  cases hs : szD P ft with
  | none => simp [nz, hs]
  | some n => cases n <;> simp [nz, hs, Nm]
theorem PO (s : TypeId) : Hl P h s t (.int k a) = match kiD P t with
  | some k' => if (P.underlying s).isSome = true then some (.int k' (k'.wrap a)) else none
  | none => match faD P t with
   | some f => if (P.underlying s).isSome = true then some (.float f (f.nearest a)) else none
   | none => if stD P t = true /\ (P.underlying s).isSome = true then some (.str (Utf8.encode a).data.toList) else none := rfl
theorem LA (s : TypeId) (x : List By8) : Hl P h s t (.str x) = if stD P t = true /\ stD P s = true then some (.str x) else none := rfl
theorem SB (s : TypeId) : Hl P h s t .snil = match slD P s with
  | some e => if kiD P e = some .u8 /\ stD P t = true then some (.str []) else none
  | none => none := rfl
theorem Nx (s : TypeId) (n : Nat) (es : List (List D)) (r : Nat) : Hl P h s t (.sl n es r) = match slD P s with
  | some e => if kiD P e = some .u8 /\ stD P t = true /\ n = 1 then (DG es).map .str else none
  | none => none := rfl
theorem Lt (s : List By8) (lo hi : Option D) : Gj P t (.str s) lo hi = if stD P t = true then match BI lo 0, BI hi s.length with
   | some l, some h => if 0 <= l /\ l <= h /\ h <= s.length then some (.str ((s.drop l.toNat).take (h.toNat - l.toNat))) else none
   | _, _ => none
  else none := rfl
theorem LM (n : Nat) (es : List (List D)) (r : Nat) (lo hi : Option D) : Gj P t (.sl n es r) lo hi = if ((slD P t).bind (szD P)) = some n then match BI lo 0, BI hi es.length with
   | some l, some h => if 0 <= l /\ l <= h /\ h <= es.length then some (.sl n ((es.drop l.toNat).take (h.toNat - l.toNat)) 0) else none
   | _, _ => none
  else none := by
 simp only [Gj]; cases slD P t <;> rfl
theorem K8 (n id off l0 : Nat) (lo hi : Option D) : Gj P t (.msl n id off l0) lo hi = if ((slD P t).bind (szD P)) = some n then match BI lo 0, BI hi l0 with
   | some l, some h => if 0 <= l /\ l <= h /\ h <= l0 /\ (l = 0 \/ l < l0) then some (.msl n id (off + l.toNat * n) (h.toNat - l.toNat)) else if 0 <= l /\ l = h /\ h = l0 then some (.sl n [] 0) else none
   | _, _ => none
  else none := by
 simp only [Gj]; cases slD P t <;> rfl
end
end Go.Proofs.YtjofelloaofooaaGreatDoor
