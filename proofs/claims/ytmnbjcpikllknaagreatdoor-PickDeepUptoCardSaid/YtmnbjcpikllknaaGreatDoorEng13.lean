/- The abstract machine's equations, one by one, for simp. No condition. -/
import Derived.Test.YtmnbjcpikllknaaGreatDoorEng12
set_option linter.unusedSimpArgs false
set_option linter.unusedVariables false
namespace Go.Proofs.YtmnbjcpikllknaaGreatDoor
section
variable (P : Program) (h : Heap) (t : TypeId) (k k' : IntKind) (a b : Int) (m : Nat)
theorem Adu : D7 P h .add t (.int k a) (.int k b) = some (.int k (k.wrap (a + b))) := by simp [D7, DX]
theorem ZW : D7 P h .sub t (.int k a) (.int k b) = some (.int k (k.wrap (a - b))) := by simp [D7, DX]
theorem Adl : D7 P h .mul t (.int k a) (.int k b) = some (.int k (k.wrap (a * b))) := by simp [D7, DX]
theorem Abt : D7 P h .quo t (.int k a) (.int k b) = if b = 0 then none else some (.int k (k.wrap (a.tdiv b))) := by simp [D7, DX]
theorem W2 : D7 P h .rem t (.int k a) (.int k b) = if b = 0 then none else some (.int k (a.tmod b)) := by simp [D7, DX]
theorem Agb : D7 P h .or t (.int k a) (.int k b) = some (.int k (k.wrap (BitVec.ofInt k.bits a ||| BitVec.ofInt k.bits b).toNat)) := by simp only [D7, if_true]; rfl
theorem TS : D7 P h .andNot t (.int k a) (.int k b) = some (.int k (k.wrap (BitVec.ofInt k.bits a &&& ~~~(BitVec.ofInt k.bits b)).toNat)) := by simp only [D7, if_true]; rfl
theorem Aax : D7 P h .eql t (.int k a) (.int k b) = some (.bool (a == b)) := by simp [D7, DX]
theorem Ac3 : D7 P h .neq t (.int k a) (.int k b) = some (.bool (a != b)) := by simp [D7, DX]
theorem Acn : D7 P h .lss t (.int k a) (.int k b) = some (.bool (decide (a < b))) := by simp [D7, DX]
theorem Adk : D7 P h .leq t (.int k a) (.int k b) = some (.bool (decide (a <= b))) := by simp [D7, DX]
theorem Adr : D7 P h .gtr t (.int k a) (.int k b) = some (.bool (decide (b < a))) := by simp [D7, DX]
theorem Aco : D7 P h .geq t (.int k a) (.int k b) = some (.bool (decide (b <= a))) := by simp [D7, DX]
theorem O7 (op : BinOp) (x y : List By8) : D7 P h op t (.str x) (.str y) = GR op x y := by simp [D7]
def Aht : D -> Bool
 | .nilp | .ptr _ _ | .iptr _ => true
 | _ => false
def nz : Option Nat -> Bool
 | some n => n != 0
 | none => false
theorem Tw (n : Nat) : nz (some n) = (n != 0) := rfl
theorem T3 (n : Nat) (xs ys : List D) : eqD P h (n + 1) t (.agg xs) (.agg ys) = (sfD P t).bind fun fs => CH (eqD P h n) P xs ys fs := by
 show (match sfD P t with | some fs => CH (eqD P h n) P xs ys fs | none => none) = _;cases sfD P t <;> rfl
theorem Sh (xs ys : List D) : D7 P h .eql t (.agg xs) (.agg ys) = if P.eqGuardType P.depth t = false then ((sfD P t).bind fun fs => CH (eqD P h 9999) P xs ys fs).map .bool else none := by
 rw [<- T3 P h t 9999];show (if (!P.eqGuardType P.depth t) = true then (eqD P h 10000 t (.agg xs) (.agg ys)).map D.bool else none) = _;cases P.eqGuardType P.depth t <;> rfl
theorem Sy (xs ys : List D) : D7 P h .neq t (.agg xs) (.agg ys) = if P.eqGuardType P.depth t = false then ((sfD P t).bind fun fs => CH (eqD P h 9999) P xs ys fs).map fun b => .bool (!b) else none := by
 rw [<- T3 P h t 9999];show (if (!P.eqGuardType P.depth t) = true then (eqD P h 10000 t (.agg xs) (.agg ys)).map (fun b => D.bool (!b)) else none) = _;cases P.eqGuardType P.depth t <;> rfl
theorem Fy (f : TypeId -> D -> D -> Option Bool) (xs ys : List D) : CH f P xs ys [] = some true := rfl
theorem EJ (f : TypeId -> D -> D -> Option Bool) (xs ys : List D) (o : Nat) (ft : TypeId) (r : List (Nat × TypeId)) :
  CH f P xs ys ((o, ft) :: r) = (EF P ft (xs.drop o)).bind fun a => (EF P ft (ys.drop o)).bind fun b => (f ft a b).bind fun c => (CH f P xs ys r).map fun e => c && e := by
 simp only [CH];cases EF P ft (xs.drop o) <;> cases EF P ft (ys.drop o) <;> rfl
theorem Gs : eqD P h 9999 t (.int k a) (.int k b) = if (kiD P t).isSome = true then some (a == b) else none := by simp [eqD]
theorem Gh (x y : List By8) : eqD P h 9999 t (.str x) (.str y) = if stD P t = true then some (x == y) else none := by simp [eqD]
theorem Ft (x y : Bool) : eqD P h 9999 t (.bool x) (.bool y) = if boD P t = true then some (x == y) else none := by simp [eqD]
theorem Gm (xs ys : List D) : eqD P h 9999 t (.agg xs) (.agg ys) = (sfD P t).bind fun fs => CH (eqD P h 9998) P xs ys fs := T3 P h t 9998 xs ys
theorem Fw : eqD P h 9998 t (.int k a) (.int k b) = if (kiD P t).isSome = true then some (a == b) else none := by simp [eqD]
theorem FC (x y : List By8) : eqD P h 9998 t (.str x) (.str y) = if stD P t = true then some (x == y) else none := by simp [eqD]
theorem EK (x y : Bool) : eqD P h 9998 t (.bool x) (.bool y) = if boD P t = true then some (x == y) else none := by simp [eqD]
theorem Yc (x y : List By8) : GR .add x y = if x.length + y.length <= 9223372036854775807 then some (.str (x ++ y)) else none := rfl
theorem YA (x y : List By8) : GR .eql x y = some (.bool (x == y)) := rfl
theorem X2 (x y : List By8) : GR .neq x y = some (.bool (!(x == y))) := rfl
theorem YX (x y : List By8) : GR .lss x y = some (.bool (Op.bytesLess x y)) := rfl
theorem Za (x y : List By8) : GR .gtr x y = some (.bool (!(Op.bytesLess x y || x == y))) := rfl
theorem Acl (x : Bool) : unD .not (.bool x) = some (.bool (!x)) := rfl
theorem UP (f : FloatKind) (x : Nat) : unD .neg (.float f x) = some (.float f (Op.negFloat f x)) := rfl
theorem Abl (ts : List TypeId) (x y : Int) (R : D -> Heap -> Prop) : ED P m .min ts [.int k x, .int k' y] h R = R (.int k (if y < x then y else x)) h := by simp [ED, Lp, ZI, OptP]
theorem Aca (ts : List TypeId) (x y : Int) (R : D -> Heap -> Prop) : ED P m .max ts [.int k x, .int k' y] h R = R (.int k (if y > x then y else x)) h := by simp [ED, Lp, ZI, OptP]
theorem RZ : Sl P h t .snil = if (slD P t).isSome = true then some (.int .i64 0) else none := rfl
theorem S6 (n : Nat) (es : List (List D)) (r : Nat) : Sl P h t (.sl n es r) = if (slD P t).isSome = true then some (.int .i64 es.length) else none := rfl
theorem Aar (id : Nat) : Sl P h t (.mp id) = match P.underlying t, h id with | some (.map _ _), some (.map es _) => some (.int .i64 es.length) | _, _ => none := rfl
theorem VT (n : Nat) (es : List (List D)) (h h' : Heap) (R : D -> Heap -> Prop) : G0 0 n es h h' R = R (.sl n es 0) h' := rfl
theorem Ri (n : Nat) (es : List (List D)) (h h' : Heap) (R : D -> Heap -> Prop) : G0 2 n es h h' R = ∀ r, h r = none -> r ≠ 0 -> R (.sl n es r) (h'.upd r (some .room)) := rfl
theorem Yi (h : Heap) (cs : List D) (R : D -> Heap -> Prop) : S8 0 h cs R = R (.iptr cs) h := rfl
theorem UK (h : Heap) (cs : List D) (R : D -> Heap -> Prop) : S8 1 h cs R = ∀ i, h i = none -> i ≠ 0 -> R (.ptr i 0) (h.upd i (some (.cells cs))) := rfl
theorem Jh (cs : List D) : EF P t cs = match agD P t, szD P t with
 | some true, some n => if n <= cs.length then some (.agg (cs.take n)) else none
 | some false, some _ => match cs with | d :: _ => some d | [] => none
 | _, _ => none := rfl
theorem I8 (id off : Nat) : LH P h t (.ptr id off) = match h id with | some (.cells cs) => EF P t (cs.drop off) | some (.bytes cs) => EF P t (cs.drop off) | _ => none := by
 simp only [LH, Kh]
 cases h id with
 | none => rfl
 | some x => cases x <;> rfl
theorem Q8 (i : Int) (n : Nat) (es : List (List D)) (r : Nat) : Dy P t (.sl n es r) (.int k i) = if ((slD P t).bind (szD P)) = some n /\ 0 <= i /\ i < es.length then some (.iptr (es.getD i.toNat [])) else none := by
 simp only [Dy]; cases slD P t <;> simp
theorem Aad (i : Int) (id off : Nat) : Dy P t (.ptr id off) (.int k i) = match arD P t with | some (n, e) => (match szD P e with | some q => if 0 <= i /\ i < n then some (.ptr id (off + i.toNat * q)) else none | none => none) | none => none := rfl
theorem TR (i : Int) (s : List By8) : Pp P t (.str s) (.int k i) = if stD P t = true /\ 0 <= i /\ i < s.length then some (HN (s.getD i.toNat 0)) else none := rfl
theorem X1 (f : Nat) (cs : List D) : EQ P t f (.iptr cs) = match fdD P t f with | some (o, ft) => if nz (szD P ft) = true then (if o <= cs.length then some (.iptr (cs.drop o)) else none) else none | none => none := by
 simp only [EQ]
 cases fdD P t f with
 | none => rfl
 | some x =>
  obtain ⟨o, ft⟩ := x
  cases hs : szD P ft with
  | none => simp [nz, hs]
  | some n => cases n <;> simp [nz, hs, RR]
theorem Yr (f id off : Nat) : EQ P t f (.ptr id off) = match fdD P t f with | some (o, ft) => if nz (szD P ft) = true then some (.ptr id (off + o)) else none | none => none := by
 simp only [EQ]
 cases fdD P t f with
 | none => rfl
 | some x =>
  obtain ⟨o, ft⟩ := x
  cases hs : szD P ft with
  | none => simp [nz, hs]
  | some n => cases n <;> simp [nz, hs, RR]
theorem Pk (s : TypeId) : IJ P h s t (.int k a) = match kiD P t with
  | some k' => if (P.underlying s).isSome = true then some (.int k' (k'.wrap a)) else none
  | none => match faD P t with
   | some f => if (P.underlying s).isSome = true then some (.float f (f.nearest a)) else none
   | none => if stD P t = true /\ (P.underlying s).isSome = true then some (.str (Utf8.encode a).data.toList) else none := rfl
theorem PQ (s : TypeId) (x : List By8) : IJ P h s t (.str x) = if stD P t = true /\ stD P s = true then some (.str x) else none := rfl
theorem YZ (s : TypeId) : IJ P h s t .snil = match slD P s with
  | some e => if kiD P e = some .u8 /\ stD P t = true then some (.str []) else none
  | none => none := rfl
theorem SK (s : TypeId) (n : Nat) (es : List (List D)) (r : Nat) : IJ P h s t (.sl n es r) = match slD P s with
  | some e => if kiD P e = some .u8 /\ stD P t = true /\ n = 1 then (Ey es).map .str else none
  | none => none := rfl
theorem PH (s : List By8) (lo hi : Option D) : Ip P t (.str s) lo hi = if stD P t = true then match Cz lo 0, Cz hi s.length with
   | some l, some h => if 0 <= l /\ l <= h /\ h <= s.length then some (.str ((s.drop l.toNat).take (h.toNat - l.toNat))) else none
   | _, _ => none
  else none := rfl
theorem PZ (n : Nat) (es : List (List D)) (r : Nat) (lo hi : Option D) : Ip P t (.sl n es r) lo hi = if ((slD P t).bind (szD P)) = some n then match Cz lo 0, Cz hi es.length with
   | some l, some h => if 0 <= l /\ l <= h /\ h <= es.length then some (.sl n ((es.drop l.toNat).take (h.toNat - l.toNat)) 0) else none
   | _, _ => none
  else none := by
 simp only [Ip]; cases slD P t <;> rfl
theorem Kv (n id off l0 : Nat) (lo hi : Option D) : Ip P t (.msl n id off l0) lo hi = if ((slD P t).bind (szD P)) = some n then match Cz lo 0, Cz hi l0 with
   | some l, some h => if 0 <= l /\ l <= h /\ h <= l0 /\ (l = 0 \/ l < l0) then some (.msl n id (off + l.toNat * n) (h.toNat - l.toNat)) else if 0 <= l /\ l = h /\ h = l0 then some (.sl n [] 0) else none
   | _, _ => none
  else none := by
 simp only [Ip]; cases slD P t <;> rfl
end
end Go.Proofs.YtmnbjcpikllknaaGreatDoor
