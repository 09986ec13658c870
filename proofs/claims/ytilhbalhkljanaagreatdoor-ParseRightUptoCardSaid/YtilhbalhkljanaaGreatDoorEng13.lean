/- The abstract machine's equations, one by one, for simp. No condition. -/
import Derived.Test.YtilhbalhkljanaaGreatDoorEng12
set_option linter.unusedSimpArgs false
set_option linter.unusedVariables false
namespace Go.Proofs.YtilhbalhkljanaaGreatDoor
section
variable (P : Program) (h : Heap) (t : TypeId) (k k' : IntKind) (a b : Int) (m : Nat)
theorem Yy : BL P h .add t (.int k a) (.int k b) = some (.int k (k.wrap (a + b))) := by simp [BL, Ev]
theorem Td : BL P h .sub t (.int k a) (.int k b) = some (.int k (k.wrap (a - b))) := by simp [BL, Ev]
theorem NM : BL P h .mul t (.int k a) (.int k b) = some (.int k (k.wrap (a * b))) := by simp [BL, Ev]
theorem cb : BL P h .quo t (.int k a) (.int k b) = if b = 0 then none else some (.int k (k.wrap (a.tdiv b))) := by simp [BL, Ev]
theorem cR : BL P h .rem t (.int k a) (.int k b) = if b = 0 then none else some (.int k (a.tmod b)) := by simp [BL, Ev]
theorem eF : BL P h .and t (.int k a) (.int k b) = some (.int k (k.wrap (BitVec.ofInt k.bits a &&& BitVec.ofInt k.bits b).toNat)) := by simp only [BL, if_true]; rfl
theorem bY : BL P h .or t (.int k a) (.int k b) = some (.int k (k.wrap (BitVec.ofInt k.bits a ||| BitVec.ofInt k.bits b).toNat)) := by simp only [BL, if_true]; rfl
theorem dX : BL P h .xor t (.int k a) (.int k b) = some (.int k (k.wrap (BitVec.ofInt k.bits a ^^^ BitVec.ofInt k.bits b).toNat)) := by simp only [BL, if_true]; rfl
theorem Xh : BL P h .andNot t (.int k a) (.int k b) = some (.int k (k.wrap (BitVec.ofInt k.bits a &&& ~~~(BitVec.ofInt k.bits b)).toNat)) := by simp only [BL, if_true]; rfl
theorem Yq : BL P h .eql t (.int k a) (.int k b) = some (.bool (a == b)) := by simp [BL, Ev]
theorem Yp : BL P h .neq t (.int k a) (.int k b) = some (.bool (a != b)) := by simp [BL, Ev]
theorem ZZ : BL P h .lss t (.int k a) (.int k b) = some (.bool (decide (a < b))) := by simp [BL, Ev]
theorem XE : BL P h .leq t (.int k a) (.int k b) = some (.bool (decide (a ≤ b))) := by simp [BL, Ev]
theorem XF : BL P h .gtr t (.int k a) (.int k b) = some (.bool (decide (b < a))) := by simp [BL, Ev]
theorem Zd : BL P h .geq t (.int k a) (.int k b) = some (.bool (decide (b ≤ a))) := by simp [BL, Ev]
theorem db : BL P h .shl t (.int k a) (.int k' b) = if b < 0 then none else some (.int k (k.wrap (a * 2 ^ (min b.toNat k.bits)))) := by simp [BL]
theorem Z4 : BL P h .shr t (.int k a) (.int k' b) = if b < 0 then none else some (.int k (a.fdiv (2 ^ (min b.toNat k.bits)))) := by simp [BL]
theorem Mb (op : BinOp) (x y : List UInt8) : BL P h op t (.str x) (.str y) = Gd op x y := by simp [BL]
theorem X4 (op : BinOp) (f : FloatKind) (x y : Nat) : BL P h op t (.float f x) (.float f y) = Gp op f x y := by simp [BL]
theorem S0 (x y : Bool) : BL P h .eql t (.bool x) (.bool y) = if boD P t = true then some (.bool (x == y)) else none := by
 simp [BL, Da, eqD]; try (split <;> simp)
theorem MR (x y : Bool) : BL P h .neq t (.bool x) (.bool y) = if boD P t = true then some (.bool (!(x == y))) else none := by
 simp [BL, Da, eqD]; try (split <;> simp)
def iu : D → Bool
 | .nilp | .ptr _ _ | .iptr _ => true
 | _ => false
theorem WC : BL P h .eql t .nilp .nilp = if (ptD P t).isSome = true then some (.bool true) else none := by simp [BL, Da, eqD]; try (split <;> simp)
theorem Xn : BL P h .neq t .nilp .nilp = if (ptD P t).isSome = true then some (.bool false) else none := by simp [BL, Da, eqD]; try (split <;> simp)
theorem Wq (i o : Nat) : BL P h .eql t (.ptr i o) .nilp = if (ptD P t).isSome = true then some (.bool false) else none := by simp [BL, Da, eqD]; try (split <;> simp)
theorem Xx (i o : Nat) : BL P h .neq t (.ptr i o) .nilp = if (ptD P t).isSome = true then some (.bool true) else none := by simp [BL, Da, eqD]; try (split <;> simp)
theorem Wh (cs : List D) : BL P h .eql t (.iptr cs) .nilp = if (ptD P t).isSome = true then some (.bool false) else none := by simp [BL, Da, eqD]; try (split <;> simp)
theorem Xi (cs : List D) : BL P h .neq t (.iptr cs) .nilp = if (ptD P t).isSome = true then some (.bool true) else none := by simp [BL, Da, eqD]; try (split <;> simp)
theorem Xc (i o : Nat) : BL P h .eql t .nilp (.ptr i o) = if (ptD P t).isSome = true then some (.bool false) else none := by simp [BL, Da, eqD]; try (split <;> simp)
theorem W5 (i o : Nat) : BL P h .neq t .nilp (.ptr i o) = if (ptD P t).isSome = true then some (.bool true) else none := by simp [BL, Da, eqD]; try (split <;> simp)
def nz : Option Nat → Bool
 | some n => n != 0
 | none => false
theorem QT (n : Nat) : nz (some n) = (n != 0) := rfl
theorem VW (i o j p : Nat) : BL P h .eql t (.ptr i o) (.ptr j p) = if nz ((ptD P t).bind (szD P)) = true then (if i = j then some (.bool (o == p)) else if MU h i = true ∧ MU h j = true then some (.bool false) else none) else none := by
 simp only [BL, Da, if_true, eqD]
 cases he : ptD P t with
 | none => simp [nz]
 | some e =>
  cases hs : szD P e with
  | none => simp [nz, hs]
  | some n => cases n with
   | zero => simp [nz, hs]
   | succ n =>
    have hn : (n + 1 != 0) = true := by simp
    simp only [hs, Option.bind_some, nz, hn, if_true]
    split <;> (try split) <;> simp
theorem WW (i o j p : Nat) : BL P h .neq t (.ptr i o) (.ptr j p) = if nz ((ptD P t).bind (szD P)) = true then (if i = j then some (.bool (!(o == p))) else if MU h i = true ∧ MU h j = true then some (.bool true) else none) else none := by
 simp only [BL, Da, if_true, eqD]
 cases he : ptD P t with
 | none => simp [nz]
 | some e =>
  cases hs : szD P e with
  | none => simp [nz, hs]
  | some n => cases n with
   | zero => simp [nz, hs]
   | succ n =>
    have hn : (n + 1 != 0) = true := by simp
    simp only [hs, Option.bind_some, nz, hn, if_true]
    split <;> (try split) <;> simp
theorem Xp : BL P h .eql t .snil .snil = if (slD P t).isSome = true then some (.bool true) else none := by simp [BL, Da, eqD]; try (split <;> simp)
theorem Xg : BL P h .neq t .snil .snil = if (slD P t).isSome = true then some (.bool false) else none := by simp [BL, Da, eqD]; try (split <;> simp)
theorem WV (n : Nat) (es : List (List D)) (r : Nat) : BL P h .eql t (.sl n es r) .snil = if (slD P t).isSome = true ∧ es ≠ [] then some (.bool false) else none := by simp [BL, Da, eqD]; try (split <;> simp_all)
theorem Wt (n : Nat) (es : List (List D)) (r : Nat) : BL P h .neq t (.sl n es r) .snil = if (slD P t).isSome = true ∧ es ≠ [] then some (.bool true) else none := by simp [BL, Da, eqD]; try (split <;> simp_all)
theorem Ur (n : Nat) (xs ys : List D) : eqD P h (n + 1) t (.agg xs) (.agg ys) = (sfD P t).bind fun fs => Dm (eqD P h n) P xs ys fs := by
 show (match sfD P t with | some fs => Dm (eqD P h n) P xs ys fs | none => none) = _
 cases sfD P t <;> rfl
theorem Oc (xs ys : List D) : BL P h .eql t (.agg xs) (.agg ys) = if P.eqGuardType P.depth t = false then ((sfD P t).bind fun fs => Dm (eqD P h 9999) P xs ys fs).map .bool else none := by
 rw [← Ur P h t 9999]
 show (if (!P.eqGuardType P.depth t) = true then (eqD P h 10000 t (.agg xs) (.agg ys)).map D.bool else none) = _
 cases P.eqGuardType P.depth t <;> rfl
theorem Ox (xs ys : List D) : BL P h .neq t (.agg xs) (.agg ys) = if P.eqGuardType P.depth t = false then ((sfD P t).bind fun fs => Dm (eqD P h 9999) P xs ys fs).map fun b => .bool (!b) else none := by
 rw [← Ur P h t 9999]
 show (if (!P.eqGuardType P.depth t) = true then (eqD P h 10000 t (.agg xs) (.agg ys)).map (fun b => D.bool (!b)) else none) = _
 cases P.eqGuardType P.depth t <;> rfl
theorem FE (f : TypeId → D → D → Option Bool) (xs ys : List D) : Dm f P xs ys [] = some true := rfl
theorem EX (f : TypeId → D → D → Option Bool) (xs ys : List D) (o : Nat) (ft : TypeId) (r : List (Nat × TypeId)) :
  Dm f P xs ys ((o, ft) :: r) = (DW P ft (xs.drop o)).bind fun a => (DW P ft (ys.drop o)).bind fun b => (f ft a b).bind fun c => (Dm f P xs ys r).map fun e => c && e := by
 simp only [Dm]
 cases DW P ft (xs.drop o) <;> cases DW P ft (ys.drop o) <;> rfl
theorem Gl : eqD P h 9999 t (.int k a) (.int k b) = if (kiD P t).isSome = true then some (a == b) else none := by simp [eqD]
theorem Gj (x y : List UInt8) : eqD P h 9999 t (.str x) (.str y) = if stD P t = true then some (x == y) else none := by simp [eqD]
theorem FG (x y : Bool) : eqD P h 9999 t (.bool x) (.bool y) = if boD P t = true then some (x == y) else none := by simp [eqD]
theorem Gq (xs ys : List D) : eqD P h 9999 t (.agg xs) (.agg ys) = (sfD P t).bind fun fs => Dm (eqD P h 9998) P xs ys fs := Ur P h t 9998 xs ys
theorem FP : eqD P h 9998 t (.int k a) (.int k b) = if (kiD P t).isSome = true then some (a == b) else none := by simp [eqD]
theorem FT (x y : List UInt8) : eqD P h 9998 t (.str x) (.str y) = if stD P t = true then some (x == y) else none := by simp [eqD]
theorem EV (x y : Bool) : eqD P h 9998 t (.bool x) (.bool y) = if boD P t = true then some (x == y) else none := by simp [eqD]
theorem Vn (x y : List UInt8) : Gd .add x y = if x.length + y.length ≤ 9223372036854775807 then some (.str (x ++ y)) else none := rfl
theorem VK (x y : List UInt8) : Gd .eql x y = some (.bool (x == y)) := rfl
theorem Vy (x y : List UInt8) : Gd .neq x y = some (.bool (!(x == y))) := rfl
theorem Vo (x y : List UInt8) : Gd .lss x y = some (.bool (Op.bytesLess x y)) := rfl
theorem bD (x y : List UInt8) : Gd .leq x y = some (.bool (Op.bytesLess x y || x == y)) := rfl
theorem Vd (x y : List UInt8) : Gd .gtr x y = some (.bool (!(Op.bytesLess x y || x == y))) := rfl
theorem bG (x y : List UInt8) : Gd .geq x y = some (.bool (!Op.bytesLess x y)) := rfl
theorem bu (R : D → Heap → Prop) (h5 : m ≠ 5) : M4 P m h t 0 [] R = match elD P t with
  | none => False
  | some (k, _, _) => FD m k [] h h R := by
 simp only [M4]
 cases elD P t with
 | none => rfl
 | some x =>
  obtain ⟨k, B, z⟩ := x
  simp [F4, C1]
theorem bw (d : D) (R : D → Heap → Prop) (h5 : m ≠ 5) : M4 P m h t 1 [(0, d)] R = match elD P t with
  | none => False
  | some (k, _, _) => k ≤ 16777216 ∧ d.lay = true ∧ d.cells.length = k ∧ FD m k [d.cells] h h R := by
 simp only [M4]
 cases he : elD P t with
 | none => rfl
 | some x =>
  obtain ⟨k, B, z⟩ := x
  obtain ⟨_, _, _, _, _, _, _, _, _, _, hz, _⟩ := L1 he
  simp only [F4, Nat.zero_mul, Nat.zero_add, Nat.one_mul]
  refine propext ⟨fun ⟨h1, h2⟩ => ?_, fun ⟨h1, h2, h3, h4⟩ => ⟨h1, ?_⟩⟩
  ·split at h2
   ·rename_i cs hcs
    split at hcs
    ·rename_i hc
     injection hcs with hcs
     have hcs' : cs = d.cells := by rw [← hcs]; simp [EJ, hc.2.1, hz]
     refine ⟨h1, hc.1, hc.2.1, ?_⟩
     rw [hcs'] at h2
     simpa [C1, hc.2.1, List.range_succ, List.take_of_length_le (Nat.le_of_eq hc.2.1)] using h2
    ·simp at hcs
   ·exact h2.elim
  ·have hc : d.lay = true ∧ d.cells.length = k ∧ k ≤ (List.replicate 1 z).flatten.length := ⟨h2, h3, by simp [hz]⟩
   have hp : EJ (List.replicate 1 z).flatten 0 d.cells = d.cells := by simp [EJ, h3, hz]
   rw [if_pos hc]
   simp only [hp]
   have hch : C1 k 1 d.cells = [d.cells] := by simp [C1, ← h3, List.range_succ]
   rw [hch]; exact h4
theorem Zk : Rh P t (.int k a) = (kiD P t == some k) := rfl
theorem ZE (x : List UInt8) : Rh P t (.str x) = stD P t := rfl
theorem Zc (x : Bool) : Rh P t (.bool x) = boD P t := rfl
theorem dK : unD .neg (.int k a) = some (.int k (k.wrap (0 - a))) := rfl
theorem Z0 (x : Bool) : unD .not (.bool x) = some (.bool (!x)) := rfl
theorem bC (f : FloatKind) (x : Nat) : unD .neg (.float f x) = some (.float f (Op.negFloat f x)) := rfl
theorem d9 (x : D) (R : D → Heap → Prop) : EG P m .len [t] [x] h R = Am (Kj P h t x) fun d => R d h := rfl
theorem WE (u : TypeId) (s x : D) (R : D → Heap → Prop) : EG P m .append [t, u] [s, x] h R = Gf P m h t u s x R := rfl
theorem WT (u : TypeId) (mp key : D) (R : D → Heap → Prop) : EG P m .delete [t, u] [mp, key] h R = Rb P h t mp key fun h' => R (.tup []) h' := rfl
theorem YI (ts : List TypeId) (x y : Int) (R : D → Heap → Prop) : EG P m .min ts [.int k x, .int k' y] h R = R (.int k (if y < x then y else x)) h := by simp [EG, MQ, WI, Am]
theorem ec (ts : List TypeId) (x y : Int) (R : D → Heap → Prop) : EG P m .max ts [.int k x, .int k' y] h R = R (.int k (if y > x then y else x)) h := by simp [EG, MQ, WI, Am]
theorem S8 (s : List UInt8) : Kj P h t (.str s) = if stD P t = true then some (.int .i64 s.length) else none := rfl
theorem OP : Kj P h t .snil = if (slD P t).isSome = true then some (.int .i64 0) else none := rfl
theorem P8 (n : Nat) (es : List (List D)) (r : Nat) : Kj P h t (.sl n es r) = if (slD P t).isSome = true then some (.int .i64 es.length) else none := rfl
theorem Ud (n id off l : Nat) : Kj P h t (.msl n id off l) = if (slD P t).isSome = true then some (.int .i64 l) else none := rfl
theorem WA (id : Nat) : Kj P h t (.mp id) = match P.underlying t, h id with | some (.map _ _), some (.map es _) => some (.int .i64 es.length) | _, _ => none := rfl
theorem Sp : Kj P h t .mnil = match P.underlying t with | some (.map _ _) => some (.int .i64 0) | _ => none := rfl
theorem S3 (n : Nat) (es : List (List D)) (h h' : Heap) (R : D → Heap → Prop) : FD 0 n es h h' R = R (.sl n es 0) h' := rfl
theorem YQ (n : Nat) (es : List (List D)) (h h' : Heap) (R : D → Heap → Prop) : FD 1 n es h h' R = ∀ i, h i = none → i ≠ 0 → R (.msl n i 0 es.length) (h'.upd i (some (.cells es.flatten))) := rfl
theorem OQ (n : Nat) (es : List (List D)) (h h' : Heap) (R : D → Heap → Prop) : FD 2 n es h h' R = ∀ r, h r = none → r ≠ 0 → R (.sl n es r) (h'.upd r (some .room)) := rfl
theorem Vf (h : Heap) (cs : List D) (R : D → Heap → Prop) : OT 0 h cs R = R (.iptr cs) h := rfl
theorem QG (h : Heap) (cs : List D) (R : D → Heap → Prop) : OT 1 h cs R = ∀ i, h i = none → i ≠ 0 → R (.ptr i 0) (h.upd i (some (.cells cs))) := rfl
theorem Ir (cs : List D) : DW P t cs = match agD P t, szD P t with
 | some true, some n => if n ≤ cs.length then some (.agg (cs.take n)) else none
 | some false, some _ => match cs with | d :: _ => some d | [] => none
 | _, _ => none := rfl
theorem bE (cs : List D) : JB P h t (.iptr cs) = DW P t cs := rfl
theorem Io (id off : Nat) : JB P h t (.ptr id off) = match h id with | some (.cells cs) => DW P t (cs.drop off) | some (.bytes cs) => DW P t (cs.drop off) | _ => none := by
 simp only [JB, Kv]
 cases h id with
 | none => rfl
 | some x => cases x <;> rfl
theorem Ok (i : Int) (n : Nat) (es : List (List D)) (r : Nat) : DK P t (.sl n es r) (.int k i) = if ((slD P t).bind (szD P)) = some n ∧ 0 ≤ i ∧ i < es.length then some (.iptr (es.getD i.toNat [])) else none := by
 simp only [DK]; cases slD P t <;> simp
theorem VV (i : Int) (n id off l : Nat) : DK P t (.msl n id off l) (.int k i) = if ((slD P t).bind (szD P)) = some n ∧ 0 ≤ i ∧ i < l then some (.ptr id (off + i.toNat * n)) else none := by
 simp only [DK]; cases slD P t <;> simp
theorem Wg (i : Int) (id off : Nat) : DK P t (.ptr id off) (.int k i) = match arD P t with | some (n, e) => (match szD P e with | some q => if 0 ≤ i ∧ i < n then some (.ptr id (off + i.toNat * q)) else none | none => none) | none => none := rfl
theorem UE (i : Int) (cs : List D) : DK P t (.iptr cs) (.int k i) = match arD P t with | some (n, e) => (match szD P e with | some q => if 0 ≤ i ∧ i < n then (if i.toNat * q ≤ cs.length then some (.iptr (cs.drop (i.toNat * q))) else none) else none | none => none) | none => none := rfl
theorem P1 (i : Int) (s : List UInt8) : MH P t (.str s) (.int k i) = if stD P t = true ∧ 0 ≤ i ∧ i < s.length then some (GX (s.getD i.toNat 0)) else none := rfl
theorem Xa (i : Int) (cs : List D) : MH P t (.agg cs) (.int k i) = match arD P t with | some (n, e) => (match szD P e with | some q => if 0 ≤ i ∧ i < n then DW P e (cs.drop (i.toNat * q)) else none | none => none) | none => none := rfl
theorem U4 (f : Nat) (cs : List D) : FJ P t f (.iptr cs) = match fdD P t f with | some (o, ft) => if nz (szD P ft) = true then (if o ≤ cs.length then some (.iptr (cs.drop o)) else none) else none | none => none := by
 simp only [FJ]
 cases fdD P t f with
 | none => rfl
 | some x =>
  obtain ⟨o, ft⟩ := x
  cases hs : szD P ft with
  | none => simp [nz, hs]
  | some n => cases n <;> simp [nz, hs, PO]
theorem UT (f id off : Nat) : FJ P t f (.ptr id off) = match fdD P t f with | some (o, ft) => if nz (szD P ft) = true then some (.ptr id (off + o)) else none | none => none := by
 simp only [FJ]
 cases fdD P t f with
 | none => rfl
 | some x =>
  obtain ⟨o, ft⟩ := x
  cases hs : szD P ft with
  | none => simp [nz, hs]
  | some n => cases n <;> simp [nz, hs, PO]
theorem ZC (f : Nat) (cs : List D) : N1 P t f (.agg cs) = match fdD P t f with | some (o, ft) => DW P ft (cs.drop o) | none => none := rfl
theorem YD (id off : Nat) (x : D) (R : Heap → Prop) : Lg P h t (.ptr id off) x R = match h id with
 | some (.cells cs) => x.lay = true ∧ szD P t = some x.cells.length ∧ off + x.cells.length ≤ cs.length ∧ R (h.upd id (some (.cells (EJ cs off x.cells))))
 | some (.bytes cs) => x.lay = true ∧ szD P t = some x.cells.length ∧ off + x.cells.length ≤ cs.length ∧ R (h.upd id (some (.bytes (EJ cs off x.cells))))
 | _ => False := rfl
theorem Mr (s : TypeId) : HS P h s t (.int k a) = match kiD P t with
  | some k' => if (P.underlying s).isSome = true then some (.int k' (k'.wrap a)) else none
  | none => match faD P t with
   | some f => if (P.underlying s).isSome = true then some (.float f (f.nearest a)) else none
   | none => if stD P t = true ∧ (P.underlying s).isSome = true then some (.str (Utf8.encode a).data.toList) else none := rfl
theorem MY (s : TypeId) (x : List UInt8) : HS P h s t (.str x) = if stD P t = true ∧ stD P s = true then some (.str x) else none := rfl
theorem SZ (s : TypeId) : HS P h s t .snil = match slD P s with
  | some e => if kiD P e = some .u8 ∧ stD P t = true then some (.str []) else none
  | none => none := rfl
theorem ND (s : TypeId) (n : Nat) (es : List (List D)) (r : Nat) : HS P h s t (.sl n es r) = match slD P s with
  | some e => if kiD P e = some .u8 ∧ stD P t = true ∧ n = 1 then (bytesOf es).map .str else none
  | none => none := rfl
theorem L8 (s : List UInt8) (lo hi : Option D) : H1 P t (.str s) lo hi = if stD P t = true then match CF lo 0, CF hi s.length with
   | some l, some h => if 0 ≤ l ∧ l ≤ h ∧ h ≤ s.length then some (.str ((s.drop l.toNat).take (h.toNat - l.toNat))) else none
   | _, _ => none
  else none := rfl
theorem M1 (n : Nat) (es : List (List D)) (r : Nat) (lo hi : Option D) : H1 P t (.sl n es r) lo hi = if ((slD P t).bind (szD P)) = some n then match CF lo 0, CF hi es.length with
   | some l, some h => if 0 ≤ l ∧ l ≤ h ∧ h ≤ es.length then some (.sl n ((es.drop l.toNat).take (h.toNat - l.toNat)) 0) else none
   | _, _ => none
  else none := by
 simp only [H1]; cases slD P t <;> rfl
theorem Lz (n id off l0 : Nat) (lo hi : Option D) : H1 P t (.msl n id off l0) lo hi = if ((slD P t).bind (szD P)) = some n then match CF lo 0, CF hi l0 with
   | some l, some h => if 0 ≤ l ∧ l ≤ h ∧ h ≤ l0 ∧ (l = 0 ∨ l < l0) then some (.msl n id (off + l.toNat * n) (h.toNat - l.toNat)) else if 0 ≤ l ∧ l = h ∧ h = l0 then some (.sl n [] 0) else none
   | _, _ => none
  else none := by
 simp only [H1]; cases slD P t <;> rfl
end
end Go.Proofs.YtilhbalhkljanaaGreatDoor
