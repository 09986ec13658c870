/- The abstract machine's equations, one by one, for simp. No condition. -/
import Derived.Test.YtilhbalhkljanaaGreatDoorEng12
set_option linter.unusedSimpArgs false
set_option linter.unusedVariables false
namespace Go.Proofs.YtilhbalhkljanaaGreatDoor
section
variable (P : Program) (h : Heap) (t : TypeId) (k k' : IntKind) (a b : Int) (m : Nat)
theorem Wb : BC P h .add t (.int k a) (.int k b) = some (.int k (k.wrap (a + b))) := by simp [BC, D9]
theorem SK : BC P h .sub t (.int k a) (.int k b) = some (.int k (k.wrap (a - b))) := by simp [BC, D9]
theorem NM : BC P h .mul t (.int k a) (.int k b) = some (.int k (k.wrap (a * b))) := by simp [BC, D9]
theorem bL : BC P h .quo t (.int k a) (.int k b) = if b = 0 then none else some (.int k (k.wrap (a.tdiv b))) := by simp [BC, D9]
theorem bz : BC P h .rem t (.int k a) (.int k b) = if b = 0 then none else some (.int k (a.tmod b)) := by simp [BC, D9]
theorem b7 : BC P h .and t (.int k a) (.int k b) = some (.int k (k.wrap (BitVec.ofInt k.bits a &&& BitVec.ofInt k.bits b).toNat)) := by simp only [BC, if_true]; rfl
theorem ZQ : BC P h .or t (.int k a) (.int k b) = some (.int k (k.wrap (BitVec.ofInt k.bits a ||| BitVec.ofInt k.bits b).toNat)) := by simp only [BC, if_true]; rfl
theorem Z5 : BC P h .xor t (.int k a) (.int k b) = some (.int k (k.wrap (BitVec.ofInt k.bits a ^^^ BitVec.ofInt k.bits b).toNat)) := by simp only [BC, if_true]; rfl
theorem VQ : BC P h .andNot t (.int k a) (.int k b) = some (.int k (k.wrap (BitVec.ofInt k.bits a &&& ~~~(BitVec.ofInt k.bits b)).toNat)) := by simp only [BC, if_true]; rfl
theorem Xq : BC P h .eql t (.int k a) (.int k b) = some (.bool (a == b)) := by simp [BC, D9]
theorem X6 : BC P h .neq t (.int k a) (.int k b) = some (.bool (a != b)) := by simp [BC, D9]
theorem Wj : BC P h .lss t (.int k a) (.int k b) = some (.bool (decide (a < b))) := by simp [BC, D9]
theorem X9 : BC P h .leq t (.int k a) (.int k b) = some (.bool (decide (a ≤ b))) := by simp [BC, D9]
theorem V5 : BC P h .gtr t (.int k a) (.int k b) = some (.bool (decide (b < a))) := by simp [BC, D9]
theorem Xb : BC P h .geq t (.int k a) (.int k b) = some (.bool (decide (b ≤ a))) := by simp [BC, D9]
theorem Z8 : BC P h .shl t (.int k a) (.int k' b) = if b < 0 then none else some (.int k (k.wrap (a * 2 ^ (min b.toNat k.bits)))) := by simp [BC]
theorem WV : BC P h .shr t (.int k a) (.int k' b) = if b < 0 then none else some (.int k (a.fdiv (2 ^ (min b.toNat k.bits)))) := by simp [BC]
theorem LI (op : BinOp) (x y : List UInt8) : BC P h op t (.str x) (.str y) = Fv op x y := by simp [BC]
theorem Xf (op : BinOp) (f : FloatKind) (x y : Nat) : BC P h op t (.float f x) (.float f y) = FK op f x y := by simp [BC]
theorem RP (x y : Bool) : BC P h .eql t (.bool x) (.bool y) = if boD P t = true then some (.bool (x == y)) else none := by
 simp [BC, CX, eqD]; try (split <;> simp)
theorem Mc (x y : Bool) : BC P h .neq t (.bool x) (.bool y) = if boD P t = true then some (.bool (!(x == y))) else none := by
 simp [BC, CX, eqD]; try (split <;> simp)
def fx : D → Bool
 | .nilp | .ptr _ _ | .iptr _ => true
 | _ => false
theorem UD : BC P h .eql t .nilp .nilp = if (ptD P t).isSome = true then some (.bool true) else none := by simp [BC, CX, eqD]; try (split <;> simp)
theorem VJ : BC P h .neq t .nilp .nilp = if (ptD P t).isSome = true then some (.bool false) else none := by simp [BC, CX, eqD]; try (split <;> simp)
theorem UX (i o : Nat) : BC P h .eql t (.ptr i o) .nilp = if (ptD P t).isSome = true then some (.bool false) else none := by simp [BC, CX, eqD]; try (split <;> simp)
theorem Vm (i o : Nat) : BC P h .neq t (.ptr i o) .nilp = if (ptD P t).isSome = true then some (.bool true) else none := by simp [BC, CX, eqD]; try (split <;> simp)
theorem U6 (cs : List D) : BC P h .eql t (.iptr cs) .nilp = if (ptD P t).isSome = true then some (.bool false) else none := by simp [BC, CX, eqD]; try (split <;> simp)
theorem U0 (cs : List D) : BC P h .neq t (.iptr cs) .nilp = if (ptD P t).isSome = true then some (.bool true) else none := by simp [BC, CX, eqD]; try (split <;> simp)
theorem VW (i o : Nat) : BC P h .eql t .nilp (.ptr i o) = if (ptD P t).isSome = true then some (.bool false) else none := by simp [BC, CX, eqD]; try (split <;> simp)
theorem Vc (i o : Nat) : BC P h .neq t .nilp (.ptr i o) = if (ptD P t).isSome = true then some (.bool true) else none := by simp [BC, CX, eqD]; try (split <;> simp)
def nz : Option Nat → Bool
 | some n => n != 0
 | none => false
theorem PJ (n : Nat) : nz (some n) = (n != 0) := rfl
theorem Uu (i o j p : Nat) : BC P h .eql t (.ptr i o) (.ptr j p) = if nz ((ptD P t).bind (szD P)) = true then (if i = j then some (.bool (o == p)) else if LZ h i = true ∧ LZ h j = true then some (.bool false) else none) else none := by
 simp only [BC, CX, if_true, eqD]
 cases he : ptD P t with
 | none => simp [nz]
 | some e =>
  cases hs : szD P e with
  | none => simp [nz, hs]
  | some n => cases n with
   | zero => simp [nz, hs]
   | succ n =>
    have hn : (n + 1 != 0) = true := by simp
    simp only [hs, Option.bind_some, nz, hn, if_true]
    split <;> (try split) <;> simp
theorem U1 (i o j p : Nat) : BC P h .neq t (.ptr i o) (.ptr j p) = if nz ((ptD P t).bind (szD P)) = true then (if i = j then some (.bool (!(o == p))) else if LZ h i = true ∧ LZ h j = true then some (.bool true) else none) else none := by
 simp only [BC, CX, if_true, eqD]
 cases he : ptD P t with
 | none => simp [nz]
 | some e =>
  cases hs : szD P e with
  | none => simp [nz, hs]
  | some n => cases n with
   | zero => simp [nz, hs]
   | succ n =>
    have hn : (n + 1 != 0) = true := by simp
    simp only [hs, Option.bind_some, nz, hn, if_true]
    split <;> (try split) <;> simp
theorem VN : BC P h .eql t .snil .snil = if (slD P t).isSome = true then some (.bool true) else none := by simp [BC, CX, eqD]; try (split <;> simp)
theorem Vo : BC P h .neq t .snil .snil = if (slD P t).isSome = true then some (.bool false) else none := by simp [BC, CX, eqD]; try (split <;> simp)
theorem Uo (n : Nat) (es : List (List D)) (r : Nat) : BC P h .eql t (.sl n es r) .snil = if (slD P t).isSome = true ∧ es ≠ [] then some (.bool false) else none := by simp [BC, CX, eqD]; try (split <;> simp_all)
theorem UL (n : Nat) (es : List (List D)) (r : Nat) : BC P h .neq t (.sl n es r) .snil = if (slD P t).isSome = true ∧ es ≠ [] then some (.bool true) else none := by simp [BC, CX, eqD]; try (split <;> simp_all)
theorem Su (n : Nat) (xs ys : List D) : eqD P h (n + 1) t (.agg xs) (.agg ys) = (sfD P t).bind fun fs => C4 (eqD P h n) P xs ys fs := by
 show (match sfD P t with | some fs => C4 (eqD P h n) P xs ys fs | none => none) = _
 cases sfD P t <;> rfl
theorem Nl (xs ys : List D) : BC P h .eql t (.agg xs) (.agg ys) = if P.eqGuardType P.depth t = false then ((sfD P t).bind fun fs => C4 (eqD P h 9999) P xs ys fs).map .bool else none := by
 rw [← Su P h t 9999]
 show (if (!P.eqGuardType P.depth t) = true then (eqD P h 10000 t (.agg xs) (.agg ys)).map D.bool else none) = _
 cases P.eqGuardType P.depth t <;> rfl
theorem N1 (xs ys : List D) : BC P h .neq t (.agg xs) (.agg ys) = if P.eqGuardType P.depth t = false then ((sfD P t).bind fun fs => C4 (eqD P h 9999) P xs ys fs).map fun b => .bool (!b) else none := by
 rw [← Su P h t 9999]
 show (if (!P.eqGuardType P.depth t) = true then (eqD P h 10000 t (.agg xs) (.agg ys)).map (fun b => D.bool (!b)) else none) = _
 cases P.eqGuardType P.depth t <;> rfl
theorem G3 (f : TypeId → D → D → Option Bool) (xs ys : List D) : C4 f P xs ys [] = some true := rfl
theorem GD (f : TypeId → D → D → Option Bool) (xs ys : List D) (o : Nat) (ft : TypeId) (r : List (Nat × TypeId)) :
  C4 f P xs ys ((o, ft) :: r) = (DH P ft (xs.drop o)).bind fun a => (DH P ft (ys.drop o)).bind fun b => (f ft a b).bind fun c => (C4 f P xs ys r).map fun e => c && e := by
 simp only [C4]
 cases DH P ft (xs.drop o) <;> cases DH P ft (ys.drop o) <;> rfl
theorem Ik : eqD P h 9999 t (.int k a) (.int k b) = if (kiD P t).isSome = true then some (a == b) else none := by simp [eqD]
theorem H4 (x y : List UInt8) : eqD P h 9999 t (.str x) (.str y) = if stD P t = true then some (x == y) else none := by simp [eqD]
theorem G0 (x y : Bool) : eqD P h 9999 t (.bool x) (.bool y) = if boD P t = true then some (x == y) else none := by simp [eqD]
theorem Ia (xs ys : List D) : eqD P h 9999 t (.agg xs) (.agg ys) = (sfD P t).bind fun fs => C4 (eqD P h 9998) P xs ys fs := Su P h t 9998 xs ys
theorem Hl : eqD P h 9998 t (.int k a) (.int k b) = if (kiD P t).isSome = true then some (a == b) else none := by simp [eqD]
theorem Hn (x y : List UInt8) : eqD P h 9998 t (.str x) (.str y) = if stD P t = true then some (x == y) else none := by simp [eqD]
theorem GC (x y : Bool) : eqD P h 9998 t (.bool x) (.bool y) = if boD P t = true then some (x == y) else none := by simp [eqD]
theorem TU (x y : List UInt8) : Fv .add x y = if x.length + y.length ≤ 9223372036854775807 then some (.str (x ++ y)) else none := rfl
theorem Tv (x y : List UInt8) : Fv .eql x y = some (.bool (x == y)) := rfl
theorem TJ (x y : List UInt8) : Fv .neq x y = some (.bool (!(x == y))) := rfl
theorem Uj (x y : List UInt8) : Fv .lss x y = some (.bool (Op.bytesLess x y)) := rfl
theorem Zq (x y : List UInt8) : Fv .leq x y = some (.bool (Op.bytesLess x y || x == y)) := rfl
theorem Uc (x y : List UInt8) : Fv .gtr x y = some (.bool (!(Op.bytesLess x y || x == y))) := rfl
theorem Zr (x y : List UInt8) : Fv .geq x y = some (.bool (!Op.bytesLess x y)) := rfl
theorem YO (R : D → Heap → Prop) (h5 : m ≠ 5) : Mh P m h t 0 [] R = match elD P t with
  | none => False
  | some (k, _, _) => Fd m k [] h h R := by
 simp only [Mh]
 cases elD P t with
 | none => rfl
 | some x =>
  obtain ⟨k, B, z⟩ := x
  simp [Fl, CO]
theorem Zk (d : D) (R : D → Heap → Prop) (h5 : m ≠ 5) : Mh P m h t 1 [(0, d)] R = match elD P t with
  | none => False
  | some (k, _, _) => k ≤ 16777216 ∧ d.lay = true ∧ d.cells.length = k ∧ Fd m k [d.cells] h h R := by
 simp only [Mh]
 cases he : elD P t with
 | none => rfl
 | some x =>
  obtain ⟨k, B, z⟩ := x
  obtain ⟨_, _, _, _, _, _, _, _, _, _, hz, _⟩ := Lg he
  simp only [Fl, Nat.zero_mul, Nat.zero_add, Nat.one_mul]
  refine propext ⟨fun ⟨h1, h2⟩ => ?_, fun ⟨h1, h2, h3, h4⟩ => ⟨h1, ?_⟩⟩
  ·split at h2
   ·rename_i cs hcs
    split at hcs
    ·rename_i hc
     injection hcs with hcs
     have hcs' : cs = d.cells := by rw [← hcs]; simp [Et, hc.2.1, hz]
     refine ⟨h1, hc.1, hc.2.1, ?_⟩
     rw [hcs'] at h2
     simpa [CO, hc.2.1, List.range_succ, List.take_of_length_le (Nat.le_of_eq hc.2.1)] using h2
    ·simp at hcs
   ·exact h2.elim
  ·have hc : d.lay = true ∧ d.cells.length = k ∧ k ≤ (List.replicate 1 z).flatten.length := ⟨h2, h3, by simp [hz]⟩
   have hp : Et (List.replicate 1 z).flatten 0 d.cells = d.cells := by simp [Et, h3, hz]
   rw [if_pos hc]
   simp only [hp]
   have hch : CO k 1 d.cells = [d.cells] := by simp [CO, ← h3, List.range_succ]
   rw [hch]; exact h4
theorem Xc : PL P t (.int k a) = (kiD P t == some k) := rfl
theorem X2 (x : List UInt8) : PL P t (.str x) = stD P t := rfl
theorem WQ (x : Bool) : PL P t (.bool x) = boD P t := rfl
theorem aU : unD .neg (.int k a) = some (.int k (k.wrap (0 - a))) := rfl
theorem X7 (x : Bool) : unD .not (.bool x) = some (.bool (!x)) := rfl
theorem YC (f : FloatKind) (x : Nat) : unD .neg (.float f x) = some (.float f (Op.negFloat f x)) := rfl
theorem ab (x : D) (R : D → Heap → Prop) : Ep P m .len [t] [x] h R = Ap (Jh P h t x) fun d => R d h := rfl
theorem Ut (u : TypeId) (s x : D) (R : D → Heap → Prop) : Ep P m .append [t, u] [s, x] h R = Fu P m h t u s x R := rfl
theorem Un (u : TypeId) (mp key : D) (R : D → Heap → Prop) : Ep P m .delete [t, u] [mp, key] h R = PD P h t mp key fun h' => R (.tup []) h' := rfl
theorem XW (ts : List TypeId) (x y : Int) (R : D → Heap → Prop) : Ep P m .min ts [.int k x, .int k' y] h R = R (.int k (if y < x then y else x)) h := by simp [Ep, Ma, UJ, Ap]
theorem ap (ts : List TypeId) (x y : Int) (R : D → Heap → Prop) : Ep P m .max ts [.int k x, .int k' y] h R = R (.int k (if y > x then y else x)) h := by simp [Ep, Ma, UJ, Ap]
theorem S7 (s : List UInt8) : Jh P h t (.str s) = if stD P t = true then some (.int .i64 s.length) else none := rfl
theorem NF : Jh P h t .snil = if (slD P t).isSome = true then some (.int .i64 0) else none := rfl
theorem OJ (n : Nat) (es : List (List D)) (r : Nat) : Jh P h t (.sl n es r) = if (slD P t).isSome = true then some (.int .i64 es.length) else none := rfl
theorem S1 (n id off l : Nat) : Jh P h t (.msl n id off l) = if (slD P t).isSome = true then some (.int .i64 l) else none := rfl
theorem UO (id : Nat) : Jh P h t (.mp id) = match P.underlying t, h id with | some (.map _ _), some (.map es _) => some (.int .i64 es.length) | _, _ => none := rfl
theorem Rd : Jh P h t .mnil = match P.underlying t with | some (.map _ _) => some (.int .i64 0) | _ => none := rfl
theorem Rk (n : Nat) (es : List (List D)) (h h' : Heap) (R : D → Heap → Prop) : Fd 0 n es h h' R = R (.sl n es 0) h' := rfl
theorem Yi (n : Nat) (es : List (List D)) (h h' : Heap) (R : D → Heap → Prop) : Fd 1 n es h h' R = ∀ i, h i = none → i ≠ 0 → R (.msl n i 0 es.length) (h'.upd i (some (.cells es.flatten))) := rfl
theorem NS (n : Nat) (es : List (List D)) (h h' : Heap) (R : D → Heap → Prop) : Fd 2 n es h h' R = ∀ r, h r = none → r ≠ 0 → R (.sl n es r) (h'.upd r (some .room)) := rfl
theorem TV (h : Heap) (cs : List D) (R : D → Heap → Prop) : Nw 0 h cs R = R (.iptr cs) h := rfl
theorem Qk (h : Heap) (cs : List D) (R : D → Heap → Prop) : Nw 1 h cs R = ∀ i, h i = none → i ≠ 0 → R (.ptr i 0) (h.upd i (some (.cells cs))) := rfl
theorem La (cs : List D) : DH P t cs = match agD P t, szD P t with
 | some true, some n => if n ≤ cs.length then some (.agg (cs.take n)) else none
 | some false, some _ => match cs with | d :: _ => some d | [] => none
 | _, _ => none := rfl
theorem YG (cs : List D) : I0 P h t (.iptr cs) = DH P t cs := rfl
theorem HF (id off : Nat) : I0 P h t (.ptr id off) = match h id with | some (.cells cs) => DH P t (cs.drop off) | some (.bytes cs) => DH P t (cs.drop off) | _ => none := by
 simp only [I0, JR]
 cases h id with
 | none => rfl
 | some x => cases x <;> rfl
theorem N4 (i : Int) (n : Nat) (es : List (List D)) (r : Nat) : Dv P t (.sl n es r) (.int k i) = if ((slD P t).bind (szD P)) = some n ∧ 0 ≤ i ∧ i < es.length then some (.iptr (es.getD i.toNat [])) else none := by
 simp only [Dv]; cases slD P t <;> simp
theorem VZ (i : Int) (n id off l : Nat) : Dv P t (.msl n id off l) (.int k i) = if ((slD P t).bind (szD P)) = some n ∧ 0 ≤ i ∧ i < l then some (.ptr id (off + i.toNat * n)) else none := by
 simp only [Dv]; cases slD P t <;> simp
theorem Uv (i : Int) (id off : Nat) : Dv P t (.ptr id off) (.int k i) = match arD P t with | some (n, e) => (match szD P e with | some q => if 0 ≤ i ∧ i < n then some (.ptr id (off + i.toNat * q)) else none | none => none) | none => none := rfl
theorem Ti (i : Int) (cs : List D) : Dv P t (.iptr cs) (.int k i) = match arD P t with | some (n, e) => (match szD P e with | some q => if 0 ≤ i ∧ i < n then (if i.toNat * q ≤ cs.length then some (.iptr (cs.drop (i.toNat * q))) else none) else none | none => none) | none => none := rfl
theorem O6 (i : Int) (s : List UInt8) : LQ P t (.str s) (.int k i) = if stD P t = true ∧ 0 ≤ i ∧ i < s.length then some (Gf (s.getD i.toNat 0)) else none := rfl
theorem UU (i : Int) (cs : List D) : LQ P t (.agg cs) (.int k i) = match arD P t with | some (n, e) => (match szD P e with | some q => if 0 ≤ i ∧ i < n then DH P e (cs.drop (i.toNat * q)) else none | none => none) | none => none := rfl
theorem Ty (f : Nat) (cs : List D) : Fb P t f (.iptr cs) = match fdD P t f with | some (o, ft) => if nz (szD P ft) = true then (if o ≤ cs.length then some (.iptr (cs.drop o)) else none) else none | none => none := by
 simp only [Fb]
 cases fdD P t f with
 | none => rfl
 | some x =>
  obtain ⟨o, ft⟩ := x
  cases hs : szD P ft with
  | none => simp [nz, hs]
  | some n => cases n <;> simp [nz, hs, OX]
theorem TD (f id off : Nat) : Fb P t f (.ptr id off) = match fdD P t f with | some (o, ft) => if nz (szD P ft) = true then some (.ptr id (off + o)) else none | none => none := by
 simp only [Fb]
 cases fdD P t f with
 | none => rfl
 | some x =>
  obtain ⟨o, ft⟩ := x
  cases hs : szD P ft with
  | none => simp [nz, hs]
  | some n => cases n <;> simp [nz, hs, OX]
theorem XE (f : Nat) (cs : List D) : Oa P t f (.agg cs) = match fdD P t f with | some (o, ft) => DH P ft (cs.drop o) | none => none := rfl
theorem X4 (id off : Nat) (x : D) (R : Heap → Prop) : Ky P h t (.ptr id off) x R = match h id with
 | some (.cells cs) => x.lay = true ∧ szD P t = some x.cells.length ∧ off + x.cells.length ≤ cs.length ∧ R (h.upd id (some (.cells (Et cs off x.cells))))
 | some (.bytes cs) => x.lay = true ∧ szD P t = some x.cells.length ∧ off + x.cells.length ≤ cs.length ∧ R (h.upd id (some (.bytes (Et cs off x.cells))))
 | _ => False := rfl
theorem Lt (s : TypeId) : Hr P h s t (.int k a) = match kiD P t with
  | some k' => if (P.underlying s).isSome = true then some (.int k' (k'.wrap a)) else none
  | none => match faD P t with
   | some f => if (P.underlying s).isSome = true then some (.float f (f.nearest a)) else none
   | none => if stD P t = true ∧ (P.underlying s).isSome = true then some (.str (Utf8.encode a).data.toList) else none := rfl
theorem Mg (s : TypeId) (x : List UInt8) : Hr P h s t (.str x) = if stD P t = true ∧ stD P s = true then some (.str x) else none := rfl
theorem QZ (s : TypeId) : Hr P h s t .snil = match slD P s with
  | some e => if kiD P e = some .u8 ∧ stD P t = true then some (.str []) else none
  | none => none := rfl
theorem M0 (s : TypeId) (n : Nat) (es : List (List D)) (r : Nat) : Hr P h s t (.sl n es r) = match slD P s with
  | some e => if kiD P e = some .u8 ∧ stD P t = true ∧ n = 1 then (bytesOf es).map .str else none
  | none => none := rfl
theorem KF (s : List UInt8) (lo hi : Option D) : Hm P t (.str s) lo hi = if stD P t = true then match Cw lo 0, Cw hi s.length with
   | some l, some h => if 0 ≤ l ∧ l ≤ h ∧ h ≤ s.length then some (.str ((s.drop l.toNat).take (h.toNat - l.toNat))) else none
   | _, _ => none
  else none := rfl
theorem L2 (n : Nat) (es : List (List D)) (r : Nat) (lo hi : Option D) : Hm P t (.sl n es r) lo hi = if ((slD P t).bind (szD P)) = some n then match Cw lo 0, Cw hi es.length with
   | some l, some h => if 0 ≤ l ∧ l ≤ h ∧ h ≤ es.length then some (.sl n ((es.drop l.toNat).take (h.toNat - l.toNat)) 0) else none
   | _, _ => none
  else none := by
 simp only [Hm]; cases slD P t <;> rfl
theorem Li (n id off l0 : Nat) (lo hi : Option D) : Hm P t (.msl n id off l0) lo hi = if ((slD P t).bind (szD P)) = some n then match Cw lo 0, Cw hi l0 with
   | some l, some h => if 0 ≤ l ∧ l ≤ h ∧ h ≤ l0 ∧ (l = 0 ∨ l < l0) then some (.msl n id (off + l.toNat * n) (h.toNat - l.toNat)) else if 0 ≤ l ∧ l = h ∧ h = l0 then some (.sl n [] 0) else none
   | _, _ => none
  else none := by
 simp only [Hm]; cases slD P t <;> rfl
end
end Go.Proofs.YtilhbalhkljanaaGreatDoor
