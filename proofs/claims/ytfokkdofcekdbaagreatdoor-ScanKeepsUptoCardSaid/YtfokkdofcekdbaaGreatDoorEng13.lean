/- The abstract machine's equations, one by one, for simp. No condition. -/
import Derived.Test.YtfokkdofcekdbaaGreatDoorEng12
set_option linter.unusedSimpArgs false
set_option linter.unusedVariables false
namespace Go.Proofs.YtfokkdofcekdbaaGreatDoor
section
variable (P : Program) (h : Heap) (t : TypeId) (k k' : IntKind) (a b : Int) (m : Nat)
theorem ev_add : binD P h .add t (.int k a) (.int k b) = some (.int k (k.wrap (a + b))) := by simp [binD, intBinD]
theorem ev_sub : binD P h .sub t (.int k a) (.int k b) = some (.int k (k.wrap (a - b))) := by simp [binD, intBinD]
theorem ev_mul : binD P h .mul t (.int k a) (.int k b) = some (.int k (k.wrap (a * b))) := by simp [binD, intBinD]
theorem ev_quo : binD P h .quo t (.int k a) (.int k b) = if b = 0 then none else some (.int k (k.wrap (a.tdiv b))) := by simp [binD, intBinD]
theorem ev_rem : binD P h .rem t (.int k a) (.int k b) = if b = 0 then none else some (.int k (a.tmod b)) := by simp [binD, intBinD]
theorem ev_and : binD P h .and t (.int k a) (.int k b) = some (.int k (k.wrap (BitVec.ofInt k.bits a &&& BitVec.ofInt k.bits b).toNat)) := by simp only [binD, if_true]; rfl
theorem ev_or : binD P h .or t (.int k a) (.int k b) = some (.int k (k.wrap (BitVec.ofInt k.bits a ||| BitVec.ofInt k.bits b).toNat)) := by simp only [binD, if_true]; rfl
theorem ev_xor : binD P h .xor t (.int k a) (.int k b) = some (.int k (k.wrap (BitVec.ofInt k.bits a ^^^ BitVec.ofInt k.bits b).toNat)) := by simp only [binD, if_true]; rfl
theorem ev_andNot : binD P h .andNot t (.int k a) (.int k b) = some (.int k (k.wrap (BitVec.ofInt k.bits a &&& ~~~(BitVec.ofInt k.bits b)).toNat)) := by simp only [binD, if_true]; rfl
theorem ev_eql : binD P h .eql t (.int k a) (.int k b) = some (.bool (a == b)) := by simp [binD, intBinD]
theorem ev_neq : binD P h .neq t (.int k a) (.int k b) = some (.bool (a != b)) := by simp [binD, intBinD]
theorem ev_lss : binD P h .lss t (.int k a) (.int k b) = some (.bool (decide (a < b))) := by simp [binD, intBinD]
theorem ev_leq : binD P h .leq t (.int k a) (.int k b) = some (.bool (decide (a ≤ b))) := by simp [binD, intBinD]
theorem ev_gtr : binD P h .gtr t (.int k a) (.int k b) = some (.bool (decide (b < a))) := by simp [binD, intBinD]
theorem ev_geq : binD P h .geq t (.int k a) (.int k b) = some (.bool (decide (b ≤ a))) := by simp [binD, intBinD]
theorem ev_shl : binD P h .shl t (.int k a) (.int k' b) = if b < 0 then none else some (.int k (k.wrap (a * 2 ^ (min b.toNat k.bits)))) := by simp [binD]
theorem ev_shr : binD P h .shr t (.int k a) (.int k' b) = if b < 0 then none else some (.int k (a.fdiv (2 ^ (min b.toNat k.bits)))) := by simp [binD]
theorem ev_str (op : BinOp) (x y : List UInt8) : binD P h op t (.str x) (.str y) = strBinD op x y := by simp [binD]
theorem ev_float (op : BinOp) (f : FloatKind) (x y : Nat) : binD P h op t (.float f x) (.float f y) = floatBinD op f x y := by simp [binD]
theorem ev_eql_bool (x y : Bool) : binD P h .eql t (.bool x) (.bool y) = if boD P t = true then some (.bool (x == y)) else none := by
 simp [binD, quietEq, eqD]; try (split <;> simp)
theorem ev_neq_bool (x y : Bool) : binD P h .neq t (.bool x) (.bool y) = if boD P t = true then some (.bool (!(x == y))) else none := by
 simp [binD, quietEq, eqD]; try (split <;> simp)
def isPtr : D → Bool
 | .nilp | .ptr _ _ | .iptr _ => true
 | _ => false
theorem ev_eql_nn : binD P h .eql t .nilp .nilp = if (ptD P t).isSome = true then some (.bool true) else none := by simp [binD, quietEq, eqD]; try (split <;> simp)
theorem ev_neq_nn : binD P h .neq t .nilp .nilp = if (ptD P t).isSome = true then some (.bool false) else none := by simp [binD, quietEq, eqD]; try (split <;> simp)
theorem ev_eql_pn (i o : Nat) : binD P h .eql t (.ptr i o) .nilp = if (ptD P t).isSome = true then some (.bool false) else none := by simp [binD, quietEq, eqD]; try (split <;> simp)
theorem ev_neq_pn (i o : Nat) : binD P h .neq t (.ptr i o) .nilp = if (ptD P t).isSome = true then some (.bool true) else none := by simp [binD, quietEq, eqD]; try (split <;> simp)
theorem ev_eql_in (cs : List D) : binD P h .eql t (.iptr cs) .nilp = if (ptD P t).isSome = true then some (.bool false) else none := by simp [binD, quietEq, eqD]; try (split <;> simp)
theorem ev_neq_in (cs : List D) : binD P h .neq t (.iptr cs) .nilp = if (ptD P t).isSome = true then some (.bool true) else none := by simp [binD, quietEq, eqD]; try (split <;> simp)
theorem ev_eql_np (i o : Nat) : binD P h .eql t .nilp (.ptr i o) = if (ptD P t).isSome = true then some (.bool false) else none := by simp [binD, quietEq, eqD]; try (split <;> simp)
theorem ev_neq_np (i o : Nat) : binD P h .neq t .nilp (.ptr i o) = if (ptD P t).isSome = true then some (.bool true) else none := by simp [binD, quietEq, eqD]; try (split <;> simp)
def nz : Option Nat → Bool
 | some n => n != 0
 | none => false
theorem nz_some (n : Nat) : nz (some n) = (n != 0) := rfl
theorem ev_eql_pp (i o j p : Nat) : binD P h .eql t (.ptr i o) (.ptr j p) = if nz ((ptD P t).bind (szD P)) = true then (if i = j then some (.bool (o == p)) else if liveD h i = true ∧ liveD h j = true then some (.bool false) else none) else none := by
 simp only [binD, quietEq, if_true, eqD]
 cases he : ptD P t with
 | none => simp [nz]
 | some e =>
  cases hs : szD P e with
  | none => simp [nz, hs]
  | some n => cases n with
   | zero => simp [nz, hs]
   | succ n =>
    have hn : (n + 1 != 0) = true := by simp
    simp only [hs, Option.bind_some, nz, hn, if_true]
    split <;> (try split) <;> simp
theorem ev_neq_pp (i o j p : Nat) : binD P h .neq t (.ptr i o) (.ptr j p) = if nz ((ptD P t).bind (szD P)) = true then (if i = j then some (.bool (!(o == p))) else if liveD h i = true ∧ liveD h j = true then some (.bool true) else none) else none := by
 simp only [binD, quietEq, if_true, eqD]
 cases he : ptD P t with
 | none => simp [nz]
 | some e =>
  cases hs : szD P e with
  | none => simp [nz, hs]
  | some n => cases n with
   | zero => simp [nz, hs]
   | succ n =>
    have hn : (n + 1 != 0) = true := by simp
    simp only [hs, Option.bind_some, nz, hn, if_true]
    split <;> (try split) <;> simp
theorem ev_eql_ss : binD P h .eql t .snil .snil = if (slD P t).isSome = true then some (.bool true) else none := by simp [binD, quietEq, eqD]; try (split <;> simp)
theorem ev_neq_ss : binD P h .neq t .snil .snil = if (slD P t).isSome = true then some (.bool false) else none := by simp [binD, quietEq, eqD]; try (split <;> simp)
theorem ev_eql_ls (n : Nat) (es : List (List D)) (r : Nat) : binD P h .eql t (.sl n es r) .snil = if (slD P t).isSome = true ∧ es ≠ [] then some (.bool false) else none := by simp [binD, quietEq, eqD]; try (split <;> simp_all)
theorem ev_neq_ls (n : Nat) (es : List (List D)) (r : Nat) : binD P h .neq t (.sl n es r) .snil = if (slD P t).isSome = true ∧ es ≠ [] then some (.bool true) else none := by simp [binD, quietEq, eqD]; try (split <;> simp_all)
theorem eq_agg (n : Nat) (xs ys : List D) : eqD P h (n + 1) t (.agg xs) (.agg ys) = (sfD P t).bind fun fs => eqFieldsD (eqD P h n) P xs ys fs := by
 show (match sfD P t with | some fs => eqFieldsD (eqD P h n) P xs ys fs | none => none) = _
 cases sfD P t <;> rfl
theorem ev_eql_agg (xs ys : List D) : binD P h .eql t (.agg xs) (.agg ys) = if P.eqGuardType P.depth t = false then ((sfD P t).bind fun fs => eqFieldsD (eqD P h 9999) P xs ys fs).map .bool else none := by
 rw [← eq_agg P h t 9999]
 show (if (!P.eqGuardType P.depth t) = true then (eqD P h 10000 t (.agg xs) (.agg ys)).map D.bool else none) = _
 cases P.eqGuardType P.depth t <;> rfl
theorem ev_neq_agg (xs ys : List D) : binD P h .neq t (.agg xs) (.agg ys) = if P.eqGuardType P.depth t = false then ((sfD P t).bind fun fs => eqFieldsD (eqD P h 9999) P xs ys fs).map fun b => .bool (!b) else none := by
 rw [← eq_agg P h t 9999]
 show (if (!P.eqGuardType P.depth t) = true then (eqD P h 10000 t (.agg xs) (.agg ys)).map (fun b => D.bool (!b)) else none) = _
 cases P.eqGuardType P.depth t <;> rfl
theorem ev_eqF_nil (f : TypeId → D → D → Option Bool) (xs ys : List D) : eqFieldsD f P xs ys [] = some true := rfl
theorem ev_eqF_cons (f : TypeId → D → D → Option Bool) (xs ys : List D) (o : Nat) (ft : TypeId) (r : List (Nat × TypeId)) :
  eqFieldsD f P xs ys ((o, ft) :: r) = (partD P ft (xs.drop o)).bind fun a => (partD P ft (ys.drop o)).bind fun b => (f ft a b).bind fun c => (eqFieldsD f P xs ys r).map fun e => c && e := by
 simp only [eqFieldsD]
 cases partD P ft (xs.drop o) <;> cases partD P ft (ys.drop o) <;> rfl
theorem ev_eq_int : eqD P h 9999 t (.int k a) (.int k b) = if (kiD P t).isSome = true then some (a == b) else none := by simp [eqD]
theorem ev_eq_str (x y : List UInt8) : eqD P h 9999 t (.str x) (.str y) = if stD P t = true then some (x == y) else none := by simp [eqD]
theorem ev_eq_bool (x y : Bool) : eqD P h 9999 t (.bool x) (.bool y) = if boD P t = true then some (x == y) else none := by simp [eqD]
theorem ev_eq_agg (xs ys : List D) : eqD P h 9999 t (.agg xs) (.agg ys) = (sfD P t).bind fun fs => eqFieldsD (eqD P h 9998) P xs ys fs := eq_agg P h t 9998 xs ys
theorem ev_eq_int2 : eqD P h 9998 t (.int k a) (.int k b) = if (kiD P t).isSome = true then some (a == b) else none := by simp [eqD]
theorem ev_eq_str2 (x y : List UInt8) : eqD P h 9998 t (.str x) (.str y) = if stD P t = true then some (x == y) else none := by simp [eqD]
theorem ev_eq_bool2 (x y : Bool) : eqD P h 9998 t (.bool x) (.bool y) = if boD P t = true then some (x == y) else none := by simp [eqD]
theorem ev_sadd (x y : List UInt8) : strBinD .add x y = if x.length + y.length ≤ 9223372036854775807 then some (.str (x ++ y)) else none := rfl
theorem ev_seql (x y : List UInt8) : strBinD .eql x y = some (.bool (x == y)) := rfl
theorem ev_sneq (x y : List UInt8) : strBinD .neq x y = some (.bool (!(x == y))) := rfl
theorem ev_slss (x y : List UInt8) : strBinD .lss x y = some (.bool (Op.bytesLess x y)) := rfl
theorem ev_sleq (x y : List UInt8) : strBinD .leq x y = some (.bool (Op.bytesLess x y || x == y)) := rfl
theorem ev_sgtr (x y : List UInt8) : strBinD .gtr x y = some (.bool (!(Op.bytesLess x y || x == y))) := rfl
theorem ev_sgeq (x y : List UInt8) : strBinD .geq x y = some (.bool (!Op.bytesLess x y)) := rfl
theorem ev_lit0 (R : D → Heap → Prop) (h5 : m ≠ 5) : litD P m h t 0 [] R = match elD P t with
  | none => False
  | some (k, _, _) => growD m k [] h h R := by
 simp only [litD]
 cases elD P t with
 | none => rfl
 | some x =>
  obtain ⟨k, B, z⟩ := x
  simp [fillD, chunks]
theorem ev_lit1 (d : D) (R : D → Heap → Prop) (h5 : m ≠ 5) : litD P m h t 1 [(0, d)] R = match elD P t with
  | none => False
  | some (k, _, _) => k ≤ 16777216 ∧ d.lay = true ∧ d.cells.length = k ∧ growD m k [d.cells] h h R := by
 simp only [litD]
 cases he : elD P t with
 | none => rfl
 | some x =>
  obtain ⟨k, B, z⟩ := x
  obtain ⟨_, _, _, _, _, _, _, _, _, _, hz, _⟩ := elD_spec he
  simp only [fillD, Nat.zero_mul, Nat.zero_add, Nat.one_mul]
  refine propext ⟨fun ⟨h1, h2⟩ => ?_, fun ⟨h1, h2, h3, h4⟩ => ⟨h1, ?_⟩⟩
  ·split at h2
   ·rename_i cs hcs
    split at hcs
    ·rename_i hc
     injection hcs with hcs
     have hcs' : cs = d.cells := by rw [← hcs]; simp [putAt, hc.2.1, hz]
     refine ⟨h1, hc.1, hc.2.1, ?_⟩
     rw [hcs'] at h2
     simpa [chunks, hc.2.1, List.range_succ, List.take_of_length_le (Nat.le_of_eq hc.2.1)] using h2
    ·simp at hcs
   ·exact h2.elim
  ·have hc : d.lay = true ∧ d.cells.length = k ∧ k ≤ (List.replicate 1 z).flatten.length := ⟨h2, h3, by simp [hz]⟩
   have hp : putAt (List.replicate 1 z).flatten 0 d.cells = d.cells := by simp [putAt, h3, hz]
   rw [if_pos hc]
   simp only [hp]
   have hch : chunks k 1 d.cells = [d.cells] := by simp [chunks, ← h3, List.range_succ]
   rw [hch]; exact h4
theorem ev_key_i : isKeyD P t (.int k a) = (kiD P t == some k) := rfl
theorem ev_key_s (x : List UInt8) : isKeyD P t (.str x) = stD P t := rfl
theorem ev_key_b (x : Bool) : isKeyD P t (.bool x) = boD P t := rfl
theorem ev_neg : unD .neg (.int k a) = some (.int k (k.wrap (0 - a))) := rfl
theorem ev_not (x : Bool) : unD .not (.bool x) = some (.bool (!x)) := rfl
theorem ev_fneg (f : FloatKind) (x : Nat) : unD .neg (.float f x) = some (.float f (Op.negFloat f x)) := rfl
theorem ev_len (x : D) (R : D → Heap → Prop) : builtD P m .len [t] [x] h R = OptP (lenD P h t x) fun d => R d h := rfl
theorem ev_append (u : TypeId) (s x : D) (R : D → Heap → Prop) : builtD P m .append [t, u] [s, x] h R = appendD P m h t u s x R := rfl
theorem ev_delete (u : TypeId) (mp key : D) (R : D → Heap → Prop) : builtD P m .delete [t, u] [mp, key] h R = mapDelD P h t mp key fun h' => R (.tup []) h' := rfl
theorem ev_min (ts : List TypeId) (x y : Int) (R : D → Heap → Prop) : builtD P m .min ts [.int k x, .int k' y] h R = R (.int k (if y < x then y else x)) h := by simp [builtD, miscD, minD, OptP]
theorem ev_max (ts : List TypeId) (x y : Int) (R : D → Heap → Prop) : builtD P m .max ts [.int k x, .int k' y] h R = R (.int k (if y > x then y else x)) h := by simp [builtD, miscD, minD, OptP]
theorem ev_len_str (s : List UInt8) : lenD P h t (.str s) = if stD P t = true then some (.int .i64 s.length) else none := rfl
theorem ev_len_nil : lenD P h t .snil = if (slD P t).isSome = true then some (.int .i64 0) else none := rfl
theorem ev_len_sl (n : Nat) (es : List (List D)) (r : Nat) : lenD P h t (.sl n es r) = if (slD P t).isSome = true then some (.int .i64 es.length) else none := rfl
theorem ev_len_msl (n id off l : Nat) : lenD P h t (.msl n id off l) = if (slD P t).isSome = true then some (.int .i64 l) else none := rfl
theorem ev_len_mp (id : Nat) : lenD P h t (.mp id) = match P.underlying t, h id with | some (.map _ _), some (.map es _) => some (.int .i64 es.length) | _, _ => none := rfl
theorem ev_len_mnil : lenD P h t .mnil = match P.underlying t with | some (.map _ _) => some (.int .i64 0) | _ => none := rfl
theorem ev_grow0 (n : Nat) (es : List (List D)) (h h' : Heap) (R : D → Heap → Prop) : growD 0 n es h h' R = R (.sl n es 0) h' := rfl
theorem ev_grow1 (n : Nat) (es : List (List D)) (h h' : Heap) (R : D → Heap → Prop) : growD 1 n es h h' R = ∀ i, h i = none → i ≠ 0 → R (.msl n i 0 es.length) (h'.upd i (some (.cells es.flatten))) := rfl
theorem ev_grow2 (n : Nat) (es : List (List D)) (h h' : Heap) (R : D → Heap → Prop) : growD 2 n es h h' R = ∀ r, h r = none → r ≠ 0 → R (.sl n es r) (h'.upd r (some .room)) := rfl
theorem ev_box0 (h : Heap) (cs : List D) (R : D → Heap → Prop) : boxD 0 h cs R = R (.iptr cs) h := rfl
theorem ev_box1 (h : Heap) (cs : List D) (R : D → Heap → Prop) : boxD 1 h cs R = ∀ i, h i = none → i ≠ 0 → R (.ptr i 0) (h.upd i (some (.cells cs))) := rfl
theorem ev_part (cs : List D) : partD P t cs = match agD P t, szD P t with
 | some true, some n => if n ≤ cs.length then some (.agg (cs.take n)) else none
 | some false, some _ => match cs with | d :: _ => some d | [] => none
 | _, _ => none := rfl
theorem ev_load (cs : List D) : loadD P h t (.iptr cs) = partD P t cs := rfl
theorem ev_load_ptr (id off : Nat) : loadD P h t (.ptr id off) = match h id with | some (.cells cs) => partD P t (cs.drop off) | some (.bytes cs) => partD P t (cs.drop off) | _ => none := by
 simp only [loadD, cellsAt]
 cases h id with
 | none => rfl
 | some x => cases x <;> rfl
theorem ev_ix_sl (i : Int) (n : Nat) (es : List (List D)) (r : Nat) : indexAddrD P t (.sl n es r) (.int k i) = if ((slD P t).bind (szD P)) = some n ∧ 0 ≤ i ∧ i < es.length then some (.iptr (es.getD i.toNat [])) else none := by
 simp only [indexAddrD]; cases slD P t <;> simp
theorem ev_ix_msl (i : Int) (n id off l : Nat) : indexAddrD P t (.msl n id off l) (.int k i) = if ((slD P t).bind (szD P)) = some n ∧ 0 ≤ i ∧ i < l then some (.ptr id (off + i.toNat * n)) else none := by
 simp only [indexAddrD]; cases slD P t <;> simp
theorem ev_ix_arr (i : Int) (id off : Nat) : indexAddrD P t (.ptr id off) (.int k i) = match arD P t with | some (n, e) => (match szD P e with | some q => if 0 ≤ i ∧ i < n then some (.ptr id (off + i.toNat * q)) else none | none => none) | none => none := rfl
theorem ev_ix_iarr (i : Int) (cs : List D) : indexAddrD P t (.iptr cs) (.int k i) = match arD P t with | some (n, e) => (match szD P e with | some q => if 0 ≤ i ∧ i < n then (if i.toNat * q ≤ cs.length then some (.iptr (cs.drop (i.toNat * q))) else none) else none | none => none) | none => none := rfl
theorem ev_ix_str (i : Int) (s : List UInt8) : indexD P t (.str s) (.int k i) = if stD P t = true ∧ 0 ≤ i ∧ i < s.length then some (byteD (s.getD i.toNat 0)) else none := rfl
theorem ev_ix_agg (i : Int) (cs : List D) : indexD P t (.agg cs) (.int k i) = match arD P t with | some (n, e) => (match szD P e with | some q => if 0 ≤ i ∧ i < n then partD P e (cs.drop (i.toNat * q)) else none | none => none) | none => none := rfl
theorem ev_fa_i (f : Nat) (cs : List D) : fieldAddrD P t f (.iptr cs) = match fdD P t f with | some (o, ft) => if nz (szD P ft) = true then (if o ≤ cs.length then some (.iptr (cs.drop o)) else none) else none | none => none := by
 simp only [fieldAddrD]
 cases fdD P t f with
 | none => rfl
 | some x =>
  obtain ⟨o, ft⟩ := x
  cases hs : szD P ft with
  | none => simp [nz, hs]
  | some n => cases n <;> simp [nz, hs, moveD]
theorem ev_fa_p (f id off : Nat) : fieldAddrD P t f (.ptr id off) = match fdD P t f with | some (o, ft) => if nz (szD P ft) = true then some (.ptr id (off + o)) else none | none => none := by
 simp only [fieldAddrD]
 cases fdD P t f with
 | none => rfl
 | some x =>
  obtain ⟨o, ft⟩ := x
  cases hs : szD P ft with
  | none => simp [nz, hs]
  | some n => cases n <;> simp [nz, hs, moveD]
theorem ev_field (f : Nat) (cs : List D) : fieldD P t f (.agg cs) = match fdD P t f with | some (o, ft) => partD P ft (cs.drop o) | none => none := rfl
theorem ev_store (id off : Nat) (x : D) (R : Heap → Prop) : storeD P h t (.ptr id off) x R = match h id with
 | some (.cells cs) => x.lay = true ∧ szD P t = some x.cells.length ∧ off + x.cells.length ≤ cs.length ∧ R (h.upd id (some (.cells (putAt cs off x.cells))))
 | some (.bytes cs) => x.lay = true ∧ szD P t = some x.cells.length ∧ off + x.cells.length ≤ cs.length ∧ R (h.upd id (some (.bytes (putAt cs off x.cells))))
 | _ => False := rfl
theorem ev_conv_i (s : TypeId) : convD P h s t (.int k a) = match kiD P t with
  | some k' => if (P.underlying s).isSome = true then some (.int k' (k'.wrap a)) else none
  | none => match faD P t with
   | some f => if (P.underlying s).isSome = true then some (.float f (f.nearest a)) else none
   | none => if stD P t = true ∧ (P.underlying s).isSome = true then some (.str (Utf8.encode a).data.toList) else none := rfl
theorem ev_conv_str (s : TypeId) (x : List UInt8) : convD P h s t (.str x) = if stD P t = true ∧ stD P s = true then some (.str x) else none := rfl
theorem ev_conv_nil (s : TypeId) : convD P h s t .snil = match slD P s with
  | some e => if kiD P e = some .u8 ∧ stD P t = true then some (.str []) else none
  | none => none := rfl
theorem ev_conv_sl (s : TypeId) (n : Nat) (es : List (List D)) (r : Nat) : convD P h s t (.sl n es r) = match slD P s with
  | some e => if kiD P e = some .u8 ∧ stD P t = true ∧ n = 1 then (bytesOf es).map .str else none
  | none => none := rfl
theorem ev_slice_str (s : List UInt8) (lo hi : Option D) : sliceD P t (.str s) lo hi = if stD P t = true then match boundD lo 0, boundD hi s.length with
   | some l, some h => if 0 ≤ l ∧ l ≤ h ∧ h ≤ s.length then some (.str ((s.drop l.toNat).take (h.toNat - l.toNat))) else none
   | _, _ => none
  else none := rfl
theorem ev_slice_sl (n : Nat) (es : List (List D)) (r : Nat) (lo hi : Option D) : sliceD P t (.sl n es r) lo hi = if ((slD P t).bind (szD P)) = some n then match boundD lo 0, boundD hi es.length with
   | some l, some h => if 0 ≤ l ∧ l ≤ h ∧ h ≤ es.length then some (.sl n ((es.drop l.toNat).take (h.toNat - l.toNat)) 0) else none
   | _, _ => none
  else none := by
 simp only [sliceD]; cases slD P t <;> rfl
theorem ev_slice_msl (n id off l0 : Nat) (lo hi : Option D) : sliceD P t (.msl n id off l0) lo hi = if ((slD P t).bind (szD P)) = some n then match boundD lo 0, boundD hi l0 with
   | some l, some h => if 0 ≤ l ∧ l ≤ h ∧ h ≤ l0 ∧ (l = 0 ∨ l < l0) then some (.msl n id (off + l.toNat * n) (h.toNat - l.toNat)) else if 0 ≤ l ∧ l = h ∧ h = l0 then some (.sl n [] 0) else none
   | _, _ => none
  else none := by
 simp only [sliceD]; cases slD P t <;> rfl
end
end Go.Proofs.YtfokkdofcekdbaaGreatDoor
