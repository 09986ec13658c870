/- Loops by what holds at each round's head; slices read as lists. No condition. -/
import Derived.Test.YtfokkdofcekdbaaGreatDoorEng13
set_option linter.unusedSimpArgs false
set_option linter.unusedVariables false
namespace Go.Proofs.YtfokkdofcekdbaaGreatDoor
def stepH (P : Program) (Γ : FuncId → Option (List D → Option D)) (md : Nat → Nat) (gd : Option Nat) (o : Oper) (s : St) (k : St → Prop) : Prop :=
 match o.guard with
 | none => effD P Γ (modeOf md o.dst) o.op (opD s.sl) s.h fun d h' => k ⟨putD s.sl o.dst d, h'⟩
 | some (_, want) => match (match gd with | some d => s.sl.getD d .any | none => .tup []) with
  | .bool b => if b = want then effD P Γ (modeOf md o.dst) o.op (opD s.sl) s.h fun d h' => k ⟨putD s.sl o.dst d, h'⟩ else k ⟨putD s.sl o.dst (.tup []), s.h⟩
  | .tup [] => k ⟨putD s.sl o.dst (.tup []), s.h⟩
  | _ => False
def gdOf (ops : Array Oper) : Option (Nat × Bool) → Option Nat
 | none => none
 | some (j, _) => (ops[j]?).bind (·.dst)
inductive WkL : List D → List D → Prop
 | nil : WkL [] []
 | cons {d e : D} {s t : List D} (h : e = d ∨ e = .any) (r : WkL s t) : WkL (d :: s) (e :: t)
theorem WkL.same {d : D} {s t : List D} (r : WkL s t) : WkL (d :: s) (d :: t) := .cons (.inl rfl) r
theorem WkL.any {d : D} {s t : List D} (r : WkL s t) : WkL (d :: s) (.any :: t) := .cons (.inr rfl) r
theorem WkL.eq {d e : D} {s t : List D} (r : WkL s t) (h : e = d) : WkL (d :: s) (e :: t) := .cons (.inl h) r
theorem WkL.length : ∀ {s t : List D}, WkL s t → s.length = t.length
 | _, _, .nil => rfl
 | _, _, .cons _ r => by simp [r.length]
theorem WkL.rel {K : Kn} : ∀ {s t : List D} (_ : WkL s t) (v : Nat → Value), (∀ i, VR K (v i) (s.getD i .any)) → ∀ i, VR K (v i) (t.getD i .any)
 | _, _, .nil, v, h, i => h i
 | _, _, .cons hd r, v, h, 0 => by
  have := h 0
  rcases hd with rfl | rfl
  ·exact this
  ·exact .any _
 | _, _, .cons hd r, v, h, i + 1 => r.rel (fun j => v (j + 1)) (fun j => h (j + 1)) i
theorem WkL.refl : ∀ (s : List D), WkL s s
 | [] => .nil
 | _ :: s => .same (WkL.refl s)
structure Wk (s t : St) : Prop where
 sl : WkL s.sl t.sl
 h : ∀ i, t.h i = s.h i ∨ t.h i = none
theorem Sim.weaken {K : Kn} {s t : St} {a : Act} {w : World} (S : Sim K s a w) (h : Wk s t) : Sim K t a w :=
 ⟨S.h.forget h.h, S.d, by rw [S.n, h.sl.length], h.sl.rel (fun i => a.tmps.getD i undef) S.v⟩
def SlD {α : Type} (k : Nat) (f : α → List D) (l : List α) (d : D) : Prop := (d = .snil ∧ l = []) ∨ ∃ r, d = .sl k (l.map f) r
theorem SlD.len {α : Type} {k : Nat} {f : α → List D} {l : List α} {d : D} (h : SlD k f l d) (P : Program) (hp : Heap) (t : TypeId) (ht : (slD P t).isSome = true) : lenD P hp t d = some (.int .i64 l.length) := by
 rcases h with ⟨rfl, rfl⟩ | ⟨r, rfl⟩
 ·rw [ev_len_nil, if_pos ht]; try rfl
 ·rw [ev_len_sl, if_pos ht, List.length_map]
theorem SlD.idx {α : Type} {k : Nat} {f : α → List D} {l : List α} {d : D} (h : SlD k f l d) (P : Program) (t : TypeId) (kk : IntKind) (i : Int) (hc : ((slD P t).bind (szD P)) = some k) :
  indexAddrD P t d (.int kk i) = if 0 ≤ i ∧ i < l.length then some (.iptr ((l.map f).getD i.toNat [])) else none := by
 obtain ⟨e, he, hs⟩ := Option.bind_eq_some_iff.1 hc
 rcases h with ⟨rfl, rfl⟩ | ⟨r, rfl⟩
 ·have ha : arD P t = none := by simp [arD, und_slD he]
  have : ¬ (0 ≤ i ∧ i < (([] : List α).length : Int)) := by simp only [List.length_nil]; omega
  rw [if_neg this]
  simp [indexAddrD, ha]
 ·rw [ev_ix_sl P t kk i k _ r, List.length_map, hc]; simp only [true_and]
theorem SlD.at {α : Type} {f : α → List D} {l : List α} {i : Nat} (x : α) (h : l[i]? = some x) : (l.map f).getD i [] = f x := by simp [List.getD, h]
theorem SlD.src {α : Type} {k : Nat} {f : α → List D} {l : List α} {d : D} (h : SlD k f l d) (hp : Heap) : srcD hp k d = some (l.map f) := by
 rcases h with ⟨rfl, rfl⟩ | ⟨r, rfl⟩
 ·rfl
 ·simp [srcD]
theorem wrap64 {n : Int} (h1 : -9223372036854775808 ≤ n) (h2 : n ≤ 9223372036854775807) : IntKind.i64.wrap n = n := by rw [IntKind.wrap_i64]; omega
theorem ev_b2_bool {P : Program} {h : Heap} {op : BinOp} {t : TypeId} {y : D} {q : Operand} (b : Bool) : bin2D P h op t (.bool b) y q = binD P h op t (.bool b) y := rfl
theorem ev_b2_int {P : Program} {h : Heap} {op : BinOp} {t : TypeId} {y : D} {q : Operand} (k : IntKind) (a : Int) : bin2D P h op t (.int k a) y q = binD P h op t (.int k a) y := rfl
theorem ev_b2_float {P : Program} {h : Heap} {op : BinOp} {t : TypeId} {y : D} {q : Operand} (k : FloatKind) (a : Nat) : bin2D P h op t (.float k a) y q = binD P h op t (.float k a) y := rfl
theorem ev_b2_cplx {P : Program} {h : Heap} {op : BinOp} {t : TypeId} {y : D} {q : Operand} (k : FloatKind) (a b : Nat) : bin2D P h op t (.cplx k a b) y q = binD P h op t (.cplx k a b) y := rfl
theorem ev_b2_str {P : Program} {h : Heap} {op : BinOp} {t : TypeId} {y : D} {q : Operand} (s : List UInt8) : bin2D P h op t (.str s) y q = binD P h op t (.str s) y := rfl
theorem ev_b2_nilp {P : Program} {h : Heap} {op : BinOp} {t : TypeId} {y : D} {q : Operand}  : bin2D P h op t (.nilp) y q = binD P h op t (.nilp) y := rfl
theorem ev_b2_ptr {P : Program} {h : Heap} {op : BinOp} {t : TypeId} {y : D} {q : Operand} (i o : Nat) : bin2D P h op t (.ptr i o) y q = binD P h op t (.ptr i o) y := rfl
theorem ev_b2_iptr {P : Program} {h : Heap} {op : BinOp} {t : TypeId} {y : D} {q : Operand} (cs : List D) : bin2D P h op t (.iptr cs) y q = binD P h op t (.iptr cs) y := rfl
theorem ev_b2_snil {P : Program} {h : Heap} {op : BinOp} {t : TypeId} {y : D} {q : Operand}  : bin2D P h op t (.snil) y q = binD P h op t (.snil) y := rfl
theorem ev_b2_sl {P : Program} {h : Heap} {op : BinOp} {t : TypeId} {y : D} {q : Operand} (k : Nat) (es : List (List D)) (r : Nat) : bin2D P h op t (.sl k es r) y q = binD P h op t (.sl k es r) y := rfl
theorem ev_b2_agg {P : Program} {h : Heap} {op : BinOp} {t : TypeId} {y : D} {q : Operand} (cs : List D) : bin2D P h op t (.agg cs) y q = binD P h op t (.agg cs) y := rfl
set_option linter.defProp false in
def EV2 := And.intro @ev_b2_bool (And.intro @ev_b2_int (And.intro @ev_b2_float (And.intro @ev_b2_cplx (And.intro @ev_b2_str (And.intro @ev_b2_nilp (And.intro @ev_b2_ptr (And.intro @ev_b2_iptr (And.intro @ev_b2_snil (And.intro @ev_b2_sl (@ev_b2_agg))))))))))
set_option linter.defProp false in
def EVB := And.intro @loadM0 (And.intro @OptP_some (And.intro @OptP_none (And.intro @OptP_ite (And.intro @OptP_map (And.intro @OptP_bind (And.intro @ev_lit0 (And.intro @ev_lit1 (And.intro @ev_key_i (And.intro @ev_key_s (And.intro @ev_key_b (And.intro @nz_some (And.intro @List.getD_cons_zero.{0} (And.intro @List.getD_cons_succ.{0} (And.intro @List.set_cons_zero.{0} (And.intro @List.set_cons_succ.{0} (And.intro @List.map_cons.{0,0} (And.intro @List.map_nil.{0,0} (And.intro @List.toList_toArray.{0} (And.intro @List.take_succ_cons.{0} (And.intro @List.take_zero.{0} (And.intro @List.drop_zero.{0} (And.intro @List.drop_succ_cons.{0} (And.intro @List.length_cons.{0} (And.intro @List.length_nil.{0} (And.intro @List.append_nil.{0} (And.intro @List.nil_append.{0} (And.intro @List.cons_append.{0} (And.intro @Option.bind_some.{0,0} (And.intro @Option.bind_none.{0,0} (And.intro @Option.map_some.{0,0} (And.intro @Option.map_none.{0,0} (And.intro @List.getElem?_cons_zero.{0} (And.intro @List.getElem?_cons_succ.{0} (And.intro @List.getElem?_toArray.{0} (And.intro @Nat.zero_add (And.intro @Nat.add_zero (((And.intro @true_and (And.intro @and_true (And.intro @Option.isSome_some.{0} (And.intro @Option.isSome_none.{0} (And.intro @Bool.false_eq_true (And.intro @List.mapM_cons.{0,0,0} (And.intro @List.mapM_nil.{0,0,0} (And.intro @Option.pure_def.{0} (And.intro @Option.bind_eq_bind.{0} (And.intro @Heap.upd_same (And.intro @Option.some.injEq.{0} (And.intro @bne_iff_ne.{0} (And.intro @beq_iff_eq.{0} (And.intro @decide_eq_true_eq ((And.intro @not_true_eq_false (And.intro @not_false_eq_true (And.intro @Bool.not_eq_true' (And.intro @Bool.not_eq_false' (And.intro @Bool.not_true (And.intro @Bool.not_false (And.intro @bne_self_eq_false.{0} (And.intro @beq_self_eq_true.{0} (And.intro @D.bool.injEq (And.intro @decide_eq_false_iff_not (And.intro @List.length_map.{0,0} (And.intro @ev_add (And.intro @ev_sub (And.intro @ev_mul (And.intro @ev_quo (And.intro @ev_rem (And.intro @ev_and (And.intro @ev_or (And.intro @ev_xor (And.intro @ev_andNot (And.intro @ev_eql (And.intro @ev_neq (And.intro @ev_lss (And.intro @ev_leq (And.intro @ev_gtr (And.intro @ev_geq (And.intro @ev_shl (And.intro @ev_shr (And.intro @ev_str (And.intro @ev_float (And.intro @ev_eql_bool (And.intro @ev_neq_bool (And.intro @ev_eql_nn (And.intro @ev_neq_nn (And.intro @ev_eql_pn (And.intro @ev_neq_pn (And.intro @ev_eql_in (And.intro @ev_neq_in (And.intro @ev_eql_np (And.intro @ev_neq_np (And.intro @ev_eql_pp (And.intro @ev_neq_pp (And.intro @ev_eql_ss (And.intro @ev_neq_ss (And.intro @ev_eql_ls (And.intro @ev_neq_ls (And.intro @ev_eql_agg (And.intro @ev_neq_agg (And.intro @ev_eqF_nil (And.intro @ev_eqF_cons (And.intro @ev_eq_int (And.intro @ev_eq_str (And.intro @ev_eq_bool (And.intro @ev_eq_agg (And.intro @ev_eq_int2 (And.intro @ev_eq_str2 (And.intro @ev_eq_bool2 (And.intro @ev_sadd (And.intro @ev_seql (And.intro @ev_sneq (And.intro @ev_slss (And.intro @ev_sleq (And.intro @ev_sgtr (And.intro @ev_sgeq (And.intro @ev_neg (And.intro @ev_not (And.intro @ev_fneg (And.intro @ev_len (And.intro @ev_append (And.intro @ev_delete (And.intro @ev_min (And.intro @ev_max (And.intro @ev_len_str (And.intro @ev_len_nil (And.intro @ev_len_sl (And.intro @ev_len_msl (And.intro @ev_len_mp (And.intro @ev_len_mnil (And.intro @ev_grow0 (And.intro @ev_grow1 (And.intro @ev_grow2 (And.intro @ev_box0 (And.intro @ev_box1 (And.intro @ev_part (And.intro @ev_load (And.intro @ev_load_ptr (And.intro @ev_ix_sl (And.intro @ev_ix_msl (And.intro @ev_ix_arr (And.intro @ev_ix_iarr (And.intro @ev_ix_str (And.intro @ev_ix_agg (And.intro @ev_fa_i (And.intro @ev_fa_p (And.intro @ev_field (And.intro @ev_store (And.intro @ev_conv_i (And.intro @ev_conv_str (And.intro @ev_conv_nil (And.intro @ev_conv_sl (And.intro @ev_slice_str (And.intro @ev_slice_sl (@ev_slice_msl))))))))))))))))))))))))))))))))))))))))))))))))))))))))))))))))))))))))))))))))))))))))))))))))))))))))))))))))))))))))))))))))))))))))))))))))))))))))))))
end Go.Proofs.YtfokkdofcekdbaaGreatDoor
