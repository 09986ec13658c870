/- Loops by what holds at each round's head; slices read as lists. No condition. -/
import Derived.Test.YtilhbalhkljanaaGreatDoorEng13
set_option linter.unusedSimpArgs false
set_option linter.unusedVariables false
namespace Go.Proofs.YtilhbalhkljanaaGreatDoor
def fk (P : Program) (Γ : FuncId → Option (List D → Option D)) (md : Nat → Nat) (gd : Option Nat) (o : Oper) (s : St) (k : St → Prop) : Prop :=
 match o.guard with
 | none => Bq P Γ (B5 md o.dst) o.op (opD s.sl) s.h fun d h' => k ⟨DP s.sl o.dst d, h'⟩
 | some (_, want) => match (match gd with | some d => s.sl.getD d .any | none => .tup []) with
  | .bool b => if b = want then Bq P Γ (B5 md o.dst) o.op (opD s.sl) s.h fun d h' => k ⟨DP s.sl o.dst d, h'⟩ else k ⟨DP s.sl o.dst (.tup []), s.h⟩
  | .tup [] => k ⟨DP s.sl o.dst (.tup []), s.h⟩
  | _ => False
def fQ (ops : Array Oper) : Option (Nat × Bool) → Option Nat
 | none => none
 | some (j, _) => (ops[j]?).bind (·.dst)
inductive WkL : List D → List D → Prop
 | nil : WkL [] []
 | cons {d e : D} {s t : List D} (h : e = d ∨ e = .any) (r : WkL s t) : WkL (d :: s) (e :: t)
theorem WkL.same {d : D} {s t : List D} (r : WkL s t) : WkL (d :: s) (d :: t) := .cons (.inl rfl) r
theorem WkL.any {d : D} {s t : List D} (r : WkL s t) : WkL (d :: s) (.any :: t) := .cons (.inr rfl) r
theorem WkL.eq {d e : D} {s t : List D} (r : WkL s t) (h : e = d) : WkL (d :: s) (e :: t) := .cons (.inl h) r
theorem WkL.length : ∀ {s t : List D}, WkL s t → s.length = t.length
 | _, _, .nil => rfl
 | _, _, .cons _ r => by simp [r.length]
theorem WkL.rel {K : Kn} : ∀ {s t : List D} (_ : WkL s t) (v : Nat → Value), (∀ i, VR K (v i) (s.getD i .any)) → ∀ i, VR K (v i) (t.getD i .any)
 | _, _, .nil, v, h, i => h i
 | _, _, .cons hd r, v, h, 0 => by
  have := h 0
  rcases hd with rfl | rfl
  ·exact this
  ·exact .any _
 | _, _, .cons hd r, v, h, i + 1 => r.rel (fun j => v (j + 1)) (fun j => h (j + 1)) i
theorem WkL.refl : ∀ (s : List D), WkL s s
 | [] => .nil
 | _ :: s => .same (WkL.refl s)
structure Wk (s t : St) : Prop where
 sl : WkL s.sl t.sl
 h : ∀ i, t.h i = s.h i ∨ t.h i = none
theorem Sim.weaken {K : Kn} {s t : St} {a : Act} {w : World} (S : Sim K s a w) (h : Wk s t) : Sim K t a w :=
 ⟨S.h.forget h.h, S.d, by rw [S.n, h.sl.length], h.sl.rel (fun i => a.tmps.getD i undef) S.v⟩
def SlD {α : Type} (k : Nat) (f : α → List D) (l : List α) (d : D) : Prop := (d = .snil ∧ l = []) ∨ ∃ r, d = .sl k (l.map f) r
theorem SlD.len {α : Type} {k : Nat} {f : α → List D} {l : List α} {d : D} (h : SlD k f l d) (P : Program) (hp : Heap) (t : TypeId) (ht : (slD P t).isSome = true) : Jh P hp t d = some (.int .i64 l.length) := by
 rcases h with ⟨rfl, rfl⟩ | ⟨r, rfl⟩
 ·rw [NF, if_pos ht]; try rfl
 ·rw [OJ, if_pos ht, List.length_map]
theorem SlD.idx {α : Type} {k : Nat} {f : α → List D} {l : List α} {d : D} (h : SlD k f l d) (P : Program) (t : TypeId) (kk : IntKind) (i : Int) (hc : ((slD P t).bind (szD P)) = some k) :
  Dv P t d (.int kk i) = if 0 ≤ i ∧ i < l.length then some (.iptr ((l.map f).getD i.toNat [])) else none := by
 obtain ⟨e, he, hs⟩ := Option.bind_eq_some_iff.1 hc
 rcases h with ⟨rfl, rfl⟩ | ⟨r, rfl⟩
 ·have ha : arD P t = none := by simp [arD, CC he]
  have : ¬ (0 ≤ i ∧ i < (([] : List α).length : Int)) := by simp only [List.length_nil]; omega
  rw [if_neg this]
  simp [Dv, ha]
 ·rw [N4 P t kk i k _ r, List.length_map, hc]; simp only [true_and]
theorem SlD.at {α : Type} {f : α → List D} {l : List α} {i : Nat} (x : α) (h : l[i]? = some x) : (l.map f).getD i [] = f x := by simp [List.getD, h]
theorem SlD.src {α : Type} {k : Nat} {f : α → List D} {l : List α} {d : D} (h : SlD k f l d) (hp : Heap) : KZ hp k d = some (l.map f) := by
 rcases h with ⟨rfl, rfl⟩ | ⟨r, rfl⟩
 ·rfl
 ·simp [KZ]
theorem bu {n : Int} (h1 : -9223372036854775808 ≤ n) (h2 : n ≤ 9223372036854775807) : IntKind.i64.wrap n = n := by rw [IntKind.wrap_i64]; omega
theorem R9 {P : Program} {h : Heap} {op : BinOp} {t : TypeId} {y : D} {q : Operand} (b : Bool) : GB P h op t (.bool b) y q = BC P h op t (.bool b) y := rfl
theorem OV {P : Program} {h : Heap} {op : BinOp} {t : TypeId} {y : D} {q : Operand} (k : IntKind) (a : Int) : GB P h op t (.int k a) y q = BC P h op t (.int k a) y := rfl
theorem RS {P : Program} {h : Heap} {op : BinOp} {t : TypeId} {y : D} {q : Operand} (k : FloatKind) (a : Nat) : GB P h op t (.float k a) y q = BC P h op t (.float k a) y := rfl
theorem Tl {P : Program} {h : Heap} {op : BinOp} {t : TypeId} {y : D} {q : Operand} (k : FloatKind) (a b : Nat) : GB P h op t (.cplx k a b) y q = BC P h op t (.cplx k a b) y := rfl
theorem Pg {P : Program} {h : Heap} {op : BinOp} {t : TypeId} {y : D} {q : Operand} (s : List UInt8) : GB P h op t (.str s) y q = BC P h op t (.str s) y := rfl
theorem SI {P : Program} {h : Heap} {op : BinOp} {t : TypeId} {y : D} {q : Operand}  : GB P h op t (.nilp) y q = BC P h op t (.nilp) y := rfl
theorem VY {P : Program} {h : Heap} {op : BinOp} {t : TypeId} {y : D} {q : Operand} (i o : Nat) : GB P h op t (.ptr i o) y q = BC P h op t (.ptr i o) y := rfl
theorem SH {P : Program} {h : Heap} {op : BinOp} {t : TypeId} {y : D} {q : Operand} (cs : List D) : GB P h op t (.iptr cs) y q = BC P h op t (.iptr cs) y := rfl
theorem ST {P : Program} {h : Heap} {op : BinOp} {t : TypeId} {y : D} {q : Operand}  : GB P h op t (.snil) y q = BC P h op t (.snil) y := rfl
theorem XZ {P : Program} {h : Heap} {op : BinOp} {t : TypeId} {y : D} {q : Operand} (k : Nat) (es : List (List D)) (r : Nat) : GB P h op t (.sl k es r) y q = BC P h op t (.sl k es r) y := rfl
theorem VI {P : Program} {h : Heap} {op : BinOp} {t : TypeId} {y : D} {q : Operand} (cs : List D) : GB P h op t (.agg cs) y q = BC P h op t (.agg cs) y := rfl
set_option linter.defProp false in
def EV2 := And.intro @R9 (And.intro @OV (And.intro @RS (And.intro @Tl (And.intro @Pg (And.intro @SI (And.intro @VY (And.intro @SH (And.intro @ST (And.intro @XZ (@VI))))))))))
set_option linter.defProp false in
def EVB := And.intro @Tm (And.intro @Br (And.intro @GY (And.intro @W6 (And.intro @QA (And.intro @JG (And.intro @YO (And.intro @Zk (And.intro @Xc (And.intro @X2 (And.intro @WQ (And.intro @PJ (And.intro @List.getD_cons_zero.{0} (And.intro @List.getD_cons_succ.{0} (And.intro @List.set_cons_zero.{0} (And.intro @List.set_cons_succ.{0} (And.intro @List.map_cons.{0,0} (And.intro @List.map_nil.{0,0} (And.intro @List.toList_toArray.{0} (And.intro @List.take_succ_cons.{0} (And.intro @List.take_zero.{0} (And.intro @List.drop_zero.{0} (And.intro @List.drop_succ_cons.{0} (And.intro @List.length_cons.{0} (And.intro @List.length_nil.{0} (And.intro @List.append_nil.{0} (And.intro @List.nil_append.{0} (And.intro @List.cons_append.{0} (And.intro @Option.bind_some.{0,0} (And.intro @Option.bind_none.{0,0} (And.intro @Option.map_some.{0,0} (And.intro @Option.map_none.{0,0} (And.intro @List.getElem?_cons_zero.{0} (And.intro @List.getElem?_cons_succ.{0} (And.intro @List.getElem?_toArray.{0} (And.intro @Nat.zero_add (And.intro @Nat.add_zero (((And.intro @true_and (And.intro @and_true (And.intro @Option.isSome_some.{0} (And.intro @Option.isSome_none.{0} (And.intro @Bool.false_eq_true (And.intro @List.mapM_cons.{0,0,0} (And.intro @List.mapM_nil.{0,0,0} (And.intro @Option.pure_def.{0} (And.intro @Option.bind_eq_bind.{0} (And.intro @Heap.upd_same (And.intro @Option.some.injEq.{0} (And.intro @bne_iff_ne.{0} (And.intro @beq_iff_eq.{0} (And.intro @decide_eq_true_eq ((And.intro @not_true_eq_false (And.intro @not_false_eq_true (And.intro @Bool.not_eq_true' (And.intro @Bool.not_eq_false' (And.intro @Bool.not_true (And.intro @Bool.not_false (And.intro @bne_self_eq_false.{0} (And.intro @beq_self_eq_true.{0} (And.intro @D.bool.injEq (And.intro @decide_eq_false_iff_not (And.intro @List.length_map.{0,0} (And.intro @Wb (And.intro @SK (And.intro @NM (And.intro @bL (And.intro @bz (And.intro @b7 (And.intro @ZQ (And.intro @Z5 (And.intro @VQ (And.intro @Xq (And.intro @X6 (And.intro @Wj (And.intro @X9 (And.intro @V5 (And.intro @Xb (And.intro @Z8 (And.intro @WV (And.intro @LI (And.intro @Xf (And.intro @RP (And.intro @Mc (And.intro @UD (And.intro @VJ (And.intro @UX (And.intro @Vm (And.intro @U6 (And.intro @U0 (And.intro @VW (And.intro @Vc (And.intro @Uu (And.intro @U1 (And.intro @VN (And.intro @Vo (And.intro @Uo (And.intro @UL (And.intro @Nl (And.intro @N1 (And.intro @G3 (And.intro @GD (And.intro @Ik (And.intro @H4 (And.intro @G0 (And.intro @Ia (And.intro @Hl (And.intro @Hn (And.intro @GC (And.intro @TU (And.intro @Tv (And.intro @TJ (And.intro @Uj (And.intro @Zq (And.intro @Uc (And.intro @Zr (And.intro @aU (And.intro @X7 (And.intro @YC (And.intro @ab (And.intro @Ut (And.intro @Un (And.intro @XW (And.intro @ap (And.intro @S7 (And.intro @NF (And.intro @OJ (And.intro @S1 (And.intro @UO (And.intro @Rd (And.intro @Rk (And.intro @Yi (And.intro @NS (And.intro @TV (And.intro @Qk (And.intro @La (And.intro @YG (And.intro @HF (And.intro @N4 (And.intro @VZ (And.intro @Uv (And.intro @Ti (And.intro @O6 (And.intro @UU (And.intro @Ty (And.intro @TD (And.intro @XE (And.intro @X4 (And.intro @Lt (And.intro @Mg (And.intro @QZ (And.intro @M0 (And.intro @KF (And.intro @L2 (@Li))))))))))))))))))))))))))))))))))))))))))))))))))))))))))))))))))))))))))))))))))))))))))))))))))))))))))))))))))))))))))))))))))))))))))))))))))))))))))))
end Go.Proofs.YtilhbalhkljanaaGreatDoor
