/- Loops by what holds at each round's head; slices read as lists. No condition. -/
import Derived.Test.YtilhbalhkljanaaGreatDoorEng13
set_option linter.unusedSimpArgs false
set_option linter.unusedVariables false
namespace Go.Proofs.YtilhbalhkljanaaGreatDoor
def iz (P : Program) (Γ : FuncId → Option (List D → Option D)) (md : Nat → Nat) (gd : Option Nat) (o : Oper) (s : St) (k : St → Prop) : Prop :=
 match o.guard with
 | none => By P Γ (Cd md o.dst) o.op (opD s.sl) s.h fun d h' => k ⟨D7 s.sl o.dst d, h'⟩
 | some (_, want) => match (match gd with | some d => s.sl.getD d .any | none => .tup []) with
  | .bool b => if b = want then By P Γ (Cd md o.dst) o.op (opD s.sl) s.h fun d h' => k ⟨D7 s.sl o.dst d, h'⟩ else k ⟨D7 s.sl o.dst (.tup []), s.h⟩
  | .tup [] => k ⟨D7 s.sl o.dst (.tup []), s.h⟩
  | _ => False
def iJ (ops : Array Oper) : Option (Nat × Bool) → Option Nat
 | none => none
 | some (j, _) => (ops[j]?).bind (·.dst)
inductive WkL : List D → List D → Prop
 | nil : WkL [] []
 | cons {d e : D} {s t : List D} (h : e = d ∨ e = .any) (r : WkL s t) : WkL (d :: s) (e :: t)
theorem WkL.same {d : D} {s t : List D} (r : WkL s t) : WkL (d :: s) (d :: t) := .cons (.inl rfl) r
theorem WkL.any {d : D} {s t : List D} (r : WkL s t) : WkL (d :: s) (.any :: t) := .cons (.inr rfl) r
theorem WkL.eq {d e : D} {s t : List D} (r : WkL s t) (h : e = d) : WkL (d :: s) (e :: t) := .cons (.inl h) r
theorem WkL.length : ∀ {s t : List D}, WkL s t → s.length = t.length
 | _, _, .nil => rfl
 | _, _, .cons _ r => by simp [r.length]
theorem WkL.rel {K : Kn} : ∀ {s t : List D} (_ : WkL s t) (v : Nat → Value), (∀ i, VR K (v i) (s.getD i .any)) → ∀ i, VR K (v i) (t.getD i .any)
 | _, _, .nil, v, h, i => h i
 | _, _, .cons hd r, v, h, 0 => by
  have := h 0
  rcases hd with rfl | rfl
  ·exact this
  ·exact .any _
 | _, _, .cons hd r, v, h, i + 1 => r.rel (fun j => v (j + 1)) (fun j => h (j + 1)) i
theorem WkL.refl : ∀ (s : List D), WkL s s
 | [] => .nil
 | _ :: s => .same (WkL.refl s)
structure Wk (s t : St) : Prop where
 sl : WkL s.sl t.sl
 h : ∀ i, t.h i = s.h i ∨ t.h i = none
theorem Sim.weaken {K : Kn} {s t : St} {a : Act} {w : World} (S : Sim K s a w) (h : Wk s t) : Sim K t a w :=
 ⟨S.h.forget h.h, S.d, by rw [S.n, h.sl.length], h.sl.rel (fun i => a.tmps.getD i undef) S.v⟩
def SlD {α : Type} (k : Nat) (f : α → List D) (l : List α) (d : D) : Prop := (d = .snil ∧ l = []) ∨ ∃ r, d = .sl k (l.map f) r
theorem SlD.len {α : Type} {k : Nat} {f : α → List D} {l : List α} {d : D} (h : SlD k f l d) (P : Program) (hp : Heap) (t : TypeId) (ht : (slD P t).isSome = true) : Kj P hp t d = some (.int .i64 l.length) := by
 rcases h with ⟨rfl, rfl⟩ | ⟨r, rfl⟩
 ·rw [OP, if_pos ht]; try rfl
 ·rw [P8, if_pos ht, List.length_map]
theorem SlD.idx {α : Type} {k : Nat} {f : α → List D} {l : List α} {d : D} (h : SlD k f l d) (P : Program) (t : TypeId) (kk : IntKind) (i : Int) (hc : ((slD P t).bind (szD P)) = some k) :
  DK P t d (.int kk i) = if 0 ≤ i ∧ i < l.length then some (.iptr ((l.map f).getD i.toNat [])) else none := by
 obtain ⟨e, he, hs⟩ := Option.bind_eq_some_iff.1 hc
 rcases h with ⟨rfl, rfl⟩ | ⟨r, rfl⟩
 ·have ha : arD P t = none := by simp [arD, CP he]
  have : ¬ (0 ≤ i ∧ i < (([] : List α).length : Int)) := by simp only [List.length_nil]; omega
  rw [if_neg this]
  simp [DK, ha]
 ·rw [Ok P t kk i k _ r, List.length_map, hc]; simp only [true_and]
theorem SlD.at {α : Type} {f : α → List D} {l : List α} {i : Nat} (x : α) (h : l[i]? = some x) : (l.map f).getD i [] = f x := by simp [List.getD, h]
theorem SlD.src {α : Type} {k : Nat} {f : α → List D} {l : List α} {d : D} (h : SlD k f l d) (hp : Heap) : LJ hp k d = some (l.map f) := by
 rcases h with ⟨rfl, rfl⟩ | ⟨r, rfl⟩
 ·rfl
 ·simp [LJ]
theorem dg {n : Int} (h1 : -9223372036854775808 ≤ n) (h2 : n ≤ 9223372036854775807) : IntKind.i64.wrap n = n := by rw [IntKind.wrap_i64]; omega
theorem Tn {P : Program} {h : Heap} {op : BinOp} {t : TypeId} {y : D} {q : Operand} (b : Bool) : Hs P h op t (.bool b) y q = BL P h op t (.bool b) y := rfl
theorem PB {P : Program} {h : Heap} {op : BinOp} {t : TypeId} {y : D} {q : Operand} (k : IntKind) (a : Int) : Hs P h op t (.int k a) y q = BL P h op t (.int k a) y := rfl
theorem SC {P : Program} {h : Heap} {op : BinOp} {t : TypeId} {y : D} {q : Operand} (k : FloatKind) (a : Nat) : Hs P h op t (.float k a) y q = BL P h op t (.float k a) y := rfl
theorem T1 {P : Program} {h : Heap} {op : BinOp} {t : TypeId} {y : D} {q : Operand} (k : FloatKind) (a b : Nat) : Hs P h op t (.cplx k a b) y q = BL P h op t (.cplx k a b) y := rfl
theorem PX {P : Program} {h : Heap} {op : BinOp} {t : TypeId} {y : D} {q : Operand} (s : List UInt8) : Hs P h op t (.str s) y q = BL P h op t (.str s) y := rfl
theorem UJ {P : Program} {h : Heap} {op : BinOp} {t : TypeId} {y : D} {q : Operand}  : Hs P h op t (.nilp) y q = BL P h op t (.nilp) y := rfl
theorem Wv {P : Program} {h : Heap} {op : BinOp} {t : TypeId} {y : D} {q : Operand} (i o : Nat) : Hs P h op t (.ptr i o) y q = BL P h op t (.ptr i o) y := rfl
theorem UK {P : Program} {h : Heap} {op : BinOp} {t : TypeId} {y : D} {q : Operand} (cs : List D) : Hs P h op t (.iptr cs) y q = BL P h op t (.iptr cs) y := rfl
theorem Tw {P : Program} {h : Heap} {op : BinOp} {t : TypeId} {y : D} {q : Operand}  : Hs P h op t (.snil) y q = BL P h op t (.snil) y := rfl
theorem XW {P : Program} {h : Heap} {op : BinOp} {t : TypeId} {y : D} {q : Operand} (k : Nat) (es : List (List D)) (r : Nat) : Hs P h op t (.sl k es r) y q = BL P h op t (.sl k es r) y := rfl
theorem W2 {P : Program} {h : Heap} {op : BinOp} {t : TypeId} {y : D} {q : Operand} (cs : List D) : Hs P h op t (.agg cs) y q = BL P h op t (.agg cs) y := rfl
set_option linter.defProp false in
def EV2 := And.intro @Tn (And.intro @PB (And.intro @SC (And.intro @T1 (And.intro @PX (And.intro @UJ (And.intro @Wv (And.intro @UK (And.intro @Tw (And.intro @XW (@W2))))))))))
set_option linter.defProp false in
def EVB := And.intro @TX (And.intro @BB (And.intro @HK (And.intro @XS (And.intro @Rs (And.intro @Kt (And.intro @bu (And.intro @bw (And.intro @Zk (And.intro @ZE (And.intro @Zc (And.intro @QT (And.intro @List.getD_cons_zero.{0} (And.intro @List.getD_cons_succ.{0} (And.intro @List.set_cons_zero.{0} (And.intro @List.set_cons_succ.{0} (And.intro @List.map_cons.{0,0} (And.intro @List.map_nil.{0,0} (And.intro @List.toList_toArray.{0} (And.intro @List.take_succ_cons.{0} (And.intro @List.take_zero.{0} (And.intro @List.drop_zero.{0} (And.intro @List.drop_succ_cons.{0} (And.intro @List.length_cons.{0} (And.intro @List.length_nil.{0} (And.intro @List.append_nil.{0} (And.intro @List.nil_append.{0} (And.intro @List.cons_append.{0} (And.intro @Option.bind_some.{0,0} (And.intro @Option.bind_none.{0,0} (And.intro @Option.map_some.{0,0} (And.intro @Option.map_none.{0,0} (And.intro @List.getElem?_cons_zero.{0} (And.intro @List.getElem?_cons_succ.{0} (And.intro @List.getElem?_toArray.{0} (And.intro @Nat.zero_add (And.intro @Nat.add_zero (((And.intro @true_and (And.intro @and_true (And.intro @Option.isSome_some.{0} (And.intro @Option.isSome_none.{0} (And.intro @Bool.false_eq_true (And.intro @List.mapM_cons.{0,0,0} (And.intro @List.mapM_nil.{0,0,0} (And.intro @Option.pure_def.{0} (And.intro @Option.bind_eq_bind.{0} (And.intro @Heap.upd_same (And.intro @Option.some.injEq.{0} (And.intro @bne_iff_ne.{0} (And.intro @beq_iff_eq.{0} (And.intro @decide_eq_true_eq ((And.intro @not_true_eq_false (And.intro @not_false_eq_true (And.intro @Bool.not_eq_true' (And.intro @Bool.not_eq_false' (And.intro @Bool.not_true (And.intro @Bool.not_false (And.intro @bne_self_eq_false.{0} (And.intro @beq_self_eq_true.{0} (And.intro @D.bool.injEq (And.intro @decide_eq_false_iff_not (And.intro @List.length_map.{0,0} (And.intro @Yy (And.intro @Td (And.intro @NM (And.intro @cb (And.intro @cR (And.intro @eF (And.intro @bY (And.intro @dX (And.intro @Xh (And.intro @Yq (And.intro @Yp (And.intro @ZZ (And.intro @XE (And.intro @XF (And.intro @Zd (And.intro @db (And.intro @Z4 (And.intro @Mb (And.intro @X4 (And.intro @S0 (And.intro @MR (And.intro @WC (And.intro @Xn (And.intro @Wq (And.intro @Xx (And.intro @Wh (And.intro @Xi (And.intro @Xc (And.intro @W5 (And.intro @VW (And.intro @WW (And.intro @Xp (And.intro @Xg (And.intro @WV (And.intro @Wt (And.intro @Oc (And.intro @Ox (And.intro @FE (And.intro @EX (And.intro @Gl (And.intro @Gj (And.intro @FG (And.intro @Gq (And.intro @FP (And.intro @FT (And.intro @EV (And.intro @Vn (And.intro @VK (And.intro @Vy (And.intro @Vo (And.intro @bD (And.intro @Vd (And.intro @bG (And.intro @dK (And.intro @Z0 (And.intro @bC (And.intro @d9 (And.intro @WE (And.intro @WT (And.intro @YI (And.intro @ec (And.intro @S8 (And.intro @OP (And.intro @P8 (And.intro @Ud (And.intro @WA (And.intro @Sp (And.intro @S3 (And.intro @YQ (And.intro @OQ (And.intro @Vf (And.intro @QG (And.intro @Ir (And.intro @bE (And.intro @Io (And.intro @Ok (And.intro @VV (And.intro @Wg (And.intro @UE (And.intro @P1 (And.intro @Xa (And.intro @U4 (And.intro @UT (And.intro @ZC (And.intro @YD (And.intro @Mr (And.intro @MY (And.intro @SZ (And.intro @ND (And.intro @L8 (And.intro @M1 (@Lz))))))))))))))))))))))))))))))))))))))))))))))))))))))))))))))))))))))))))))))))))))))))))))))))))))))))))))))))))))))))))))))))))))))))))))))))))))))))))))
end Go.Proofs.YtilhbalhkljanaaGreatDoor
