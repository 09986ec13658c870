/- Loops by what holds at each round's head; slices read as lists. No condition. -/
import Derived.Test.YtjofelloaofooaaGreatDoorEng13
set_option linter.unusedSimpArgs false
set_option linter.unusedVariables false
namespace Go.Proofs.YtjofelloaofooaaGreatDoor
variable {df : List Deferred}
def ZV (P : Program) (Γ : FuncId -> Option (List D -> Option D)) (md : Nat -> Nat) (gd : Option Nat) (o : Oper) (s : St) (k : St -> Prop) : Prop :=
 match o.guard with
 | none => BB P Γ (Ba md o.dst) o.op (opD s.sl) s.h fun d h' => k ⟨Ez s.sl o.dst d, h'⟩
 | some (_, want) => match (match gd with | some d => s.sl.getD d .any | none => .tup []) with
  | .bool b => if b = want then BB P Γ (Ba md o.dst) o.op (opD s.sl) s.h fun d h' => k ⟨Ez s.sl o.dst d, h'⟩ else k ⟨Ez s.sl o.dst (.tup []), s.h⟩
  | .tup [] => k ⟨Ez s.sl o.dst (.tup []), s.h⟩
  | _ => False
def Aak (ops : Array Oper) : Option (Nat × Bool) -> Option Nat
 | none => none
 | some (j, _) => (ops[j]?).bind (·.dst)
inductive WkL : List D -> List D -> Prop
 | nil : WkL [] []
 | cons {d e : D} {s t : List D} (h : e = d \/ e = .any) (r : WkL s t) : WkL (d :: s) (e :: t)
theorem WkL.same {d : D} {s t : List D} (r : WkL s t) : WkL (d :: s) (d :: t) := .cons (.inl rfl) r
theorem WkL.any {d : D} {s t : List D} (r : WkL s t) : WkL (d :: s) (.any :: t) := .cons (.inr rfl) r
theorem WkL.eq {d e : D} {s t : List D} (r : WkL s t) (h : e = d) : WkL (d :: s) (e :: t) := .cons (.inl h) r
theorem WkL.length : ∀ {s t : List D}, WkL s t -> s.length = t.length
 | _, _, .nil => rfl
 | _, _, .cons _ r => by simp [r.length]
theorem WkL.rel {K : Kn} : ∀ {s t : List D} (_ : WkL s t) (v : Nat -> Value), (∀ i, VR K (v i) (s.getD i .any)) -> ∀ i, VR K (v i) (t.getD i .any)
 | _, _, .nil, v, h, i => h i
 | _, _, .cons hd r, v, h, 0 => by
  have := h 0;rcases hd with rfl | rfl
  ·exact this
  ·exact .any _
 | _, _, .cons hd r, v, h, i + 1 => r.rel (fun j => v (j + 1)) (fun j => h (j + 1)) i
theorem WkL.refl : ∀ (s : List D), WkL s s
 | [] => .nil
 | _ :: s => .same (WkL.refl s)
structure Wk (s t : St) : Prop where
 sl : WkL s.sl t.sl
 h : ∀ i, t.h i = s.h i \/ t.h i = none
theorem Sim.weaken {K : Kn} {s t : St} {a : Act} {w : World} (S : Sim df K s a w) (h : Wk s t) : Sim df K t a w :=
 ⟨S.h.forget h.h, S.d, by rw [S.n, h.sl.length], h.sl.rel (fun i => a.tmps.getD i undef) S.v⟩
def SlD {α : Type} (k : Nat) (f : α -> List D) (l : List α) (d : D) : Prop := (d = .snil /\ l = []) \/ ∃ r, d = .sl k (l.map f) r
theorem SlD.len {α : Type} {k : Nat} {f : α -> List D} {l : List α} {d : D} (h : SlD k f l d) (P : Program) (hp : Heap) (t : TypeId) (ht : (slD P t).isSome = true) : NB P hp t d = some (.int .i64 l.length) := by
 rcases h with ⟨rfl, rfl⟩ | ⟨r, rfl⟩
 ·rw [Ni, if_pos ht]; try rfl
 ·rw [Ou, if_pos ht, List.length_map]
theorem SlD.idx {α : Type} {k : Nat} {f : α -> List D} {l : List α} {d : D} (h : SlD k f l d) (P : Program) (t : TypeId) (kk : IntKind) (i : Int) (hc : ((slD P t).bind (szD P)) = some k) :
  Dd P t d (.int kk i) = if 0 <= i /\ i < l.length then some (.iptr ((l.map f).getD i.toNat [])) else none := by
 obtain ⟨e, he, hs⟩ := Option.bind_eq_some_iff.1 hc;rcases h with ⟨rfl, rfl⟩ | ⟨r, rfl⟩
 ·have ha : arD P t = none := by simp [arD, Bl he]
  have : ¬ (0 <= i /\ i < (([] : List α).length : Int)) := by simp only [bj]; omega
  rw [if_neg this];simp [Dd, ha]
 ·rw [Mt P t kk i k _ r, List.length_map, hc]; simp only [true_and]
theorem SlD.at {α : Type} {f : α -> List D} {l : List α} {i : Nat} (x : α) (h : l[i]? = some x) : (l.map f).getD i [] = f x := by simp [List.getD, h]
theorem SlD.src {α : Type} {k : Nat} {f : α -> List D} {l : List α} {d : D} (h : SlD k f l d) (hp : Heap) : PM hp k d = some (l.map f) := by
 rcases h with ⟨rfl, rfl⟩ | ⟨r, rfl⟩
 ·rfl
 ·simp [PM]
theorem Xc {n : Int} (h1 : -9223372036854775808 <= n) (h2 : n <= 9223372036854775807) : IntKind.i64.wrap n = n := by rw [IntKind.wrap_i64]; omega
theorem NO {P : Program} {h : Heap} {op : BinOp} {t : TypeId} {y : D} {q : Operand} (b : Bool) : FW P h op t (.bool b) y q = Ex P h op t (.bool b) y := rfl
theorem KC {P : Program} {h : Heap} {op : BinOp} {t : TypeId} {y : D} {q : Operand} (k : IntKind) (a : Int) : FW P h op t (.int k a) y q = Ex P h op t (.int k a) y := rfl
theorem LH {P : Program} {h : Heap} {op : BinOp} {t : TypeId} {y : D} {q : Operand} (k : FloatKind) (a : Nat) : FW P h op t (.float k a) y q = Ex P h op t (.float k a) y := rfl
theorem NW {P : Program} {h : Heap} {op : BinOp} {t : TypeId} {y : D} {q : Operand} (k : FloatKind) (a b : Nat) : FW P h op t (.cplx k a b) y q = Ex P h op t (.cplx k a b) y := rfl
theorem KZ {P : Program} {h : Heap} {op : BinOp} {t : TypeId} {y : D} {q : Operand} (s : List By8) : FW P h op t (.str s) y q = Ex P h op t (.str s) y := rfl
theorem NC {P : Program} {h : Heap} {op : BinOp} {t : TypeId} {y : D} {q : Operand}  : FW P h op t (.nilp) y q = Ex P h op t (.nilp) y := rfl
theorem PK {P : Program} {h : Heap} {op : BinOp} {t : TypeId} {y : D} {q : Operand} (i o : Nat) : FW P h op t (.ptr i o) y q = Ex P h op t (.ptr i o) y := rfl
theorem Nl {P : Program} {h : Heap} {op : BinOp} {t : TypeId} {y : D} {q : Operand} (cs : List D) : FW P h op t (.iptr cs) y q = Ex P h op t (.iptr cs) y := rfl
theorem NS {P : Program} {h : Heap} {op : BinOp} {t : TypeId} {y : D} {q : Operand}  : FW P h op t (.snil) y q = Ex P h op t (.snil) y := rfl
theorem QX {P : Program} {h : Heap} {op : BinOp} {t : TypeId} {y : D} {q : Operand} (k : Nat) (es : List (List D)) (r : Nat) : FW P h op t (.sl k es r) y q = Ex P h op t (.sl k es r) y := rfl
theorem PN {P : Program} {h : Heap} {op : BinOp} {t : TypeId} {y : D} {q : Operand} (cs : List D) : FW P h op t (.agg cs) y q = Ex P h op t (.agg cs) y := rfl
set_option linter.defProp false in
def EV2 := And.intro @NO (And.intro @KC (And.intro @LH (And.intro @NW (And.intro @KZ (And.intro @NC (And.intro @PK (And.intro @Nl (And.intro @NS (And.intro @QX (@PN))))))))))
end Go.Proofs.YtjofelloaofooaaGreatDoor
