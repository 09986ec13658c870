/- Rows of elements each of which has a row for itself (the innermost first), parts of cells, and what is cut off. No condition. -/
import Derived.Test.YtfokkdofcekdbaaGreatDoorEng33
set_option linter.unusedSimpArgs false
set_option linter.unusedVariables false
namespace Go.Proofs.YtfokkdofcekdbaaGreatDoor
def topU {α : Type} (e : List α) (i : Int) : Option (α × List α) := if i + 1 = (e.length : Int) then (match e with | [] => none | a :: l => some (a, l)) else none
def hid {α γ : Type} (ck : γ → List D) (kids : α → List γ) (x : List (α × Nat)) : List (Nat × AObj) := x.map fun p => mo p.2 ck (kids p.1)
def zk {α γ : Type} (kids : α → List γ) (x : List (α × Nat)) : Prop := ∀ p ∈ x, p.2 = 0 → kids p.1 = []
theorem Hp_perm {h : Heap} {O O' : List (Nat × AObj)} (ok : OK h O) (p : O.Perm O') : Hp h O = Hp h O' ∧ OK h O' := by
 induction p with
 | nil => exact ⟨rfl, ok⟩
 | @cons x O O' p ih =>
  obtain ⟨e, ok'⟩ := ih ok.2
  obtain ⟨i, a⟩ := x
  refine ⟨?_, by rw [← e]; exact ok.1, ok'⟩
  show (if i = 0 then Hp h O else (Hp h O).upd i (some a)) = (if i = 0 then Hp h O' else (Hp h O').upd i (some a))
  rw [e]
 | swap x y l =>
  obtain ⟨i, a⟩ := x
  exact Hp_pull 1 ok rfl
 | trans _ _ i1 i2 =>
  obtain ⟨e1, ok1⟩ := i1 ok
  obtain ⟨e2, ok2⟩ := i2 ok1
  exact ⟨e1.trans e2, ok2⟩
section
variable {P : Program} {md : Nat → Nat} {w : Bool} {ops : Array Oper} {os : List Oper} {k : St → Prop} {n : Nat} {l : List (Nat × D)} {h : Heap} {d : Nat} {t ty : TypeId} {pos : String} {af : Array Edge} {x y z : Operand}
variable {β : Type} {G : β → Prop} {O : List (Nat × AObj)}
theorem S_hpe {O' : List (Nat × AObj)} (e : Hp h O = Hp h O') (hk : seqQ P md w ops os ⟨mkSl n l, Hp h O'⟩ k) : seqQ P md w ops os ⟨mkSl n l, Hp h O⟩ k := by rw [e]; exact hk
end
section
variable {P : Program} {md : Nat → Nat} {ops : Array Oper} {os : List Oper} {k : St → Prop} {n : Nat} {l : List (Nat × D)} {h : Heap}
end
def eqL {α : Type} (a b : List α) : Option Unit := if a.length = b.length then some () else none
def ltL (i : Int) (n : Nat) : Option Unit := if 0 ≤ i ∧ i < (n : Int) then some () else none
section
variable {P : Program} {md : Nat → Nat} {ops : Array Oper} {os : List Oper} {k : St → Prop} {n : Nat} {l : List (Nat × D)} {h : Heap} {d : Nat} {t ty : TypeId} {pos : String} {af : Array Edge} {x y z : Operand}
variable {β : Type} {G : β → Prop} {O : List (Nat × AObj)}
end
end Go.Proofs.YtfokkdofcekdbaaGreatDoor
