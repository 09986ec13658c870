/- Short names. No condition. -/
import Derived.Test.YtilhbalhkljanaaGreatDoorPf
set_option linter.unusedVariables false
namespace Go.Proofs.YtilhbalhkljanaaGreatDoor
abbrev nB : List UInt8 := []
abbrev nP : List TP := []
abbrev D.I (z : Int) : D := .int .i64 z
abbrev cSc (q : Nat) (p : TS) : Nat × AObj := (q, .cells [.sl 1 (List.map AL p.b) 0, .int .i64 p.at_])
abbrev cTk (q g : Nat) (p : TK) : Nat × AObj := (q, .cells [.int .i64 p.Kind, .int .i64 p.At, .str p.Name, Aq 2 g p.Pairs, .str p.Text, .int .i64 p.Refs])
theorem dF {p : Prop} [Decidable p] (h : ¬ p) : decide p = false := decide_eq_false h
theorem dT {p : Prop} [Decidable p] (h : p) : decide p = true := decide_eq_true h
theorem bS {α β : Type} {a : α} {f : α → Option β} : (some a).bind f = f a := rfl
theorem cF {α : Type} {a b : α} : cond false a b = b := rfl
theorem cT {α : Type} {a b : α} : cond true a b = a := rfl
theorem Exit.sr {A : St → Prop} {Q : Exit → St → Prop} {s : St} (h : Q .ret s) : Exit.sel A Q .ret s := h
theorem Exit.br {i : Nat} {Q : Exit → St → Prop} {s : St} (h : Q .ret s) : Exit.blk i Q .ret s := h
theorem Exit.jr {P : Program} {body : Code} {Q : Exit → St → Prop} {s : St} (h : Q .ret s) : Exit.jmp P body Q .ret s := h
theorem WdC.k {d : D} {cs cs' : List D} (r : WdC cs cs') : WdC (d :: cs) (d :: cs') := .cons (.refl _) r
theorem WL.k {n : Nat} {l l' : List (Nat × D)} {t : Nat} (r : WL n l l') : WL n l ((t, EL l t) :: l') := .cons (.refl _) r
theorem lA {α : Type} {a b : List α} : (a ++ b).length = a.length + b.length := List.length_append
theorem lC {α : Type} {a : α} {l : List α} : (a :: l).length = l.length + 1 := List.length_cons
theorem lD {α : Type} {i : Nat} {l : List α} : (l.drop i).length = l.length - i := List.length_drop
theorem lN {α : Type} : ([] : List α).length = 0 := rfl
theorem sj {α : Type} {a b : α} (h : some a = some b) : a = b := Option.some.inj h
theorem dc {p : Prop} (h : p := by decide) : p := h
theorem so {p : Prop} (h : p := by (simp; omega)) : p := h
theorem bT : (!true) = false := rfl
theorem bF : (!false) = true := rfl
theorem bn {α : Type} [BEq α] [LawfulBEq α] {a b : α} : (a == b) = false ↔ a ≠ b := beq_eq_false_iff_ne
end Go.Proofs.YtilhbalhkljanaaGreatDoor
