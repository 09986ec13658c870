/- TraceShows: what the walk and the plain law give. No condition. -/
import Derived.Test.YtocfjohangcajaaDoorWk
import Derived.Test.YtocfjohangcajaaDoorLsh
import Derived.Test.YtocfjohangcajaaDoorEng25
set_option linter.unusedVariables false
namespace Go.Proofs.YtocfjohangcajaaDoor
theorem mem_sum {α : Type} (f : α → Nat) : ∀ (l : List α) (x : α), x ∈ l → f x ≤ (l.map f).sum
  | [], x, h => by cases h
  | y :: l, x, h => by
    simp only [List.map_cons, List.sum_cons]
    rcases List.mem_cons.1 h with rfl | h
    · omega
    · have := mem_sum f l x h; omega
theorem len_sum0 {α : Type} (f : α → Nat) (hf : ∀ x, 1 ≤ f x) : ∀ l : List α, l.length ≤ (l.map f).sum
  | [] => by simp
  | x :: l => by
    have := hf x; have := len_sum0 f hf l
    simp only [List.map_cons, List.sum_cons, List.length_cons]; omega
theorem len_sum1 {α : Type} (l : List α) : (l.map fun _ => 1).sum = l.length := by induction l <;> simp_all [Nat.add_comm]
abbrev okLines (p : List T_lecternlaw10_Line) : Prop := (∀ y ∈ p, ((fun x : T_lecternlaw10_Line => ((fun l => (∀ y ∈ l, (okI .i64) y) ∧ l.length ≤ 9223372036854775807)) x.Parts ∧ ((fun _ : Bool => True)) x.Closed ∧ True)) y) ∧ p.length ≤ 9223372036854775807
abbrev szLines (p : List T_lecternlaw10_Line) : Nat := (p.map (fun x : T_lecternlaw10_Line => ((fun l => (l.map (fun _ : Int => 1)).sum + 1) x.Parts + ((fun _ : Bool => 1) x.Closed + 0)) + 1)).sum + 1
theorem inOk_of (p : List T_lecternlaw10_Line) (o : okLines p) (t : szLines p ≤ 1048576) : InOk p where
  len := by
    have := len_sum0 (fun x : T_lecternlaw10_Line => ((fun l => (l.map (fun _ : Int => 1)).sum + 1) x.Parts + ((fun _ : Bool => 1) x.Closed + 0)) + 1) (fun x => by omega) p
    unfold szLines at t
    omega
  parts := fun l hl => by
    have := Nat.le_trans (mem_sum (fun x : T_lecternlaw10_Line => ((fun l => (l.map (fun _ : Int => 1)).sum + 1) x.Parts + ((fun _ : Bool => 1) x.Closed + 0)) + 1) p l hl) (show _ ≤ 1048575 by unfold szLines at t; omega)
    have e := len_sum1 l.Parts
    simp only at this
    omega
  ints := fun l hl a ha => by
    have := (o.1 l hl).1.1 a ha
    unfold okI at this
    have e1 : IntKind.min .i64 = -9223372036854775808 := by decide
    have e2 : IntKind.max .i64 = 9223372036854775807 := by decide
    rw [e1, e2] at this
    exact this
theorem traceShows_calls (p : List T_lecternlaw10_Line) (o : okLines p) (t : szLines p ≤ 1048576) (h : Heap) :
    CallsA Tryd.prog 4 [.sl 2 (List.map c_T_lecternlaw10_Line p) 0] h fun d _ => d = .bool true :=
  (F_lecternlaw10_TraceShows_w p (G := fun b => b = true) h ⟨true, traceShows p (inOk_of p o t), rfl⟩).mono fun d h' ⟨r, hr, hd⟩ => by subst hr; exact hd
end Go.Proofs.YtocfjohangcajaaDoor
