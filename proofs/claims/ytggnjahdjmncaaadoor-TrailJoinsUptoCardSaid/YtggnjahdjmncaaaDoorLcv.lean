/- TrailValues, TrailJoins: what the walks and the plain laws give. No condition. -/
import Derived.Test.YtggnjahdjmncaaaDoorWk
import Derived.Test.YtggnjahdjmncaaaDoorLj
set_option linter.unusedVariables false
namespace Go.Proofs.YtggnjahdjmncaaaDoor
theorem trailValues_calls (p : T_api_Node) (t : T_trail_Trail) (h : szN p ≤ 1048576) (hl : t.Steps.length ≤ 9223372036854775807) (hp : Heap) :
    CallsA Tryd.prog 5 [.agg (c_T_api_Node p), .agg (c_T_trail_Trail t)] hp fun d _ => d = .bool true :=
  (F_lecternlaw08_TrailValues_w p t (G := fun b => b = true) hp ⟨true, trailValues p t h hl, rfl⟩).mono fun d h' ⟨r, hr, hd⟩ => by subst hr; exact hd
theorem trailJoins_calls (p : T_api_Node) (l : List Int) (h : szN p ≤ 1048576) (hl : l.length ≤ 1048576) (hp : Heap) :
    CallsA Tryd.prog 6 [.agg (c_T_api_Node p), .sl 1 (List.map c_i64 l) 0] hp fun d _ => d = .bool true :=
  (F_lecternlaw08_TrailJoins_w p l (G := fun b => b = true) hp ⟨true, trailJoins p l h hl, rfl⟩).mono fun d h' ⟨r, hr, hd⟩ => by subst hr; exact hd
theorem len_sum {α : Type} (l : List α) : (l.map fun _ => 1).sum = l.length := by induction l <;> simp_all [Nat.add_comm]
end Go.Proofs.YtggnjahdjmncaaaDoor
