/- TrailOrders, TrailUps: what the walks and the plain laws give. No condition. -/
import Derived.Test.YtggnjahdjmncaaaDoorWk
import Derived.Test.YtggnjahdjmncaaaDoorLo
set_option linter.unusedVariables false
namespace Go.Proofs.YtggnjahdjmncaaaDoor
theorem trailOrders_calls (p q r : T_trail_Trail) (hp : p.Steps.length ≤ 9223372036854775807) (hq : q.Steps.length ≤ 9223372036854775807) (hr : r.Steps.length ≤ 9223372036854775807) (h : Heap) :
    CallsA Tryd.prog 7 [.agg (c_T_trail_Trail p), .agg (c_T_trail_Trail q), .agg (c_T_trail_Trail r)] h fun d _ => d = .bool true :=
  (F_lecternlaw08_TrailOrders_w p q r (G := fun b => b = true) h ⟨true, trailOrders p q r hp hq hr, rfl⟩).mono fun d h' ⟨r, hr, hd⟩ => by subst hr; exact hd
theorem trailUps_calls (p q : T_trail_Trail) (hp : p.Steps.length ≤ 9223372036854775807) (hq : q.Steps.length ≤ 9223372036854775807) (h : Heap) :
    CallsA Tryd.prog 8 [.agg (c_T_trail_Trail p), .agg (c_T_trail_Trail q)] h fun d _ => d = .bool true :=
  (F_lecternlaw08_TrailUps_w p q (G := fun b => b = true) h ⟨true, trailUps p q hp hq, rfl⟩).mono fun d h' ⟨r, hr, hd⟩ => by subst hr; exact hd
end Go.Proofs.YtggnjahdjmncaaaDoor
