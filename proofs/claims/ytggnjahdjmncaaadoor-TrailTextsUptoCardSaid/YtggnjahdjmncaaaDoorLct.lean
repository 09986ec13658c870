/- TrailTexts: what the walk and the plain law give. No condition. -/
import Derived.Test.YtggnjahdjmncaaaDoorWk
import Derived.Test.YtggnjahdjmncaaaDoorLx
set_option linter.unusedVariables false
namespace Go.Proofs.YtggnjahdjmncaaaDoor
theorem trailTexts_calls (p : T_trail_Trail) (s : List UInt8) (hl : p.Steps.length ≤ 1048576) (hu : p.Name.URI.length ≤ 1048576) (hs : s.length ≤ 1048576) (hp : Heap) :
    CallsA Tryd.prog 3 [.agg (c_T_trail_Trail p), .str s] hp fun d _ => d = .bool true :=
  (F_lecternlaw08_TrailTexts_w p s (G := fun b => b = true) hp ⟨true, trailTexts p s hl hu hs, rfl⟩).mono fun d h' ⟨r, hr, hd⟩ => by subst hr; exact hd
theorem len_sum1 {α : Type} (l : List α) : (l.map fun _ => 1).sum = l.length := by induction l <;> simp_all [Nat.add_comm]
end Go.Proofs.YtggnjahdjmncaaaDoor
