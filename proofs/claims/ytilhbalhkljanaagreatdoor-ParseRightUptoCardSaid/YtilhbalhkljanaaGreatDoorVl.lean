/- The call of ParseRight. No condition. -/
import Derived.Test.YtilhbalhkljanaaGreatDoorZ1
import Derived.Test.YtilhbalhkljanaaGreatDoorWk
set_option linter.unusedVariables false
namespace Go.Proofs.YtilhbalhkljanaaGreatDoor
theorem Mh (y : List Int) (o : ∀ n ∈ y, okI .u8 n) (t : (y.map fun _ => 1).sum + 1 ≤ 1048576) (h : Heap) :
  CallsA Tryz.prog 8 [.sl 1 (y.map fun n => [D.int .u8 n]) 0] h fun d _ => d = .bool true := by
 rw [Yc] at t
 rw [← gl o]
 exact (HH (bys y) (G := fun b => b = true) h ⟨true, parseRight (bys y) (by rw [ag]; omega), rfl⟩).mono fun d h' ⟨r, hr, hd⟩ => by subst hr; exact hd
end Go.Proofs.YtilhbalhkljanaaGreatDoor
