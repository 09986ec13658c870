/- The call of ParseAround. No condition. -/
import Derived.Test.YtilhbalhkljanaaGreatDoorZ1
import Derived.Test.YtilhbalhkljanaaGreatDoorWk
set_option linter.unusedVariables false
namespace Go.Proofs.YtilhbalhkljanaaGreatDoor
theorem HH (y : List Int) (y1 : List UInt8) (o : ∀ n ∈ y, okI .u8 n) (t : (y.map fun _ => 1).sum + 1 ≤ 1048576) (h : Heap) :
  CallsA Tryz.prog 6 [.sl 1 (y.map fun n => [D.int .u8 n]) 0, .str y1] h fun d _ => d = .bool true := by
 rw [WB] at t
 rw [← cz o]
 exact (GN (bys y) y1 (G := fun b => b = true) h ⟨true, parseAround (bys y) y1 (by rw [YZ]; omega), rfl⟩).mono fun d h' ⟨r, hr, hd⟩ => by subst hr; exact hd
end Go.Proofs.YtilhbalhkljanaaGreatDoor
