/- The call of ParseNests. No condition. -/
import Derived.Test.YtilhbalhkljanaaGreatDoorZ1
import Derived.Test.YtilhbalhkljanaaGreatDoorWk
set_option linter.unusedVariables false
namespace Go.Proofs.YtilhbalhkljanaaGreatDoor
theorem parseNests_calls (y0 y1 : Int) (h : Heap) : CallsA Tryz.prog 7 [.int .i64 y0, .int .i64 y1] h fun d _ => d = .bool true :=
 (F_lecternlaw06_ParseNests_w y0 y1 (G := fun b => b = true) h ⟨true, parseNests y0 y1, rfl⟩).mono fun d h' ⟨r, hr, hd⟩ => by subst hr; exact hd
end Go.Proofs.YtilhbalhkljanaaGreatDoor
