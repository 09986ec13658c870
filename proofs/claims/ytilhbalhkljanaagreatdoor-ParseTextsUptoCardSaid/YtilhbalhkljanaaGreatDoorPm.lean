/- The call of ParseTexts. No condition. -/
import Derived.Test.YtilhbalhkljanaaGreatDoorZ1
import Derived.Test.YtilhbalhkljanaaGreatDoorWk
set_option linter.unusedVariables false
namespace Go.Proofs.YtilhbalhkljanaaGreatDoor
theorem parseTexts_calls (y0 : List UInt8) (y1 : Int) (hl : y0.length ≤ 1073741824) (h : Heap) : CallsA Tryz.prog 4 [.str y0, .int .i64 y1] h fun d _ => d = .bool true :=
 (F_lecternlaw06_ParseTexts_w y0 y1 (G := fun b => b = true) h ⟨true, parseTexts y0 y1 hl, rfl⟩).mono fun d h' ⟨r, hr, hd⟩ => by subst hr; exact hd
end Go.Proofs.YtilhbalhkljanaaGreatDoor
