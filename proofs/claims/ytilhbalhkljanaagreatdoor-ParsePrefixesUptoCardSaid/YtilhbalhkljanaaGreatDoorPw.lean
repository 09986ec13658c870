/- The call of ParsePrefixes. No condition. -/
import Derived.Test.YtilhbalhkljanaaGreatDoorZ1
import Derived.Test.YtilhbalhkljanaaGreatDoorWk
set_option linter.unusedVariables false
namespace Go.Proofs.YtilhbalhkljanaaGreatDoor
theorem parsePrefixes_calls (y0 y1 y2 y3 : List UInt8) (hl : y3.length ≤ 1048576) (h : Heap) : CallsA Tryz.prog 5 [.str y0, .str y1, .str y2, .str y3] h fun d _ => d = .bool true :=
 (F_lecternlaw06_ParsePrefixes_w y0 y1 y2 y3 (G := fun b => b = true) h ⟨true, parsePrefixes y0 y1 y2 y3 hl, rfl⟩).mono fun d h' ⟨r, hr, hd⟩ => by subst hr; exact hd
end Go.Proofs.YtilhbalhkljanaaGreatDoor
