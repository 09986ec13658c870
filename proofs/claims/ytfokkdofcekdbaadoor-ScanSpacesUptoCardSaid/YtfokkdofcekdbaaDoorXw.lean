/- The call of ScanSpaces. No condition. -/
import Derived.Test.YtfokkdofcekdbaaDoorX3
import Derived.Test.YtfokkdofcekdbaaDoorWk
import Derived.Test.YtfokkdofcekdbaaDoorSy
set_option linter.unusedVariables false
namespace Go.Proofs.YtfokkdofcekdbaaDoor
theorem scanSpaces_calls (x y z : List UInt8) (c : Int) (o : okI .u8 c) (t0 : x.length + 1 ≤ 1048576) (t1 : y.length + 1 ≤ 1048576) (t2 : z.length + 1 ≤ 1048576) (h : Heap) :
    CallsA Tryd.prog 6 [.str x, .str y, .str z, .int .u8 c] h fun d _ => d = .bool true := by
  have hc : 0 ≤ c ∧ c ≤ 255 := by
    unfold okI at o
    have e1 : IntKind.min .u8 = 0 := by decide
    have e2 : IntKind.max .u8 = 255 := by decide
    rw [e1, e2] at o
    exact o
  exact (F_lecternlaw03_ScanSpaces_w x y z c (G := fun b => b = true) h ⟨true, scanSpaces x y z c (by omega) (by omega) (by omega) hc, rfl⟩).mono fun d h' ⟨r, hr, hd⟩ => by subst hr; exact hd
end Go.Proofs.YtfokkdofcekdbaaDoor
