/- The call of ScanCuts. No condition. -/
import Derived.Test.YtfokkdofcekdbaaDoorX2
import Derived.Test.YtfokkdofcekdbaaDoorWk
import Derived.Test.YtfokkdofcekdbaaDoorSy
set_option linter.unusedVariables false
namespace Go.Proofs.YtfokkdofcekdbaaDoor
theorem scanCuts_calls (y : List Int) (n : Int) (o : ∀ n ∈ y, okI .u8 n) (t : (y.map fun _ => 1).sum + 1 ≤ 1048576) (h : Heap) :
    CallsA Tryd.prog 5 [.sl 1 (y.map fun n => [D.int .u8 n]) 0, .int .i64 n] h fun d _ => d = .bool true := by
  rw [len_sumI] at t
  rw [← bys_c o]
  exact (F_lecternlaw03_ScanCuts_w (bys y) n (G := fun b => b = true) h ⟨true, scanCuts (bys y) n (by rw [bys_len]; omega), rfl⟩).mono fun d h' ⟨r, hr, hd⟩ => by subst hr; exact hd
end Go.Proofs.YtfokkdofcekdbaaDoor
