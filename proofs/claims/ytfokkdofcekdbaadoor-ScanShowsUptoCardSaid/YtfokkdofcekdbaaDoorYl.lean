/- The call of ScanShows. No condition. -/
import Derived.Test.YtfokkdofcekdbaaDoorX6
import Derived.Test.YtfokkdofcekdbaaDoorWk
import Derived.Test.YtfokkdofcekdbaaDoorSy
set_option linter.unusedVariables false
namespace Go.Proofs.YtfokkdofcekdbaaDoor
theorem scanShows_calls (y : List Int) (b : Bool) (o : ∀ n ∈ y, okI .u8 n) (t : (y.map fun _ => 1).sum + 1 ≤ 1048576) (h : Heap) :
  CallsA Tryd.prog 4 [.sl 1 (y.map fun n => [D.int .u8 n]) 0, .bool b] h fun d _ => d = .bool true := by
 rw [len_sumI] at t
 rw [← bys_c o]
 exact (F_lecternlaw03_ScanShows_w (bys y) b (G := fun b => b = true) h ⟨true, scanShows (bys y) b (by rw [bys_len]; omega), rfl⟩).mono fun d h' ⟨r, hr, hd⟩ => by subst hr; exact hd
end Go.Proofs.YtfokkdofcekdbaaDoor
