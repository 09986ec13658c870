/- The call of ScanBars. No condition. -/
import Derived.Test.YtfokkdofcekdbaaDoorX1
import Derived.Test.YtfokkdofcekdbaaDoorWk
import Derived.Test.YtfokkdofcekdbaaDoorSy
set_option linter.unusedVariables false
namespace Go.Proofs.YtfokkdofcekdbaaDoor
theorem u8_ok {n : Int} (h : okI .u8 n) : 0 ≤ n ∧ n ≤ 255 := by
  unfold okI at h
  have e1 : IntKind.min .u8 = 0 := by decide
  have e2 : IntKind.max .u8 = 255 := by decide
  rw [e1, e2] at h
  exact h
theorem scanBars_calls (y z : List Int) (c : Int) (o : ∀ n ∈ y, okI .u8 n) (o1 : ∀ n ∈ z, okI .u8 n) (o2 : okI .u8 c) (t : (y.map fun _ => 1).sum + 1 ≤ 1048576) (t1 : (z.map fun _ => 1).sum + 1 ≤ 1048576) (h : Heap) :
    CallsA Tryd.prog 7 [.sl 1 (y.map fun n => [D.int .u8 n]) 0, .sl 1 (z.map fun n => [D.int .u8 n]) 0, .int .u8 c] h fun d _ => d = .bool true := by
  rw [len_sumI] at t t1
  rw [← bys_c o, ← bys_c o1]
  exact (F_lecternlaw03_ScanBars_w (bys y) (bys z) c (G := fun b => b = true) h ⟨true, scanBars (bys y) (bys z) c (by rw [bys_len]; omega) (by rw [bys_len]; omega) (u8_ok o2), rfl⟩).mono fun d h' ⟨r, hr, hd⟩ => by subst hr; exact hd
end Go.Proofs.YtfokkdofcekdbaaDoor
