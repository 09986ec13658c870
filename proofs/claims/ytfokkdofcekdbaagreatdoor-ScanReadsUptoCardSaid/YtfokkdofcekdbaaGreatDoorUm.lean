/- Rows of bytes. No condition. -/
import Derived.Test.YtfokkdofcekdbaaGreatDoorEng25
import Derived.Test.YtfokkdofcekdbaaGreatDoorZ3
import Derived.Test.YtfokkdofcekdbaaGreatDoorWk
set_option linter.unusedVariables false
namespace Go.Proofs.YtfokkdofcekdbaaGreatDoor
def bys (y : List Int) : List UInt8 := y.map fun n => UInt8.ofNat n.toNat
theorem bys_c {y : List Int} (o : ∀ n ∈ y, okI .u8 n) : (bys y).map c_u8 = y.map fun n => [D.int .u8 n] := by
 unfold bys
 rw [List.map_map]
 refine List.map_congr_left fun n hn => ?_
 have h := o n hn
 unfold okI at h
 have e1 : IntKind.min .u8 = 0 := by decide
 have e2 : IntKind.max .u8 = 255 := by decide
 rw [e1, e2] at h
 have h2 : (UInt8.ofNat n.toNat).toNat = n.toNat := by show n.toNat % 256 = n.toNat; omega
 show [D.int .u8 ((UInt8.ofNat n.toNat).toNat : Int)] = _
 rw [h2, Int.toNat_of_nonneg h.1]
theorem len_sumI (y : List Int) : (y.map fun _ => 1).sum = y.length := by
 induction y with
 | nil => rfl
 | cons a l ih => rw [List.map_cons, List.sum_cons, ih, List.length_cons]; omega
theorem bys_len (y : List Int) : (bys y).length = y.length := by unfold bys; rw [List.length_map]
theorem scanReads_calls (y : List Int) (o : ∀ n ∈ y, okI .u8 n) (t : (y.map fun _ => 1).sum + 1 ≤ 1048576) (h : Heap) :
  CallsA Tryz.prog 3 [.sl 1 (y.map fun n => [D.int .u8 n]) 0] h fun d _ => d = .bool true := by
 rw [len_sumI] at t
 rw [← bys_c o]
 exact (Fl_ScanReads_w (bys y) (G := fun b => b = true) h ⟨true, scanReads (bys y) (by rw [bys_len]; omega), rfl⟩).mono fun d h' ⟨r, hr, hd⟩ => by subst hr; exact hd
end Go.Proofs.YtfokkdofcekdbaaGreatDoor
