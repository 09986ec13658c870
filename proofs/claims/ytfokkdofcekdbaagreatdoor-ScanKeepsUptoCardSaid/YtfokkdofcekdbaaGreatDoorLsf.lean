/- unicode.SimpleFold at six letters. No condition. -/
import Derived.Test.YtfokkdofcekdbaaGreatDoorProg
import Derived.WalkKit
import Derived.WalkSpells
namespace Go.Proofs.YtfokkdofcekdbaaGreatDoor
open Go.RowKit
set_option maxHeartbeats 1000000 in
theorem fold_one (r : Nat) (v : Int) (hr : r < 128) (hv : 0 ≤ v ∧ v < 128) (w : World) (hc : w.cell? ⟨3, r, none⟩ = some (.int .u16 v)) :
  Calls Tryz.prog 72 #[.int .i32 (r : Int)] w fun e w' => e = .returned (.int .i32 v) ∧ w' = w := by
 have h1 : ¬ ((r : Int) < 0) := by omega
 have h2 : ¬ ((1114111 : Int) < (r : Int)) := by omega
 have h3 : (r : Int) < 128 := by omega
 have h4 : IntKind.wrap .i64 (r : Int) = (r : Int) := by simp [IntKind.wrap, IntKind.bits, IntKind.signed]; omega
 have h5 : IntKind.wrap .i32 v = v := by simp [IntKind.wrap, IntKind.bits, IntKind.signed]; omega
 go_enter Tryz.func72, Tryz.ntmps72
 go_wp2
 go_ret
 exact ⟨by simp [h5], rfl⟩
end Go.Proofs.YtfokkdofcekdbaaGreatDoor
