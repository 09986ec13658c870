/- unicode.SimpleFold at six letters. No condition. -/
import Derived.Test.YtjofelloaofooaaGreatDoorProg
import Derived.WalkKit
import Derived.WalkSpells
set_option linter.unusedSimpArgs false
namespace Go.Proofs.YtjofelloaofooaaGreatDoor
open Go.Proofs.Tryz
open Go.RowKit
set_option maxHeartbeats 1000000 in
theorem QA (r : Nat) (v : Int) (hr : r < 128) (hv : 0 <= v /\ v < 128) (w : World) (hc : w.cell? ⟨2, r, none⟩ = some (.int .u16 v)) :
 Calls prog 110 #[.int .i32 (r : Int)] w fun e w' => e = .returned (.int .i32 v) /\ w' = w := by
 have h1 : ¬ ((r : Int) < 0) := by omega
 have h2 : ¬ ((1114111 : Int) < (r : Int)) := by omega
 have h3 : (r : Int) < 128 := by omega
 have h4 : IntKind.wrap .i64 (r : Int) = (r : Int) := by simp [IntKind.wrap, IntKind.bits, IntKind.signed]; omega
 have h5 : IntKind.wrap .i32 v = v := by simp [IntKind.wrap, IntKind.bits, IntKind.signed]; omega
 go_enter func110, ntmps110
 go_wp2
 go_ret
 exact ⟨by simp [h5], rfl⟩
end Go.Proofs.YtjofelloaofooaaGreatDoor
