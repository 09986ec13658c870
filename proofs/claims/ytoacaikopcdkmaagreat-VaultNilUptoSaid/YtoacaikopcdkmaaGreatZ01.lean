/- num.Of: the number that the first bytes are. No condition. -/
import Derived.Test.YtoacaikopcdkmaaGreatProg
import Derived.Tactics
import Derived.Tactics2
import Derived.Laws.Pointers
import Derived.Laws.Bits64b
import Derived.RegionTactic
import Derived.RegionCalls
import Derived.Laws.MakeOwn
import Derived.Laws.Tables
import Derived.Lib.SliceRun
import Derived.Sort.WalkA
import Derived.WalkKit
set_option linter.unusedSimpArgs false
set_option linter.unusedVariables false
namespace Go.Proofs.YtoacaikopcdkmaaGreat
open Go.RowKit Go.Sort
/-- The number of the first bytes. -/
def nv (f : Nat → UInt8) : Nat → Nat
  | 0 => 0
  | m + 1 => nv f m * 256 + (f m).toNat
theorem nv_lt (f : Nat → UInt8) : ∀ m, nv f m < 256 ^ m
  | 0 => by simp [nv]
  | m + 1 => by
    have h1 := nv_lt f m
    have h2 := (f m).toNat_lt
    rw [nv, Nat.pow_succ]
    omega
theorem of_step (x c : Nat) (hx : x < 72057594037927936) (hc : c < 256) : bits BinOp.or IntKind.u64 (IntKind.u64.wrap ((x : Int) * 256)) (IntKind.u64.wrap (c : Int)) = ((x * 256 + c : Nat) : Int) := by
  have e1 : IntKind.u64.wrap ((x : Int) * 256) = ((x * 256 : Nat) : Int) := by
    unfold IntKind.wrap
    simp only [IntKind.bits, IntKind.signed, Bool.false_and, Bool.false_eq_true, if_false, Int.reducePow]
    omega
  have e2 : IntKind.u64.wrap (c : Int) = (c : Int) := by
    unfold IntKind.wrap
    simp only [IntKind.bits, IntKind.signed, Bool.false_and, Bool.false_eq_true, if_false, Int.reducePow]
    omega
  rw [e1, e2, bits_or_u64_nat _ _ (by omega) (by omega)]
  have := Nat.two_pow_add_eq_or_of_lt (i := 8) (b := c) (by omega) x
  rw [Nat.mul_comm, show (256 : Nat) = 2 ^ 8 from rfl, ← this]
set_option maxRecDepth 100000 in
set_option maxHeartbeats 1600000 in
theorem c_of (g o n c k : Nat) (f : Nat → UInt8) (w : World) (h1 : (k : Int) ≤ n) (h2 : n ≤ c) (hk : k ≤ 8) (hc : ∀ i : Nat, (i : Int) < k → w.cell? ⟨g, o + i, none⟩ = some (.int .u8 ((f i).toNat : Int))) :
    Calls Tryz.prog 104 #[.slice (some ⟨g, o, none⟩) n c, .int .i64 k] w fun e w' => e = .returned (.int .u64 (nv f k : Int)) ∧ w' = w := by
  go_enter Tryz.func104, Tryz.ntmps104
  go_wp2
  go_loop [5, 12] (fun t i => ∃ m : Nat, m ≤ k ∧ i = .int .i64 (m : Int) ∧ t = .int .u64 (nv f m : Int)) (fun _ i => 200 - (intOf i).toNat)
  case atStart => exact ⟨0, Nat.zero_le _, rfl, rfl⟩
  case round =>
    obtain ⟨m, hm, rfl, rfl⟩ := hrel
    by_cases hlt : (m : Int) < k
    · have hcm := hc m hlt
      go_wp2
      have hx : nv f m < 72057594037927936 := by
        have h3 := nv_lt f m
        have h4 : 256 ^ m ≤ 256 ^ 7 := Nat.pow_le_pow_right (by decide) (by omega)
        exact Nat.lt_of_lt_of_le h3 h4
      rw [of_step _ _ hx (f m).toNat_lt]
      refine ⟨⟨m + 1, by omega, by go_num, rfl⟩, ?_⟩
      simp [intOf]
      omega
    · go_wp2
      go_ret
      have : m = k := by omega
      subst this
      exact ⟨rfl, rfl⟩
end Go.Proofs.YtoacaikopcdkmaaGreat
