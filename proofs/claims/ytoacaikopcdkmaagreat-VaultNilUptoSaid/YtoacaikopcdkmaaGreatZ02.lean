/- tape.Sum. No condition. -/
import Derived.Test.YtoacaikopcdkmaaGreatZ01
import Derived.Laws.BitsAllLaws
set_option linter.unusedSimpArgs false
set_option linter.unusedVariables false
namespace Go.Proofs.YtoacaikopcdkmaaGreat
open Go.RowKit Go.Sort
def crcBit (c : Nat) : Nat := (c / 2) ^^^ (c % 2 * 0xedb88320)
def crcI (c : Nat) : Nat → Nat
  | 0 => c
  | j + 1 => crcBit (crcI c j)
/-- The sum's state behind m bytes. -/
def crcS (f : Nat → UInt8) : Nat → Nat
  | 0 => 0xffffffff
  | m + 1 => crcI (crcS f m ^^^ (f m).toNat) 8
theorem bits_xor_u32_nat (a b : Nat) (ha : a < 4294967296) (hb : b < 4294967296) : bits .xor .u32 (a : Int) (b : Int) = ((a ^^^ b : Nat) : Int) := by
  have hx : a ^^^ b < 2 ^ 32 := Nat.xor_lt_two_pow (by omega) (by omega)
  have h1 : (BitVec.ofInt 32 (a : Int)).toNat = a := by
    rw [BitVec.ofInt_natCast, BitVec.toNat_ofNat]; exact Nat.mod_eq_of_lt (by omega)
  have h2 : (BitVec.ofInt 32 (b : Int)).toNat = b := by
    rw [BitVec.ofInt_natCast, BitVec.toNat_ofNat]; exact Nat.mod_eq_of_lt (by omega)
  show IntKind.u32.wrap ((BitVec.ofInt 32 (a : Int) ^^^ BitVec.ofInt 32 (b : Int)).toNat : Int) = _
  rw [BitVec.toNat_xor, h1, h2]
  unfold IntKind.wrap
  simp only [IntKind.bits, IntKind.signed, Bool.false_and, Bool.false_eq_true, if_false, Int.reducePow]
  omega
theorem bits_and_u32_one (a : Nat) (ha : a < 4294967296) : bits .and .u32 (a : Int) 1 = ((a % 2 : Nat) : Int) := by
  have h1 : (BitVec.ofInt 32 (a : Int)).toNat = a := by
    rw [BitVec.ofInt_natCast, BitVec.toNat_ofNat]; exact Nat.mod_eq_of_lt (by omega)
  have h2 : (BitVec.ofInt 32 (1 : Int)).toNat = 1 := by decide
  show IntKind.u32.wrap ((BitVec.ofInt 32 (a : Int) &&& BitVec.ofInt 32 (1 : Int)).toNat : Int) = _
  rw [BitVec.toNat_and, h1, h2, Nat.and_one_is_mod]
  unfold IntKind.wrap
  simp only [IntKind.bits, IntKind.signed, Bool.false_and, Bool.false_eq_true, if_false, Int.reducePow]
  omega
theorem crcBit_lt {c : Nat} (h : c < 4294967296) : crcBit c < 4294967296 := by
  unfold crcBit
  refine Nat.xor_lt_two_pow (n := 32) (by omega) ?_
  have : c % 2 = 0 ∨ c % 2 = 1 := by omega
  rcases this with h | h <;> rw [h] <;> decide
theorem crcI_lt {c : Nat} (h : c < 4294967296) : ∀ j, crcI c j < 4294967296
  | 0 => h
  | j + 1 => crcBit_lt (crcI_lt h j)
theorem crcS_lt (f : Nat → UInt8) : ∀ m, crcS f m < 4294967296
  | 0 => (show (4294967295 : Nat) < 4294967296 from by decide)
  | m + 1 => crcI_lt (Nat.xor_lt_two_pow (n := 32) (crcS_lt f m) (by have := (f m).toNat_lt; omega)) 8
set_option maxRecDepth 100000 in
set_option maxHeartbeats 1600000 in
theorem c_sum (g o n c : Nat) (f : Nat → UInt8) (w : World) (h1 : n ≤ c) (hn : n ≤ 1000000000) (hc : ∀ i : Nat, (i : Int) < n → w.cell? ⟨g, o + i, none⟩ = some (.int .u8 ((f i).toNat : Int))) :
    Calls Tryz.prog 135 #[.slice (some ⟨g, o, none⟩) n c] w fun e w' => e = .returned (.int .u32 ((crcS f n ^^^ 0xffffffff : Nat) : Int)) ∧ w' = w := by
  go_enter Tryz.func135, Tryz.ntmps135
  go_wp2
  go_loop [3, 9] (fun t i => ∃ m : Nat, m ≤ n ∧ i = .int .i64 (m : Int) ∧ t = .int .u32 (crcS f m : Int)) (fun _ i => 2000000000 - (intOf i).toNat)
  case atStart => exact ⟨0, Nat.zero_le _, rfl, rfl⟩
  case round =>
    obtain ⟨m, hm, rfl, rfl⟩ := hrel
    by_cases hlt : (m : Int) < n
    · have hcm := hc m hlt
      go_wp2
      have hb : crcS f m ^^^ (f m).toNat < 4294967296 := Nat.xor_lt_two_pow (n := 32) (crcS_lt f m) (by have := (f m).toNat_lt; omega)
      have hxr : bits BinOp.xor IntKind.u32 (↑(crcS f m)) (((f m).toNat : Int) % 4294967296) = ((crcS f m ^^^ (f m).toNat : Nat) : Int) := by
        have h3 := (f m).toNat_lt
        rw [show ((f m).toNat : Int) % 4294967296 = ((f m).toNat : Int) by omega]
        exact bits_xor_u32_nat _ _ (crcS_lt f m) (by omega)
      rw [hxr]
      go_loop [3, 17] (fun t i => ∃ j : Nat, j ≤ 8 ∧ i = .int .i64 (j : Int) ∧ t = .int .u32 (crcI (crcS f m ^^^ (f m).toNat) j : Int)) (fun _ i => 20 - (intOf i).toNat)
      case atStart => exact ⟨0, Nat.zero_le _, rfl, rfl⟩
      case round =>
        obtain ⟨j, hj, rfl, rfl⟩ := hrel
        have hcl := crcI_lt hb j
        generalize hC : crcI (crcS f m ^^^ (f m).toNat) j = C at hcl
        by_cases hlj : (j : Int) < 8
        · have hxp := bits_xor_u32_nat (C / 2) 3988292384 (by omega) (by omega)
          have hdiv : ((C / 2 : Nat) : Int) = (C : Int) / 2 := by omega
          have hmeas : 20 - (intOf (Value.int .i64 ((j : Int) + 1))).toNat < 20 - (intOf (Value.int .i64 (j : Int))).toNat := by
            simp [intOf]
            omega
          by_cases hodd : C % 2 = 1
          · have hand : (bits BinOp.and IntKind.u32 (C : Int) 1 == 1) = true := by rw [bits_and_u32_one C hcl, hodd]; rfl
            have hv : crcI (crcS f m ^^^ (f m).toNat) (j + 1) = C / 2 ^^^ 3988292384 := by
              show crcBit _ = _
              rw [hC]; unfold crcBit; rw [hodd]
            have hw1 : ((C / 2 ^^^ 3988292384 : Nat) : Int) = bits BinOp.xor IntKind.u32 ((C : Int) / 2) 3988292384 := by rw [← hdiv]; exact hxp.symm
            clear hxp hdiv
            go_wp2
            all_goals first
              | exact ⟨⟨j + 1, by omega, by go_num, by rw [hv, hw1]⟩, hmeas⟩
              | omega
          · have hand : (bits BinOp.and IntKind.u32 (C : Int) 1 == 1) = false := by rw [bits_and_u32_one C hcl, show C % 2 = 0 by omega]; rfl
            have hv : crcI (crcS f m ^^^ (f m).toNat) (j + 1) = C / 2 := by
              show crcBit _ = _
              rw [hC]; unfold crcBit; rw [show C % 2 = 0 by omega, Nat.zero_mul, Nat.xor_zero]
            clear hxp
            go_wp2
            all_goals first
              | exact ⟨⟨j + 1, by omega, by go_num, by rw [hv, hdiv]⟩, hmeas⟩
              | omega
        · go_wp2
          have hj8 : j = 8 := by omega
          subst hj8
          refine ⟨⟨m + 1, by omega, by go_num, ?_⟩, by simp [intOf]; omega⟩
          rw [← hC]; rfl
    · go_wp2
      go_ret
      have hmn : m = n := by omega
      subst hmn
      have hx : bits BinOp.xor IntKind.u32 IntKind.u32.max (crcS f m : Int) = ((crcS f m ^^^ 4294967295 : Nat) : Int) := by
        rw [show IntKind.u32.max = ((4294967295 : Nat) : Int) from by decide, bits_xor_u32_nat _ _ (by omega) (crcS_lt f m), Nat.xor_comm]
      rw [hx]
      exact ⟨rfl, rfl⟩
end Go.Proofs.YtoacaikopcdkmaaGreat
