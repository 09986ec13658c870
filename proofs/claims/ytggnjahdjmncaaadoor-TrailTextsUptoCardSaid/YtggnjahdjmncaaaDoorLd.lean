/- UTF-8, read by two codes: the same. No condition. -/
import Derived.Test.YtggnjahdjmncaaaDoorLb
set_option linter.unusedSimpArgs false
set_option linter.unusedVariables false
set_option maxRecDepth 20000
namespace Go.Proofs.YtggnjahdjmncaaaDoor
open Go.Lib (decodeL decodeN)

/-- What the plain code reads. -/
def readN (n b0 b1 b2 b3 : Nat) : Int × Int :=
  if b0 < 128 then (b0, 1)
  else if 192 ≤ b0 ∧ b0 < 224 then
    (if n < 2 then (0, 0) else if b1 < 128 ∨ 191 < b1 then (0, 0) else
      if (64 * ((b0 : Int) - 192) + b1 - 128 < 128 ∨ 1114111 < 64 * ((b0 : Int) - 192) + b1 - 128) ∨ (55296 ≤ 64 * ((b0 : Int) - 192) + b1 - 128 ∧ 64 * ((b0 : Int) - 192) + b1 - 128 ≤ 57343) then (0, 0) else (64 * ((b0 : Int) - 192) + b1 - 128, 2))
  else if 224 ≤ b0 ∧ b0 < 240 then
    (if n < 3 then (0, 0) else if b1 < 128 ∨ 191 < b1 then (0, 0) else if b2 < 128 ∨ 191 < b2 then (0, 0) else
      if (64 * (64 * ((b0 : Int) - 224) + b1 - 128) + b2 - 128 < 2048 ∨ 1114111 < 64 * (64 * ((b0 : Int) - 224) + b1 - 128) + b2 - 128) ∨ (55296 ≤ 64 * (64 * ((b0 : Int) - 224) + b1 - 128) + b2 - 128 ∧ 64 * (64 * ((b0 : Int) - 224) + b1 - 128) + b2 - 128 ≤ 57343) then (0, 0) else (64 * (64 * ((b0 : Int) - 224) + b1 - 128) + b2 - 128, 3))
  else if 240 ≤ b0 ∧ b0 < 248 then
    (if n < 4 then (0, 0) else if b1 < 128 ∨ 191 < b1 then (0, 0) else if b2 < 128 ∨ 191 < b2 then (0, 0) else if b3 < 128 ∨ 191 < b3 then (0, 0) else
      if (64 * (64 * (64 * ((b0 : Int) - 240) + b1 - 128) + b2 - 128) + b3 - 128 < 65536 ∨ 1114111 < 64 * (64 * (64 * ((b0 : Int) - 240) + b1 - 128) + b2 - 128) + b3 - 128) ∨ (55296 ≤ 64 * (64 * (64 * ((b0 : Int) - 240) + b1 - 128) + b2 - 128) + b3 - 128 ∧ 64 * (64 * (64 * ((b0 : Int) - 240) + b1 - 128) + b2 - 128) + b3 - 128 ≤ 57343) then (0, 0) else (64 * (64 * (64 * ((b0 : Int) - 240) + b1 - 128) + b2 - 128) + b3 - 128, 4))
  else (0, 0)
/-- Malformed: the answer of the library's decoder. -/
def badR (d : Nat × Nat) : Bool := decide (d.1 = 65533 ∧ d.2 = 1)
theorem readN_eq (n b0 b1 b2 b3 : Nat) (hn : 1 ≤ n) (h0 : b0 < 256) (h1 : b1 < 256) (h2 : b2 < 256) (h3 : b3 < 256) :
    readN n b0 b1 b2 b3 = if badR (decodeN n b0 b1 b2 b3) then (0, 0) else (((decodeN n b0 b1 b2 b3).1 : Int), ((decodeN n b0 b1 b2 b3).2 : Int)) := by
  have key : (decodeN n b0 b1 b2 b3).1 = 65533 ∧ (decodeN n b0 b1 b2 b3).2 = 1 ∧ readN n b0 b1 b2 b3 = (0, 0) ∨ ((decodeN n b0 b1 b2 b3).2 ≠ 1 ∨ (decodeN n b0 b1 b2 b3).1 ≠ 65533) ∧ readN n b0 b1 b2 b3 = (((decodeN n b0 b1 b2 b3).1 : Int), ((decodeN n b0 b1 b2 b3).2 : Int)) := by
    by_cases c0 : b0 < 128
    · right
      have hD : decodeN n b0 b1 b2 b3 = (b0, 1) := by unfold decodeN; rw [if_pos c0]
      have hR : readN n b0 b1 b2 b3 = ((b0 : Int), 1) := by unfold readN; rw [if_pos c0]
      rw [hD, hR]; exact ⟨.inr (by simp only; omega), rfl⟩
    by_cases c1 : b0 < 192 ∨ 248 ≤ b0
    ·
      left
      have hD : decodeN n b0 b1 b2 b3 = (65533, 1) := by unfold decodeN; rw [if_neg (show ¬ (b0 < 128) by omega), if_neg (show ¬ (b0 / 32 = 6 ∧ (1 < n ∧ b1 / 64 = 2)) by omega), if_neg (show ¬ (b0 / 16 = 14 ∧ (1 < n ∧ b1 / 64 = 2) ∧ (2 < n ∧ b2 / 64 = 2)) by omega), if_neg (show ¬ (b0 / 8 = 30 ∧ (1 < n ∧ b1 / 64 = 2) ∧ (2 < n ∧ b2 / 64 = 2) ∧ (3 < n ∧ b3 / 64 = 2)) by omega)]
      have hR : readN n b0 b1 b2 b3 = (0, 0) := by unfold readN; rw [if_neg (show ¬ (b0 < 128) by omega), if_neg (show ¬ (192 ≤ b0 ∧ b0 < 224) by omega), if_neg (show ¬ (224 ≤ b0 ∧ b0 < 240) by omega), if_neg (show ¬ (240 ≤ b0 ∧ b0 < 248) by omega)]
      rw [hD, hR]; exact ⟨rfl, rfl, rfl⟩
    by_cases c2 : b0 < 224
    ·
      by_cases g : b0 / 32 = 6 ∧ (1 < n ∧ b1 / 64 = 2)
      ·
        by_cases g2 : b0 % 32 * 64 + b1 % 64 ≥ 128
        ·
          right
          have hD : decodeN n b0 b1 b2 b3 = (b0 % 32 * 64 + b1 % 64, 2) := by unfold decodeN; rw [if_neg (show ¬ (b0 < 128) by omega), if_pos g, if_pos g2]
          have hR : readN n b0 b1 b2 b3 = (64 * ((b0 : Int) - 192) + b1 - 128, 2) := by unfold readN; rw [if_neg (show ¬ (b0 < 128) by omega), if_pos (show 192 ≤ b0 ∧ b0 < 224 by omega), if_neg (show ¬ (n < 2) by omega), if_neg (show ¬ (b1 < 128 ∨ 191 < b1) by omega), if_neg (show ¬ ((64 * ((b0 : Int) - 192) + b1 - 128 < 128 ∨ 1114111 < 64 * ((b0 : Int) - 192) + b1 - 128) ∨ (55296 ≤ 64 * ((b0 : Int) - 192) + b1 - 128 ∧ 64 * ((b0 : Int) - 192) + b1 - 128 ≤ 57343)) by omega)]
          rw [hD, hR]; exact ⟨.inl (by simp only; omega), by simp only [Prod.mk.injEq]; omega⟩
        ·
          left
          have hD : decodeN n b0 b1 b2 b3 = (65533, 1) := by unfold decodeN; rw [if_neg (show ¬ (b0 < 128) by omega), if_pos g, if_neg g2]
          have hR : readN n b0 b1 b2 b3 = (0, 0) := by unfold readN; rw [if_neg (show ¬ (b0 < 128) by omega), if_pos (show 192 ≤ b0 ∧ b0 < 224 by omega), if_neg (show ¬ (n < 2) by omega), if_neg (show ¬ (b1 < 128 ∨ 191 < b1) by omega), if_pos (show (64 * ((b0 : Int) - 192) + b1 - 128 < 128 ∨ 1114111 < 64 * ((b0 : Int) - 192) + b1 - 128) ∨ (55296 ≤ 64 * ((b0 : Int) - 192) + b1 - 128 ∧ 64 * ((b0 : Int) - 192) + b1 - 128 ≤ 57343) by omega)]
          rw [hD, hR]; exact ⟨rfl, rfl, rfl⟩
      ·
        by_cases g3 : n < 2
        ·
          left
          have hD : decodeN n b0 b1 b2 b3 = (65533, 1) := by unfold decodeN; rw [if_neg (show ¬ (b0 < 128) by omega), if_neg g, if_neg (show ¬ (b0 / 16 = 14 ∧ (1 < n ∧ b1 / 64 = 2) ∧ (2 < n ∧ b2 / 64 = 2)) by omega), if_neg (show ¬ (b0 / 8 = 30 ∧ (1 < n ∧ b1 / 64 = 2) ∧ (2 < n ∧ b2 / 64 = 2) ∧ (3 < n ∧ b3 / 64 = 2)) by omega)]
          have hR : readN n b0 b1 b2 b3 = (0, 0) := by unfold readN; rw [if_neg (show ¬ (b0 < 128) by omega), if_pos (show 192 ≤ b0 ∧ b0 < 224 by omega), if_pos g3]
          rw [hD, hR]; exact ⟨rfl, rfl, rfl⟩
        have f1 : b1 < 128 ∨ 191 < b1 := by omega
        left
        have hD : decodeN n b0 b1 b2 b3 = (65533, 1) := by unfold decodeN; rw [if_neg (show ¬ (b0 < 128) by omega), if_neg g, if_neg (show ¬ (b0 / 16 = 14 ∧ (1 < n ∧ b1 / 64 = 2) ∧ (2 < n ∧ b2 / 64 = 2)) by omega), if_neg (show ¬ (b0 / 8 = 30 ∧ (1 < n ∧ b1 / 64 = 2) ∧ (2 < n ∧ b2 / 64 = 2) ∧ (3 < n ∧ b3 / 64 = 2)) by omega)]
        have hR : readN n b0 b1 b2 b3 = (0, 0) := by unfold readN; rw [if_neg (show ¬ (b0 < 128) by omega), if_pos (show 192 ≤ b0 ∧ b0 < 224 by omega), if_neg g3, if_pos f1]
        rw [hD, hR]; exact ⟨rfl, rfl, rfl⟩
    by_cases c3 : b0 < 240
    ·
      by_cases g : b0 / 16 = 14 ∧ (1 < n ∧ b1 / 64 = 2) ∧ (2 < n ∧ b2 / 64 = 2)
      ·
        by_cases g2 : b0 % 16 * 4096 + b1 % 64 * 64 + b2 % 64 ≥ 2048 ∧ (b0 % 16 * 4096 + b1 % 64 * 64 + b2 % 64 < 55296 ∨ (57344 ≤ b0 % 16 * 4096 + b1 % 64 * 64 + b2 % 64 ∧ b0 % 16 * 4096 + b1 % 64 * 64 + b2 % 64 ≤ 1114111))
        ·
          right
          have hD : decodeN n b0 b1 b2 b3 = (b0 % 16 * 4096 + b1 % 64 * 64 + b2 % 64, 3) := by unfold decodeN; rw [if_neg (show ¬ (b0 < 128) by omega), if_neg (show ¬ (b0 / 32 = 6 ∧ (1 < n ∧ b1 / 64 = 2)) by omega), if_pos g, if_pos g2]
          have hR : readN n b0 b1 b2 b3 = (64 * (64 * ((b0 : Int) - 224) + b1 - 128) + b2 - 128, 3) := by unfold readN; rw [if_neg (show ¬ (b0 < 128) by omega), if_neg (show ¬ (192 ≤ b0 ∧ b0 < 224) by omega), if_pos (show 224 ≤ b0 ∧ b0 < 240 by omega), if_neg (show ¬ (n < 3) by omega), if_neg (show ¬ (b1 < 128 ∨ 191 < b1) by omega), if_neg (show ¬ (b2 < 128 ∨ 191 < b2) by omega), if_neg (show ¬ ((64 * (64 * ((b0 : Int) - 224) + b1 - 128) + b2 - 128 < 2048 ∨ 1114111 < 64 * (64 * ((b0 : Int) - 224) + b1 - 128) + b2 - 128) ∨ (55296 ≤ 64 * (64 * ((b0 : Int) - 224) + b1 - 128) + b2 - 128 ∧ 64 * (64 * ((b0 : Int) - 224) + b1 - 128) + b2 - 128 ≤ 57343)) by omega)]
          rw [hD, hR]; exact ⟨.inl (by simp only; omega), by simp only [Prod.mk.injEq]; omega⟩
        ·
          left
          have hD : decodeN n b0 b1 b2 b3 = (65533, 1) := by unfold decodeN; rw [if_neg (show ¬ (b0 < 128) by omega), if_neg (show ¬ (b0 / 32 = 6 ∧ (1 < n ∧ b1 / 64 = 2)) by omega), if_pos g, if_neg g2]
          have hR : readN n b0 b1 b2 b3 = (0, 0) := by unfold readN; rw [if_neg (show ¬ (b0 < 128) by omega), if_neg (show ¬ (192 ≤ b0 ∧ b0 < 224) by omega), if_pos (show 224 ≤ b0 ∧ b0 < 240 by omega), if_neg (show ¬ (n < 3) by omega), if_neg (show ¬ (b1 < 128 ∨ 191 < b1) by omega), if_neg (show ¬ (b2 < 128 ∨ 191 < b2) by omega), if_pos (show (64 * (64 * ((b0 : Int) - 224) + b1 - 128) + b2 - 128 < 2048 ∨ 1114111 < 64 * (64 * ((b0 : Int) - 224) + b1 - 128) + b2 - 128) ∨ (55296 ≤ 64 * (64 * ((b0 : Int) - 224) + b1 - 128) + b2 - 128 ∧ 64 * (64 * ((b0 : Int) - 224) + b1 - 128) + b2 - 128 ≤ 57343) by omega)]
          rw [hD, hR]; exact ⟨rfl, rfl, rfl⟩
      ·
        by_cases g3 : n < 3
        ·
          left
          have hD : decodeN n b0 b1 b2 b3 = (65533, 1) := by unfold decodeN; rw [if_neg (show ¬ (b0 < 128) by omega), if_neg (show ¬ (b0 / 32 = 6 ∧ (1 < n ∧ b1 / 64 = 2)) by omega), if_neg g, if_neg (show ¬ (b0 / 8 = 30 ∧ (1 < n ∧ b1 / 64 = 2) ∧ (2 < n ∧ b2 / 64 = 2) ∧ (3 < n ∧ b3 / 64 = 2)) by omega)]
          have hR : readN n b0 b1 b2 b3 = (0, 0) := by unfold readN; rw [if_neg (show ¬ (b0 < 128) by omega), if_neg (show ¬ (192 ≤ b0 ∧ b0 < 224) by omega), if_pos (show 224 ≤ b0 ∧ b0 < 240 by omega), if_pos g3]
          rw [hD, hR]; exact ⟨rfl, rfl, rfl⟩
        by_cases f1 : b1 < 128 ∨ 191 < b1
        ·
          left
          have hD : decodeN n b0 b1 b2 b3 = (65533, 1) := by unfold decodeN; rw [if_neg (show ¬ (b0 < 128) by omega), if_neg (show ¬ (b0 / 32 = 6 ∧ (1 < n ∧ b1 / 64 = 2)) by omega), if_neg g, if_neg (show ¬ (b0 / 8 = 30 ∧ (1 < n ∧ b1 / 64 = 2) ∧ (2 < n ∧ b2 / 64 = 2) ∧ (3 < n ∧ b3 / 64 = 2)) by omega)]
          have hR : readN n b0 b1 b2 b3 = (0, 0) := by unfold readN; rw [if_neg (show ¬ (b0 < 128) by omega), if_neg (show ¬ (192 ≤ b0 ∧ b0 < 224) by omega), if_pos (show 224 ≤ b0 ∧ b0 < 240 by omega), if_neg g3, if_pos f1]
          rw [hD, hR]; exact ⟨rfl, rfl, rfl⟩
        have f2 : b2 < 128 ∨ 191 < b2 := by omega
        left
        have hD : decodeN n b0 b1 b2 b3 = (65533, 1) := by unfold decodeN; rw [if_neg (show ¬ (b0 < 128) by omega), if_neg (show ¬ (b0 / 32 = 6 ∧ (1 < n ∧ b1 / 64 = 2)) by omega), if_neg g, if_neg (show ¬ (b0 / 8 = 30 ∧ (1 < n ∧ b1 / 64 = 2) ∧ (2 < n ∧ b2 / 64 = 2) ∧ (3 < n ∧ b3 / 64 = 2)) by omega)]
        have hR : readN n b0 b1 b2 b3 = (0, 0) := by unfold readN; rw [if_neg (show ¬ (b0 < 128) by omega), if_neg (show ¬ (192 ≤ b0 ∧ b0 < 224) by omega), if_pos (show 224 ≤ b0 ∧ b0 < 240 by omega), if_neg g3, if_neg f1, if_pos f2]
        rw [hD, hR]; exact ⟨rfl, rfl, rfl⟩
    by_cases c4 : b0 < 248
    ·
      by_cases g : b0 / 8 = 30 ∧ (1 < n ∧ b1 / 64 = 2) ∧ (2 < n ∧ b2 / 64 = 2) ∧ (3 < n ∧ b3 / 64 = 2)
      ·
        by_cases g2 : b0 % 8 * 262144 + b1 % 64 * 4096 + b2 % 64 * 64 + b3 % 64 ≥ 65536 ∧ (b0 % 8 * 262144 + b1 % 64 * 4096 + b2 % 64 * 64 + b3 % 64 < 55296 ∨ (57344 ≤ b0 % 8 * 262144 + b1 % 64 * 4096 + b2 % 64 * 64 + b3 % 64 ∧ b0 % 8 * 262144 + b1 % 64 * 4096 + b2 % 64 * 64 + b3 % 64 ≤ 1114111))
        ·
          right
          have hD : decodeN n b0 b1 b2 b3 = (b0 % 8 * 262144 + b1 % 64 * 4096 + b2 % 64 * 64 + b3 % 64, 4) := by unfold decodeN; rw [if_neg (show ¬ (b0 < 128) by omega), if_neg (show ¬ (b0 / 32 = 6 ∧ (1 < n ∧ b1 / 64 = 2)) by omega), if_neg (show ¬ (b0 / 16 = 14 ∧ (1 < n ∧ b1 / 64 = 2) ∧ (2 < n ∧ b2 / 64 = 2)) by omega), if_pos g, if_pos g2]
          have hR : readN n b0 b1 b2 b3 = (64 * (64 * (64 * ((b0 : Int) - 240) + b1 - 128) + b2 - 128) + b3 - 128, 4) := by unfold readN; rw [if_neg (show ¬ (b0 < 128) by omega), if_neg (show ¬ (192 ≤ b0 ∧ b0 < 224) by omega), if_neg (show ¬ (224 ≤ b0 ∧ b0 < 240) by omega), if_pos (show 240 ≤ b0 ∧ b0 < 248 by omega), if_neg (show ¬ (n < 4) by omega), if_neg (show ¬ (b1 < 128 ∨ 191 < b1) by omega), if_neg (show ¬ (b2 < 128 ∨ 191 < b2) by omega), if_neg (show ¬ (b3 < 128 ∨ 191 < b3) by omega), if_neg (show ¬ ((64 * (64 * (64 * ((b0 : Int) - 240) + b1 - 128) + b2 - 128) + b3 - 128 < 65536 ∨ 1114111 < 64 * (64 * (64 * ((b0 : Int) - 240) + b1 - 128) + b2 - 128) + b3 - 128) ∨ (55296 ≤ 64 * (64 * (64 * ((b0 : Int) - 240) + b1 - 128) + b2 - 128) + b3 - 128 ∧ 64 * (64 * (64 * ((b0 : Int) - 240) + b1 - 128) + b2 - 128) + b3 - 128 ≤ 57343)) by omega)]
          rw [hD, hR]; exact ⟨.inl (by simp only; omega), by simp only [Prod.mk.injEq]; omega⟩
        ·
          left
          have hD : decodeN n b0 b1 b2 b3 = (65533, 1) := by unfold decodeN; rw [if_neg (show ¬ (b0 < 128) by omega), if_neg (show ¬ (b0 / 32 = 6 ∧ (1 < n ∧ b1 / 64 = 2)) by omega), if_neg (show ¬ (b0 / 16 = 14 ∧ (1 < n ∧ b1 / 64 = 2) ∧ (2 < n ∧ b2 / 64 = 2)) by omega), if_pos g, if_neg g2]
          have hR : readN n b0 b1 b2 b3 = (0, 0) := by unfold readN; rw [if_neg (show ¬ (b0 < 128) by omega), if_neg (show ¬ (192 ≤ b0 ∧ b0 < 224) by omega), if_neg (show ¬ (224 ≤ b0 ∧ b0 < 240) by omega), if_pos (show 240 ≤ b0 ∧ b0 < 248 by omega), if_neg (show ¬ (n < 4) by omega), if_neg (show ¬ (b1 < 128 ∨ 191 < b1) by omega), if_neg (show ¬ (b2 < 128 ∨ 191 < b2) by omega), if_neg (show ¬ (b3 < 128 ∨ 191 < b3) by omega), if_pos (show (64 * (64 * (64 * ((b0 : Int) - 240) + b1 - 128) + b2 - 128) + b3 - 128 < 65536 ∨ 1114111 < 64 * (64 * (64 * ((b0 : Int) - 240) + b1 - 128) + b2 - 128) + b3 - 128) ∨ (55296 ≤ 64 * (64 * (64 * ((b0 : Int) - 240) + b1 - 128) + b2 - 128) + b3 - 128 ∧ 64 * (64 * (64 * ((b0 : Int) - 240) + b1 - 128) + b2 - 128) + b3 - 128 ≤ 57343) by omega)]
          rw [hD, hR]; exact ⟨rfl, rfl, rfl⟩
      ·
        by_cases g3 : n < 4
        ·
          left
          have hD : decodeN n b0 b1 b2 b3 = (65533, 1) := by unfold decodeN; rw [if_neg (show ¬ (b0 < 128) by omega), if_neg (show ¬ (b0 / 32 = 6 ∧ (1 < n ∧ b1 / 64 = 2)) by omega), if_neg (show ¬ (b0 / 16 = 14 ∧ (1 < n ∧ b1 / 64 = 2) ∧ (2 < n ∧ b2 / 64 = 2)) by omega), if_neg g]
          have hR : readN n b0 b1 b2 b3 = (0, 0) := by unfold readN; rw [if_neg (show ¬ (b0 < 128) by omega), if_neg (show ¬ (192 ≤ b0 ∧ b0 < 224) by omega), if_neg (show ¬ (224 ≤ b0 ∧ b0 < 240) by omega), if_pos (show 240 ≤ b0 ∧ b0 < 248 by omega), if_pos g3]
          rw [hD, hR]; exact ⟨rfl, rfl, rfl⟩
        by_cases f1 : b1 < 128 ∨ 191 < b1
        ·
          left
          have hD : decodeN n b0 b1 b2 b3 = (65533, 1) := by unfold decodeN; rw [if_neg (show ¬ (b0 < 128) by omega), if_neg (show ¬ (b0 / 32 = 6 ∧ (1 < n ∧ b1 / 64 = 2)) by omega), if_neg (show ¬ (b0 / 16 = 14 ∧ (1 < n ∧ b1 / 64 = 2) ∧ (2 < n ∧ b2 / 64 = 2)) by omega), if_neg g]
          have hR : readN n b0 b1 b2 b3 = (0, 0) := by unfold readN; rw [if_neg (show ¬ (b0 < 128) by omega), if_neg (show ¬ (192 ≤ b0 ∧ b0 < 224) by omega), if_neg (show ¬ (224 ≤ b0 ∧ b0 < 240) by omega), if_pos (show 240 ≤ b0 ∧ b0 < 248 by omega), if_neg g3, if_pos f1]
          rw [hD, hR]; exact ⟨rfl, rfl, rfl⟩
        by_cases f2 : b2 < 128 ∨ 191 < b2
        ·
          left
          have hD : decodeN n b0 b1 b2 b3 = (65533, 1) := by unfold decodeN; rw [if_neg (show ¬ (b0 < 128) by omega), if_neg (show ¬ (b0 / 32 = 6 ∧ (1 < n ∧ b1 / 64 = 2)) by omega), if_neg (show ¬ (b0 / 16 = 14 ∧ (1 < n ∧ b1 / 64 = 2) ∧ (2 < n ∧ b2 / 64 = 2)) by omega), if_neg g]
          have hR : readN n b0 b1 b2 b3 = (0, 0) := by unfold readN; rw [if_neg (show ¬ (b0 < 128) by omega), if_neg (show ¬ (192 ≤ b0 ∧ b0 < 224) by omega), if_neg (show ¬ (224 ≤ b0 ∧ b0 < 240) by omega), if_pos (show 240 ≤ b0 ∧ b0 < 248 by omega), if_neg g3, if_neg f1, if_pos f2]
          rw [hD, hR]; exact ⟨rfl, rfl, rfl⟩
        have f3 : b3 < 128 ∨ 191 < b3 := by omega
        left
        have hD : decodeN n b0 b1 b2 b3 = (65533, 1) := by unfold decodeN; rw [if_neg (show ¬ (b0 < 128) by omega), if_neg (show ¬ (b0 / 32 = 6 ∧ (1 < n ∧ b1 / 64 = 2)) by omega), if_neg (show ¬ (b0 / 16 = 14 ∧ (1 < n ∧ b1 / 64 = 2) ∧ (2 < n ∧ b2 / 64 = 2)) by omega), if_neg g]
        have hR : readN n b0 b1 b2 b3 = (0, 0) := by unfold readN; rw [if_neg (show ¬ (b0 < 128) by omega), if_neg (show ¬ (192 ≤ b0 ∧ b0 < 224) by omega), if_neg (show ¬ (224 ≤ b0 ∧ b0 < 240) by omega), if_pos (show 240 ≤ b0 ∧ b0 < 248 by omega), if_neg g3, if_neg f1, if_neg f2, if_pos f3]
        rw [hD, hR]; exact ⟨rfl, rfl, rfl⟩
    exact absurd c4 (by omega)
  unfold badR
  rcases key with ⟨k1, k2, k3⟩ | ⟨k1, k2⟩
  · rw [decide_eq_true ⟨k1, k2⟩, k3]; rfl
  · rw [decide_eq_false (by omega), k2]; rfl
end Go.Proofs.YtggnjahdjmncaaaDoor
