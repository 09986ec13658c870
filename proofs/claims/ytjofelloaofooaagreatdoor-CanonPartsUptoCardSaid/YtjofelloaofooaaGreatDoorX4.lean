/- UTF-8, read by two codes: the same. No condition. -/
import Derived.Lib.ValidLaws
import Derived.Lib.IndexMore
import Derived.Test.YtjofelloaofooaaGreatDoorX1
set_option linter.unusedSimpArgs false
set_option linter.unusedVariables false
set_option maxRecDepth 20000
namespace Go.Proofs.YtjofelloaofooaaGreatDoor
open Go.Lib (decodeL decodeN)
def C5 (n b0 b1 b2 b3 : Nat) : Int × Int :=
 if b0 < 128 then (b0, 1)
 else if 192 <= b0 /\ b0 < 224 then
  (if n < 2 then (0, 0) else if b1 < 128 \/ 191 < b1 then (0, 0) else
   if (64 * ((b0 : Int) - 192) + b1 - 128 < 128 \/ 1114111 < 64 * ((b0 : Int) - 192) + b1 - 128) \/ (55296 <= 64 * ((b0 : Int) - 192) + b1 - 128 /\ 64 * ((b0 : Int) - 192) + b1 - 128 <= 57343) then (0, 0) else (64 * ((b0 : Int) - 192) + b1 - 128, 2))
 else if 224 <= b0 /\ b0 < 240 then
  (if n < 3 then (0, 0) else if b1 < 128 \/ 191 < b1 then (0, 0) else if b2 < 128 \/ 191 < b2 then (0, 0) else
   if (64 * (64 * ((b0 : Int) - 224) + b1 - 128) + b2 - 128 < 2048 \/ 1114111 < 64 * (64 * ((b0 : Int) - 224) + b1 - 128) + b2 - 128) \/ (55296 <= 64 * (64 * ((b0 : Int) - 224) + b1 - 128) + b2 - 128 /\ 64 * (64 * ((b0 : Int) - 224) + b1 - 128) + b2 - 128 <= 57343) then (0, 0) else (64 * (64 * ((b0 : Int) - 224) + b1 - 128) + b2 - 128, 3))
 else if 240 <= b0 /\ b0 < 248 then
  (if n < 4 then (0, 0) else if b1 < 128 \/ 191 < b1 then (0, 0) else if b2 < 128 \/ 191 < b2 then (0, 0) else if b3 < 128 \/ 191 < b3 then (0, 0) else
   if (64 * (64 * (64 * ((b0 : Int) - 240) + b1 - 128) + b2 - 128) + b3 - 128 < 65536 \/ 1114111 < 64 * (64 * (64 * ((b0 : Int) - 240) + b1 - 128) + b2 - 128) + b3 - 128) \/ (55296 <= 64 * (64 * (64 * ((b0 : Int) - 240) + b1 - 128) + b2 - 128) + b3 - 128 /\ 64 * (64 * (64 * ((b0 : Int) - 240) + b1 - 128) + b2 - 128) + b3 - 128 <= 57343) then (0, 0) else (64 * (64 * (64 * ((b0 : Int) - 240) + b1 - 128) + b2 - 128) + b3 - 128, 4))
 else (0, 0)
def Nh (d : Nat × Nat) : Bool := decide (d.1 = 65533 /\ d.2 = 1)
theorem Qb (n b0 b1 b2 b3 : Nat) (hn : 1 <= n) (h0 : b0 < 256) (h1 : b1 < 256) (h2 : b2 < 256) (h3 : b3 < 256) :
  C5 n b0 b1 b2 b3 = if Nh (decodeN n b0 b1 b2 b3) then (0, 0) else (((decodeN n b0 b1 b2 b3).1 : Int), ((decodeN n b0 b1 b2 b3).2 : Int)) := by
 have key : (decodeN n b0 b1 b2 b3).1 = 65533 /\ (decodeN n b0 b1 b2 b3).2 = 1 /\ C5 n b0 b1 b2 b3 = (0, 0) \/ ((decodeN n b0 b1 b2 b3).2 ≠ 1 \/ (decodeN n b0 b1 b2 b3).1 ≠ 65533) /\ C5 n b0 b1 b2 b3 = (((decodeN n b0 b1 b2 b3).1 : Int), ((decodeN n b0 b1 b2 b3).2 : Int)) := by
  by_cases c0 : b0 < 128
  ·right;have hD : decodeN n b0 b1 b2 b3 = (b0, 1) := by unfold decodeN; rw [if_pos c0]
   have hR : C5 n b0 b1 b2 b3 = ((b0 : Int), 1) := by unfold C5; rw [if_pos c0]
   rw [hD, hR]; exact ⟨.inr (by simp only; omega), rfl⟩
  by_cases c1 : b0 < 192 \/ 248 <= b0
  ·
   left;have hD : decodeN n b0 b1 b2 b3 = (65533, 1) := by unfold decodeN; rw [if_neg (show ¬ (b0 < 128) by omega), if_neg (show ¬ (b0 / 32 = 6 /\ (1 < n /\ b1 / 64 = 2)) by omega), if_neg (show ¬ (b0 / 16 = 14 /\ (1 < n /\ b1 / 64 = 2) /\ (2 < n /\ b2 / 64 = 2)) by omega), if_neg (show ¬ (b0 / 8 = 30 /\ (1 < n /\ b1 / 64 = 2) /\ (2 < n /\ b2 / 64 = 2) /\ (3 < n /\ b3 / 64 = 2)) by omega)]
   have hR : C5 n b0 b1 b2 b3 = (0, 0) := by unfold C5; rw [if_neg (show ¬ (b0 < 128) by omega), if_neg (show ¬ (192 <= b0 /\ b0 < 224) by omega), if_neg (show ¬ (224 <= b0 /\ b0 < 240) by omega), if_neg (show ¬ (240 <= b0 /\ b0 < 248) by omega)]
   rw [hD, hR]; exact ⟨rfl, rfl, rfl⟩
  by_cases c2 : b0 < 224
  ·
   by_cases g : b0 / 32 = 6 /\ (1 < n /\ b1 / 64 = 2)
   ·
    by_cases g2 : b0 % 32 * 64 + b1 % 64 >= 128
    ·
     right;have hD : decodeN n b0 b1 b2 b3 = (b0 % 32 * 64 + b1 % 64, 2) := by unfold decodeN; rw [if_neg (show ¬ (b0 < 128) by omega), if_pos g, if_pos g2]
     have hR : C5 n b0 b1 b2 b3 = (64 * ((b0 : Int) - 192) + b1 - 128, 2) := by unfold C5; rw [if_neg (show ¬ (b0 < 128) by omega), if_pos (show 192 <= b0 /\ b0 < 224 by omega), if_neg (show ¬ (n < 2) by omega), if_neg (show ¬ (b1 < 128 \/ 191 < b1) by omega), if_neg (show ¬ ((64 * ((b0 : Int) - 192) + b1 - 128 < 128 \/ 1114111 < 64 * ((b0 : Int) - 192) + b1 - 128) \/ (55296 <= 64 * ((b0 : Int) - 192) + b1 - 128 /\ 64 * ((b0 : Int) - 192) + b1 - 128 <= 57343)) by omega)]
     rw [hD, hR]; exact ⟨.inl (by simp only; omega), by simp only [Prod.mk.injEq]; omega⟩
    ·
     left;have hD : decodeN n b0 b1 b2 b3 = (65533, 1) := by unfold decodeN; rw [if_neg (show ¬ (b0 < 128) by omega), if_pos g, if_neg g2]
     have hR : C5 n b0 b1 b2 b3 = (0, 0) := by unfold C5; rw [if_neg (show ¬ (b0 < 128) by omega), if_pos (show 192 <= b0 /\ b0 < 224 by omega), if_neg (show ¬ (n < 2) by omega), if_neg (show ¬ (b1 < 128 \/ 191 < b1) by omega), if_pos (show (64 * ((b0 : Int) - 192) + b1 - 128 < 128 \/ 1114111 < 64 * ((b0 : Int) - 192) + b1 - 128) \/ (55296 <= 64 * ((b0 : Int) - 192) + b1 - 128 /\ 64 * ((b0 : Int) - 192) + b1 - 128 <= 57343) by omega)]
     rw [hD, hR]; exact ⟨rfl, rfl, rfl⟩
   ·
    by_cases g3 : n < 2
    ·
     left;have hD : decodeN n b0 b1 b2 b3 = (65533, 1) := by unfold decodeN; rw [if_neg (show ¬ (b0 < 128) by omega), if_neg g, if_neg (show ¬ (b0 / 16 = 14 /\ (1 < n /\ b1 / 64 = 2) /\ (2 < n /\ b2 / 64 = 2)) by omega), if_neg (show ¬ (b0 / 8 = 30 /\ (1 < n /\ b1 / 64 = 2) /\ (2 < n /\ b2 / 64 = 2) /\ (3 < n /\ b3 / 64 = 2)) by omega)]
     have hR : C5 n b0 b1 b2 b3 = (0, 0) := by unfold C5; rw [if_neg (show ¬ (b0 < 128) by omega), if_pos (show 192 <= b0 /\ b0 < 224 by omega), if_pos g3]
     rw [hD, hR]; exact ⟨rfl, rfl, rfl⟩
    have f1 : b1 < 128 \/ 191 < b1 := by omega
    left;have hD : decodeN n b0 b1 b2 b3 = (65533, 1) := by unfold decodeN; rw [if_neg (show ¬ (b0 < 128) by omega), if_neg g, if_neg (show ¬ (b0 / 16 = 14 /\ (1 < n /\ b1 / 64 = 2) /\ (2 < n /\ b2 / 64 = 2)) by omega), if_neg (show ¬ (b0 / 8 = 30 /\ (1 < n /\ b1 / 64 = 2) /\ (2 < n /\ b2 / 64 = 2) /\ (3 < n /\ b3 / 64 = 2)) by omega)]
    have hR : C5 n b0 b1 b2 b3 = (0, 0) := by unfold C5; rw [if_neg (show ¬ (b0 < 128) by omega), if_pos (show 192 <= b0 /\ b0 < 224 by omega), if_neg g3, if_pos f1]
    rw [hD, hR]; exact ⟨rfl, rfl, rfl⟩
  by_cases c3 : b0 < 240
  ·
   by_cases g : b0 / 16 = 14 /\ (1 < n /\ b1 / 64 = 2) /\ (2 < n /\ b2 / 64 = 2)
   ·
    by_cases g2 : b0 % 16 * 4096 + b1 % 64 * 64 + b2 % 64 >= 2048 /\ (b0 % 16 * 4096 + b1 % 64 * 64 + b2 % 64 < 55296 \/ (57344 <= b0 % 16 * 4096 + b1 % 64 * 64 + b2 % 64 /\ b0 % 16 * 4096 + b1 % 64 * 64 + b2 % 64 <= 1114111))
    ·
     right;have hD : decodeN n b0 b1 b2 b3 = (b0 % 16 * 4096 + b1 % 64 * 64 + b2 % 64, 3) := by unfold decodeN; rw [if_neg (show ¬ (b0 < 128) by omega), if_neg (show ¬ (b0 / 32 = 6 /\ (1 < n /\ b1 / 64 = 2)) by omega), if_pos g, if_pos g2]
     have hR : C5 n b0 b1 b2 b3 = (64 * (64 * ((b0 : Int) - 224) + b1 - 128) + b2 - 128, 3) := by unfold C5; rw [if_neg (show ¬ (b0 < 128) by omega), if_neg (show ¬ (192 <= b0 /\ b0 < 224) by omega), if_pos (show 224 <= b0 /\ b0 < 240 by omega), if_neg (show ¬ (n < 3) by omega), if_neg (show ¬ (b1 < 128 \/ 191 < b1) by omega), if_neg (show ¬ (b2 < 128 \/ 191 < b2) by omega), if_neg (show ¬ ((64 * (64 * ((b0 : Int) - 224) + b1 - 128) + b2 - 128 < 2048 \/ 1114111 < 64 * (64 * ((b0 : Int) - 224) + b1 - 128) + b2 - 128) \/ (55296 <= 64 * (64 * ((b0 : Int) - 224) + b1 - 128) + b2 - 128 /\ 64 * (64 * ((b0 : Int) - 224) + b1 - 128) + b2 - 128 <= 57343)) by omega)]
     rw [hD, hR]; exact ⟨.inl (by simp only; omega), by simp only [Prod.mk.injEq]; omega⟩
    ·
     left;have hD : decodeN n b0 b1 b2 b3 = (65533, 1) := by unfold decodeN; rw [if_neg (show ¬ (b0 < 128) by omega), if_neg (show ¬ (b0 / 32 = 6 /\ (1 < n /\ b1 / 64 = 2)) by omega), if_pos g, if_neg g2]
     have hR : C5 n b0 b1 b2 b3 = (0, 0) := by unfold C5; rw [if_neg (show ¬ (b0 < 128) by omega), if_neg (show ¬ (192 <= b0 /\ b0 < 224) by omega), if_pos (show 224 <= b0 /\ b0 < 240 by omega), if_neg (show ¬ (n < 3) by omega), if_neg (show ¬ (b1 < 128 \/ 191 < b1) by omega), if_neg (show ¬ (b2 < 128 \/ 191 < b2) by omega), if_pos (show (64 * (64 * ((b0 : Int) - 224) + b1 - 128) + b2 - 128 < 2048 \/ 1114111 < 64 * (64 * ((b0 : Int) - 224) + b1 - 128) + b2 - 128) \/ (55296 <= 64 * (64 * ((b0 : Int) - 224) + b1 - 128) + b2 - 128 /\ 64 * (64 * ((b0 : Int) - 224) + b1 - 128) + b2 - 128 <= 57343) by omega)]
     rw [hD, hR]; exact ⟨rfl, rfl, rfl⟩
   ·
    by_cases g3 : n < 3
    ·
     left;have hD : decodeN n b0 b1 b2 b3 = (65533, 1) := by unfold decodeN; rw [if_neg (show ¬ (b0 < 128) by omega), if_neg (show ¬ (b0 / 32 = 6 /\ (1 < n /\ b1 / 64 = 2)) by omega), if_neg g, if_neg (show ¬ (b0 / 8 = 30 /\ (1 < n /\ b1 / 64 = 2) /\ (2 < n /\ b2 / 64 = 2) /\ (3 < n /\ b3 / 64 = 2)) by omega)]
     have hR : C5 n b0 b1 b2 b3 = (0, 0) := by unfold C5; rw [if_neg (show ¬ (b0 < 128) by omega), if_neg (show ¬ (192 <= b0 /\ b0 < 224) by omega), if_pos (show 224 <= b0 /\ b0 < 240 by omega), if_pos g3]
     rw [hD, hR]; exact ⟨rfl, rfl, rfl⟩
    by_cases f1 : b1 < 128 \/ 191 < b1
    ·
     left;have hD : decodeN n b0 b1 b2 b3 = (65533, 1) := by unfold decodeN; rw [if_neg (show ¬ (b0 < 128) by omega), if_neg (show ¬ (b0 / 32 = 6 /\ (1 < n /\ b1 / 64 = 2)) by omega), if_neg g, if_neg (show ¬ (b0 / 8 = 30 /\ (1 < n /\ b1 / 64 = 2) /\ (2 < n /\ b2 / 64 = 2) /\ (3 < n /\ b3 / 64 = 2)) by omega)]
     have hR : C5 n b0 b1 b2 b3 = (0, 0) := by unfold C5; rw [if_neg (show ¬ (b0 < 128) by omega), if_neg (show ¬ (192 <= b0 /\ b0 < 224) by omega), if_pos (show 224 <= b0 /\ b0 < 240 by omega), if_neg g3, if_pos f1]
     rw [hD, hR]; exact ⟨rfl, rfl, rfl⟩
    have f2 : b2 < 128 \/ 191 < b2 := by omega
    left;have hD : decodeN n b0 b1 b2 b3 = (65533, 1) := by unfold decodeN; rw [if_neg (show ¬ (b0 < 128) by omega), if_neg (show ¬ (b0 / 32 = 6 /\ (1 < n /\ b1 / 64 = 2)) by omega), if_neg g, if_neg (show ¬ (b0 / 8 = 30 /\ (1 < n /\ b1 / 64 = 2) /\ (2 < n /\ b2 / 64 = 2) /\ (3 < n /\ b3 / 64 = 2)) by omega)]
    have hR : C5 n b0 b1 b2 b3 = (0, 0) := by unfold C5; rw [if_neg (show ¬ (b0 < 128) by omega), if_neg (show ¬ (192 <= b0 /\ b0 < 224) by omega), if_pos (show 224 <= b0 /\ b0 < 240 by omega), if_neg g3, if_neg f1, if_pos f2]
    rw [hD, hR]; exact ⟨rfl, rfl, rfl⟩
  by_cases c4 : b0 < 248
  ·
   by_cases g : b0 / 8 = 30 /\ (1 < n /\ b1 / 64 = 2) /\ (2 < n /\ b2 / 64 = 2) /\ (3 < n /\ b3 / 64 = 2)
   ·
    by_cases g2 : b0 % 8 * 262144 + b1 % 64 * 4096 + b2 % 64 * 64 + b3 % 64 >= 65536 /\ (b0 % 8 * 262144 + b1 % 64 * 4096 + b2 % 64 * 64 + b3 % 64 < 55296 \/ (57344 <= b0 % 8 * 262144 + b1 % 64 * 4096 + b2 % 64 * 64 + b3 % 64 /\ b0 % 8 * 262144 + b1 % 64 * 4096 + b2 % 64 * 64 + b3 % 64 <= 1114111))
    ·
     right;have hD : decodeN n b0 b1 b2 b3 = (b0 % 8 * 262144 + b1 % 64 * 4096 + b2 % 64 * 64 + b3 % 64, 4) := by unfold decodeN; rw [if_neg (show ¬ (b0 < 128) by omega), if_neg (show ¬ (b0 / 32 = 6 /\ (1 < n /\ b1 / 64 = 2)) by omega), if_neg (show ¬ (b0 / 16 = 14 /\ (1 < n /\ b1 / 64 = 2) /\ (2 < n /\ b2 / 64 = 2)) by omega), if_pos g, if_pos g2]
     have hR : C5 n b0 b1 b2 b3 = (64 * (64 * (64 * ((b0 : Int) - 240) + b1 - 128) + b2 - 128) + b3 - 128, 4) := by unfold C5; rw [if_neg (show ¬ (b0 < 128) by omega), if_neg (show ¬ (192 <= b0 /\ b0 < 224) by omega), if_neg (show ¬ (224 <= b0 /\ b0 < 240) by omega), if_pos (show 240 <= b0 /\ b0 < 248 by omega), if_neg (show ¬ (n < 4) by omega), if_neg (show ¬ (b1 < 128 \/ 191 < b1) by omega), if_neg (show ¬ (b2 < 128 \/ 191 < b2) by omega), if_neg (show ¬ (b3 < 128 \/ 191 < b3) by omega), if_neg (show ¬ ((64 * (64 * (64 * ((b0 : Int) - 240) + b1 - 128) + b2 - 128) + b3 - 128 < 65536 \/ 1114111 < 64 * (64 * (64 * ((b0 : Int) - 240) + b1 - 128) + b2 - 128) + b3 - 128) \/ (55296 <= 64 * (64 * (64 * ((b0 : Int) - 240) + b1 - 128) + b2 - 128) + b3 - 128 /\ 64 * (64 * (64 * ((b0 : Int) - 240) + b1 - 128) + b2 - 128) + b3 - 128 <= 57343)) by omega)]
     rw [hD, hR]; exact ⟨.inl (by simp only; omega), by simp only [Prod.mk.injEq]; omega⟩
    ·
     left;have hD : decodeN n b0 b1 b2 b3 = (65533, 1) := by unfold decodeN; rw [if_neg (show ¬ (b0 < 128) by omega), if_neg (show ¬ (b0 / 32 = 6 /\ (1 < n /\ b1 / 64 = 2)) by omega), if_neg (show ¬ (b0 / 16 = 14 /\ (1 < n /\ b1 / 64 = 2) /\ (2 < n /\ b2 / 64 = 2)) by omega), if_pos g, if_neg g2]
     have hR : C5 n b0 b1 b2 b3 = (0, 0) := by unfold C5; rw [if_neg (show ¬ (b0 < 128) by omega), if_neg (show ¬ (192 <= b0 /\ b0 < 224) by omega), if_neg (show ¬ (224 <= b0 /\ b0 < 240) by omega), if_pos (show 240 <= b0 /\ b0 < 248 by omega), if_neg (show ¬ (n < 4) by omega), if_neg (show ¬ (b1 < 128 \/ 191 < b1) by omega), if_neg (show ¬ (b2 < 128 \/ 191 < b2) by omega), if_neg (show ¬ (b3 < 128 \/ 191 < b3) by omega), if_pos (show (64 * (64 * (64 * ((b0 : Int) - 240) + b1 - 128) + b2 - 128) + b3 - 128 < 65536 \/ 1114111 < 64 * (64 * (64 * ((b0 : Int) - 240) + b1 - 128) + b2 - 128) + b3 - 128) \/ (55296 <= 64 * (64 * (64 * ((b0 : Int) - 240) + b1 - 128) + b2 - 128) + b3 - 128 /\ 64 * (64 * (64 * ((b0 : Int) - 240) + b1 - 128) + b2 - 128) + b3 - 128 <= 57343) by omega)]
     rw [hD, hR]; exact ⟨rfl, rfl, rfl⟩
   ·
    by_cases g3 : n < 4
    ·
     left;have hD : decodeN n b0 b1 b2 b3 = (65533, 1) := by unfold decodeN; rw [if_neg (show ¬ (b0 < 128) by omega), if_neg (show ¬ (b0 / 32 = 6 /\ (1 < n /\ b1 / 64 = 2)) by omega), if_neg (show ¬ (b0 / 16 = 14 /\ (1 < n /\ b1 / 64 = 2) /\ (2 < n /\ b2 / 64 = 2)) by omega), if_neg g]
     have hR : C5 n b0 b1 b2 b3 = (0, 0) := by unfold C5; rw [if_neg (show ¬ (b0 < 128) by omega), if_neg (show ¬ (192 <= b0 /\ b0 < 224) by omega), if_neg (show ¬ (224 <= b0 /\ b0 < 240) by omega), if_pos (show 240 <= b0 /\ b0 < 248 by omega), if_pos g3]
     rw [hD, hR]; exact ⟨rfl, rfl, rfl⟩
    by_cases f1 : b1 < 128 \/ 191 < b1
    ·
     left;have hD : decodeN n b0 b1 b2 b3 = (65533, 1) := by unfold decodeN; rw [if_neg (show ¬ (b0 < 128) by omega), if_neg (show ¬ (b0 / 32 = 6 /\ (1 < n /\ b1 / 64 = 2)) by omega), if_neg (show ¬ (b0 / 16 = 14 /\ (1 < n /\ b1 / 64 = 2) /\ (2 < n /\ b2 / 64 = 2)) by omega), if_neg g]
     have hR : C5 n b0 b1 b2 b3 = (0, 0) := by unfold C5; rw [if_neg (show ¬ (b0 < 128) by omega), if_neg (show ¬ (192 <= b0 /\ b0 < 224) by omega), if_neg (show ¬ (224 <= b0 /\ b0 < 240) by omega), if_pos (show 240 <= b0 /\ b0 < 248 by omega), if_neg g3, if_pos f1]
     rw [hD, hR]; exact ⟨rfl, rfl, rfl⟩
    by_cases f2 : b2 < 128 \/ 191 < b2
    ·
     left;have hD : decodeN n b0 b1 b2 b3 = (65533, 1) := by unfold decodeN; rw [if_neg (show ¬ (b0 < 128) by omega), if_neg (show ¬ (b0 / 32 = 6 /\ (1 < n /\ b1 / 64 = 2)) by omega), if_neg (show ¬ (b0 / 16 = 14 /\ (1 < n /\ b1 / 64 = 2) /\ (2 < n /\ b2 / 64 = 2)) by omega), if_neg g]
     have hR : C5 n b0 b1 b2 b3 = (0, 0) := by unfold C5; rw [if_neg (show ¬ (b0 < 128) by omega), if_neg (show ¬ (192 <= b0 /\ b0 < 224) by omega), if_neg (show ¬ (224 <= b0 /\ b0 < 240) by omega), if_pos (show 240 <= b0 /\ b0 < 248 by omega), if_neg g3, if_neg f1, if_pos f2]
     rw [hD, hR]; exact ⟨rfl, rfl, rfl⟩
    have f3 : b3 < 128 \/ 191 < b3 := by omega
    left;have hD : decodeN n b0 b1 b2 b3 = (65533, 1) := by unfold decodeN; rw [if_neg (show ¬ (b0 < 128) by omega), if_neg (show ¬ (b0 / 32 = 6 /\ (1 < n /\ b1 / 64 = 2)) by omega), if_neg (show ¬ (b0 / 16 = 14 /\ (1 < n /\ b1 / 64 = 2) /\ (2 < n /\ b2 / 64 = 2)) by omega), if_neg g]
    have hR : C5 n b0 b1 b2 b3 = (0, 0) := by unfold C5; rw [if_neg (show ¬ (b0 < 128) by omega), if_neg (show ¬ (192 <= b0 /\ b0 < 224) by omega), if_neg (show ¬ (224 <= b0 /\ b0 < 240) by omega), if_pos (show 240 <= b0 /\ b0 < 248 by omega), if_neg g3, if_neg f1, if_neg f2, if_pos f3]
    rw [hD, hR]; exact ⟨rfl, rfl, rfl⟩
  exact absurd c4 (by omega)
 unfold Nh;rcases key with ⟨k1, k2, k3⟩ | ⟨k1, k2⟩
 ·rw [bf ⟨k1, k2⟩, k3]; rfl
 ·rw [bg (by omega), k2]; rfl

set_option linter.unusedSimpArgs false
set_option linter.unusedVariables false
set_option maxRecDepth 20000
open Go.Lib (decodeL decodeN)
abbrev bt (l : List By8) (k : Nat) : Nat := (l.getD k 0).toNat
theorem Ki (l : List By8) (k : Nat) : bt l k < 256 := (l.getD k 0).toNat_lt
theorem Rr {l : List By8} {k : Nat} (h : k < l.length) : idx l (k : Int) = some (l.getD k 0) := by
 rw [Ao h]; simp [List.getD, h]
theorem Fm (l : List By8) (i k : Nat) (n : Int) (rec : Int × Int -> Option (Int ⊕ (Int × Int))) (r : Int) (hk : (k : Int) < n) (hik : i + k < l.length) (hl : l.length <= 1073741824) (hr0 : 0 <= r) (hr1 : r <= 1073741824) :
  Ak l (i : Int) n rec (r, (k : Int)) = if bt l (i + k) < 128 \/ 191 < bt l (i + k) then some (.inr ((0 : Int), (0 : Int))) else rec (64 * r + (bt l (i + k) : Int) - 128, ((k + 1 : Nat) : Int)) := by
 have hb := Ki l (i + k);unfold Ak;simp only;rw [bf hk, bb, w64 (x := (i : Int) + (k : Int)) (by omega) (by omega), show ((i : Int) + (k : Int)) = ((i + k : Nat) : Int) by omega, Rr hik, ba];have e : (((l.getD (i + k) 0).toNat : Nat) : Int) = (bt l (i + k) : Int) := rfl;rw [e, w64 (x := (bt l (i + k) : Int)) (by omega) (by omega)];by_cases c : bt l (i + k) < 128 \/ 191 < bt l (i + k)
 ·rw [if_pos c];have : (decide ((bt l (i + k) : Int) < (128 : Int)) || decide ((191 : Int) < (bt l (i + k) : Int))) = true := by simp only [Bool.or_eq_true, decide_eq_true_eq]; omega
  rw [this, bb]
 ·rw [if_neg c];have : (decide ((bt l (i + k) : Int) < (128 : Int)) || decide ((191 : Int) < (bt l (i + k) : Int))) = false := by simp only [Bool.or_eq_false_iff, decide_eq_false_iff_not]; omega
  rw [this, bc, w64 (x := (64 : Int) * r) (by omega) (by omega), w64 (x := (64 : Int) * r + (bt l (i + k) : Int)) (by omega) (by omega), w64 (x := (64 : Int) * r + (bt l (i + k) : Int) - 128) (by omega) (by omega), w64 (x := (k : Int) + 1) (by omega) (by omega)]; rfl
theorem JQ (l : List By8) (i : Int) (n : Int) (rec : Int × Int -> Option (Int ⊕ (Int × Int))) (r : Int) : Ak l i n rec (r, n) = some (.inl r) := by
 unfold Ak;simp only;rw [bg (by omega), bc]
theorem Wz (l : List By8) (i : Nat) (r : Int) (hik : i + 2 <= l.length) (hl : l.length <= 1073741824) (hr0 : 0 <= r) (hr1 : r <= 1000) :
  iter (Ak l (i : Int) 2) FUEL (r, 1) = some (if bt l (i + 1) < 128 \/ 191 < bt l (i + 1) then .inr (0, 0) else .inl (64 * r + (bt l (i + 1) : Int) - 128)) := by
 have key : ∀ N, iter (Ak l (i : Int) 2) (N + 2) (r, ((1 : Nat) : Int)) = some (if bt l (i + 1) < 128 \/ 191 < bt l (i + 1) then .inr (0, 0) else .inl (64 * r + (bt l (i + 1) : Int) - 128)) := fun N => by
  show Ak l (i : Int) 2 (iter _ (N + 1)) (r, ((1 : Nat) : Int)) = _;rw [Fm l i 1 2 _ r (by omega) (by omega) hl hr0 (by omega)];split
  ·rfl
  ·show Ak l (i : Int) 2 (iter _ N) (_, 2) = _;rw [JQ]
 rw [show FUEL = 18446744073709551614 + 2 from rfl]; exact key _
theorem Xv (l : List By8) (i : Nat) (r : Int) (hik : i + 3 <= l.length) (hl : l.length <= 1073741824) (hr0 : 0 <= r) (hr1 : r <= 1000) :
  iter (Ak l (i : Int) 3) FUEL (r, 1) = some (if bt l (i + 1) < 128 \/ 191 < bt l (i + 1) then .inr (0, 0) else if bt l (i + 2) < 128 \/ 191 < bt l (i + 2) then .inr (0, 0) else .inl (64 * (64 * r + (bt l (i + 1) : Int) - 128) + (bt l (i + 2) : Int) - 128)) := by
 have h1 := Ki l (i + 1);have key : ∀ N, iter (Ak l (i : Int) 3) (N + 3) (r, ((1 : Nat) : Int)) = some (if bt l (i + 1) < 128 \/ 191 < bt l (i + 1) then .inr (0, 0) else if bt l (i + 2) < 128 \/ 191 < bt l (i + 2) then .inr (0, 0) else .inl (64 * (64 * r + (bt l (i + 1) : Int) - 128) + (bt l (i + 2) : Int) - 128)) := fun N => by
  show Ak l (i : Int) 3 (iter _ (N + 2)) (r, ((1 : Nat) : Int)) = _;rw [Fm l i 1 3 _ r (by omega) (by omega) hl hr0 (by omega)];split
  ·rfl
  ·rename_i c;show Ak l (i : Int) 3 (iter _ (N + 1)) (_, ((2 : Nat) : Int)) = _;rw [Fm l i 2 3 _ _ (by omega) (by omega) hl (by omega) (by omega)];split
   ·rfl
   ·show Ak l (i : Int) 3 (iter _ N) (_, 3) = _;rw [JQ]
 rw [show FUEL = 18446744073709551613 + 3 from rfl]; exact key _
theorem X0 (l : List By8) (i : Nat) (r : Int) (hik : i + 4 <= l.length) (hl : l.length <= 1073741824) (hr0 : 0 <= r) (hr1 : r <= 1000) :
  iter (Ak l (i : Int) 4) FUEL (r, 1) = some (if bt l (i + 1) < 128 \/ 191 < bt l (i + 1) then .inr (0, 0) else if bt l (i + 2) < 128 \/ 191 < bt l (i + 2) then .inr (0, 0) else if bt l (i + 3) < 128 \/ 191 < bt l (i + 3) then .inr (0, 0) else .inl (64 * (64 * (64 * r + (bt l (i + 1) : Int) - 128) + (bt l (i + 2) : Int) - 128) + (bt l (i + 3) : Int) - 128)) := by
 have h1 := Ki l (i + 1);have h2 := Ki l (i + 2);have key : ∀ N, iter (Ak l (i : Int) 4) (N + 4) (r, ((1 : Nat) : Int)) = some (if bt l (i + 1) < 128 \/ 191 < bt l (i + 1) then .inr (0, 0) else if bt l (i + 2) < 128 \/ 191 < bt l (i + 2) then .inr (0, 0) else if bt l (i + 3) < 128 \/ 191 < bt l (i + 3) then .inr (0, 0) else .inl (64 * (64 * (64 * r + (bt l (i + 1) : Int) - 128) + (bt l (i + 2) : Int) - 128) + (bt l (i + 3) : Int) - 128)) := fun N => by
  show Ak l (i : Int) 4 (iter _ (N + 3)) (r, ((1 : Nat) : Int)) = _;rw [Fm l i 1 4 _ r (by omega) (by omega) hl hr0 (by omega)];split
  ·rfl
  ·rename_i c;show Ak l (i : Int) 4 (iter _ (N + 2)) (_, ((2 : Nat) : Int)) = _;rw [Fm l i 2 4 _ _ (by omega) (by omega) hl (by omega) (by omega)];split
   ·rfl
   ·rename_i c2;show Ak l (i : Int) 4 (iter _ (N + 1)) (_, ((3 : Nat) : Int)) = _;rw [Fm l i 3 4 _ _ (by omega) (by omega) hl (by omega) (by omega)];split
    ·rfl
    ·show Ak l (i : Int) 4 (iter _ N) (_, 4) = _;rw [JQ]
 rw [show FUEL = 18446744073709551612 + 4 from rfl]; exact key _
theorem ZH {r least : Int} : (((decide (r < least)) || (decide ((1114111 : Int) < r))) || ((decide ((55296 : Int) <= r)) && (decide (r <= (57343 : Int))))) = decide ((r < least \/ 1114111 < r) \/ (55296 <= r /\ r <= 57343)) := by
 simp only [Bool.decide_or, Bool.decide_and]
theorem Tk (l : List By8) (i : Nat) (hi : i < l.length) (hl : l.length <= 1073741824) : Ci l (i : Int) = some (C5 (l.length - i) (bt l i) (bt l (i + 1)) (bt l (i + 2)) (bt l (i + 3))) := by
 have h0 := Ki l i;unfold Ci;rw [Rr hi, ba];have e : (((l.getD i 0).toNat : Nat) : Int) = (bt l i : Int) := rfl;simp only [e, AA, ZH];rw [w64 (x := (bt l i : Int)) (by omega) (by omega)];unfold C5;by_cases c0 : bt l i < 128
 ·rw [if_pos c0, bf (by omega), bb]
 rw [if_neg c0, bg (show ¬ ((bt l i : Int) < 128) by omega), bc];by_cases c2 : 192 <= bt l i /\ bt l i < 224
 ·rw [if_pos c2, bf (show (192 : Int) <= (bt l i : Int) by omega), bf (show (bt l i : Int) < 224 by omega), Bool.and_self, bb, w64 (x := (i : Int) + 2) (by omega) (by omega)];by_cases g : l.length - i < 2
  ·rw [if_pos g, bf (show (l.length : Int) < (i : Int) + 2 by omega), bb]
  ·rw [if_neg g, bg (show ¬ ((l.length : Int) < (i : Int) + 2) by omega), bc, w64 (x := (bt l i : Int) - 192) (by omega) (by omega), Wz l i _ (by omega) hl (by omega) (by omega), ba];by_cases f1 : bt l (i + 1) < 128 \/ 191 < bt l (i + 1)
   ·rw [if_pos f1, if_pos f1]
   ·rw [if_neg f1, if_neg f1];simp only;split
    ·rename_i hh; rw [bf hh, bb]
    ·rename_i hh; rw [bg hh, bc]
 rw [if_neg c2, show (decide ((192 : Int) <= (bt l i : Int)) && decide ((bt l i : Int) < 224)) = false by simp only [Bool.and_eq_false_iff, decide_eq_false_iff_not]; omega, bc];by_cases c3 : 224 <= bt l i /\ bt l i < 240
 ·rw [if_pos c3, bf (show (224 : Int) <= (bt l i : Int) by omega), bf (show (bt l i : Int) < 240 by omega), Bool.and_self, bb, w64 (x := (i : Int) + 3) (by omega) (by omega)];by_cases g : l.length - i < 3
  ·rw [if_pos g, bf (show (l.length : Int) < (i : Int) + 3 by omega), bb]
  ·rw [if_neg g, bg (show ¬ ((l.length : Int) < (i : Int) + 3) by omega), bc, w64 (x := (bt l i : Int) - 224) (by omega) (by omega), Xv l i _ (by omega) hl (by omega) (by omega), ba];by_cases f1 : bt l (i + 1) < 128 \/ 191 < bt l (i + 1)
   ·rw [if_pos f1, if_pos f1]
   ·rw [if_neg f1, if_neg f1];by_cases f2 : bt l (i + 2) < 128 \/ 191 < bt l (i + 2)
    ·rw [if_pos f2, if_pos f2]
    ·rw [if_neg f2, if_neg f2];simp only;split
     ·rename_i hh; rw [bf hh, bb]
     ·rename_i hh; rw [bg hh, bc]
 rw [if_neg c3, show (decide ((224 : Int) <= (bt l i : Int)) && decide ((bt l i : Int) < 240)) = false by simp only [Bool.and_eq_false_iff, decide_eq_false_iff_not]; omega, bc];by_cases c4 : 240 <= bt l i /\ bt l i < 248
 ·rw [if_pos c4, bf (show (240 : Int) <= (bt l i : Int) by omega), bf (show (bt l i : Int) < 248 by omega), Bool.and_self, bb, w64 (x := (i : Int) + 4) (by omega) (by omega)];by_cases g : l.length - i < 4
  ·rw [if_pos g, bf (show (l.length : Int) < (i : Int) + 4 by omega), bb]
  ·rw [if_neg g, bg (show ¬ ((l.length : Int) < (i : Int) + 4) by omega), bc, w64 (x := (bt l i : Int) - 240) (by omega) (by omega), X0 l i _ (by omega) hl (by omega) (by omega), ba];by_cases f1 : bt l (i + 1) < 128 \/ 191 < bt l (i + 1)
   ·rw [if_pos f1, if_pos f1]
   ·rw [if_neg f1, if_neg f1];by_cases f2 : bt l (i + 2) < 128 \/ 191 < bt l (i + 2)
    ·rw [if_pos f2, if_pos f2]
    ·rw [if_neg f2, if_neg f2];by_cases f3 : bt l (i + 3) < 128 \/ 191 < bt l (i + 3)
     ·rw [if_pos f3, if_pos f3]
     ·rw [if_neg f3, if_neg f3];simp only;split
      ·rename_i hh; rw [bf hh, bb]
      ·rename_i hh; rw [bg hh, bc]
 rw [if_neg c4, show (decide ((240 : Int) <= (bt l i : Int)) && decide ((bt l i : Int) < 248)) = false by simp only [Bool.and_eq_false_iff, decide_eq_false_iff_not]; omega, bc]
theorem OI (l : List By8) (i : Nat) (hi : i < l.length) (hl : l.length <= 1073741824) : Ci l (i : Int) = some (if Nh (decodeL (l.drop i)) then (0, 0) else (((decodeL (l.drop i)).1 : Int), ((decodeL (l.drop i)).2 : Int))) := by
 rw [Tk l i hi hl, Qb _ _ _ _ _ (by omega) (Ki _ _) (Ki _ _) (Ki _ _) (Ki _ _)];have e := Lib.decodeL_N (l.drop i);simp only [Lo, List.length_drop] at e;rw [e]; rfl

set_option linter.unusedSimpArgs false
set_option linter.unusedVariables false
set_option maxRecDepth 20000
open Go.Lib (decodeL decodeN)
theorem Ju {σ ρ : Type} {b1 b2 : (σ -> Option ρ) -> σ -> Option ρ} (Inv : σ -> Prop) (h : ∀ rec1 rec2 x, Inv x -> (∀ y, Inv y -> rec1 y = rec2 y) -> b1 rec1 x = b2 rec2 x) : ∀ n x, Inv x -> iter b1 n x = iter b2 n x
 | 0, x, hx => rfl
 | n + 1, x, hx => h _ _ x hx (fun y hy => Ju Inv h n y hy)
def inP (r : Int) : List Af -> Bool
 | [] => false
 | s :: l => if r <= s.hi then decide (s.lo <= r) else inP r l
theorem ZJ (r : Int) (l : List Af) (hl : l.length <= 9223372036854775807) : Dt r l = some (inP r l) := by
 unfold Dt;simp only [AA];obtain ⟨o, h1, h2⟩ := Ax (b := CZ r l) (fun i x => x = (i : Int) /\ inP r l = inP r (l.drop i)) (fun o => match o with | .inl _ => inP r l = false | .inr b => inP r l = b) l.length (x0 := (0 : Int)) ⟨rfl, by simp⟩
  (fun i x rec hi ⟨hx, hI⟩ => by
   subst hx;rw [To hi, inP] at hI;unfold CZ;rw [bf (by omega), bb, Ao hi, ba, w64 (by omega) (by omega)];by_cases c : r <= l[i].hi
   ·rw [if_pos c] at hI;rw [bf c];exact .inr ⟨.inr _, rfl, hI⟩
   ·rw [if_neg c] at hI;rw [bg c]
    exact .inl ⟨_, rfl, rfl, hI⟩)
  (fun x rec ⟨hx, hI⟩ => ⟨.inl (), by
   subst hx;unfold CZ
   rw [bg (by omega), bc], by show inP r l = false; rw [hI, List.drop_length]; rfl⟩) (n := FUEL) (by unfold FUEL; omega)
 rw [h1, ba]
 cases o with
 | inl u => simp only at h2; rw [h2]
 | inr b => simp only at h2; rw [h2]
def srt : List Af -> Bool
 | [] => true
 | s :: l => l.all (fun t => decide (s.hi < t.lo)) && srt l
theorem Kd (r : Int) : ∀ l, srt l = true -> inP r l = l.any fun s => decide (s.lo <= r /\ r <= s.hi)
 | [], _ => rfl
 | s :: l, h => by
  simp only [srt, Bool.and_eq_true, List.all_eq_true, decide_eq_true_eq] at h;simp only [inP, List.any_cons];by_cases c : r <= s.hi
  ·rw [if_pos c];have : (l.any fun s => decide (s.lo <= r /\ r <= s.hi)) = false := by
    rw [List.any_eq_false];intro t ht;have := h.1 t ht;simp only [decide_eq_true_eq]; omega
   rw [this, Bool.or_false];by_cases c2 : s.lo <= r <;> simp [c, c2]
  ·rw [if_neg c, Kd r l h.2, bg (fun hh => c hh.2), Bool.false_or]
def LQ (r : Int) : Bool := decide (r = 9 \/ r = 10 \/ r = 13 \/ (32 <= r /\ r <= 55295) \/ (57344 <= r /\ r <= 65533) \/ (65536 <= r /\ r <= 1114111))
def E6 (r : Int) : Bool := decide ((65 <= r /\ r <= 90) \/ r = 95 \/ (97 <= r /\ r <= 122) \/ (192 <= r /\ r <= 214) \/ (216 <= r /\ r <= 246) \/ (248 <= r /\ r <= 767) \/ (880 <= r /\ r <= 893) \/ (895 <= r /\ r <= 8191) \/ (8204 <= r /\ r <= 8205) \/ (8304 <= r /\ r <= 8591) \/ (11264 <= r /\ r <= 12271) \/ (12289 <= r /\ r <= 55295) \/ (63744 <= r /\ r <= 64975) \/ (65008 <= r /\ r <= 65533) \/ (65536 <= r /\ r <= 983039))
def Mq (r : Int) : Bool := E6 r || decide (r = 45 \/ r = 46 \/ (48 <= r /\ r <= 57) \/ r = 183 \/ (768 <= r /\ r <= 879) \/ (8255 <= r /\ r <= 8256))
theorem TO (r : Int) (k : Bool -> Option Bool) (l : List Af) (hl : l.length <= 9223372036854775807) : (Dt r l).bind k = k (inP r l) := by rw [ZJ r l hl]; rfl
theorem QE (r : Int) : C0 r = some (LQ r) := by
 unfold C0 LQ;simp only [AA];by_cases c : r = 9 \/ r = 10 \/ r = 13
 ·have e : (((r == (9 : Int)) || (r == (10 : Int))) || (r == (13 : Int))) = true := by simp only [Bool.or_eq_true, beq_iff_eq]; omega
  rw [e, bb, bf (by omega)]
 ·have e : (((r == (9 : Int)) || (r == (10 : Int))) || (r == (13 : Int))) = false := by simp only [Bool.or_eq_false_iff, beq_eq_false_iff_ne]; omega
  rw [e, bc, TO _ _ _ (by decide)];congr 1;rw [Kd _ _ (by decide), Bool.eq_iff_iff];simp only [List.any_cons, List.any_nil, Bool.or_eq_true, decide_eq_true_eq, Bool.false_eq_true, or_false];omega
theorem Sx (r : Int) : DV r = some (LQ r) := by
 unfold DV LQ;congr 1;rw [Bool.eq_iff_iff];simp only [Bool.or_eq_true, Bool.and_eq_true, beq_iff_eq, decide_eq_true_eq];omega
theorem K1 (r : Int) : Ce r = some (E6 r) := by
 unfold Ce E6;by_cases c : r < 128
 ·rw [bf c, bb];congr 1;rw [Bool.eq_iff_iff];simp only [Bool.or_eq_true, Bool.and_eq_true, beq_iff_eq, decide_eq_true_eq];omega
 ·rw [bg c, bc, TO _ _ _ (by decide)];congr 1;rw [Kd _ _ (by decide), Bool.eq_iff_iff];simp only [List.any_cons, List.any_nil, Bool.or_eq_true, decide_eq_true_eq, Bool.false_eq_true, or_false];omega
theorem Ql (r : Int) : CC r = some (Mq r) := by
 unfold CC Mq;rw [K1, ba];simp only [AA];by_cases c : E6 r = true \/ r = 45 \/ r = 46 \/ (48 <= r /\ r <= 57) \/ r = 183
 ·have e : ((((E6 r || (r == (45 : Int))) || (r == (46 : Int))) || ((decide ((48 : Int) <= r)) && (decide (r <= (57 : Int))))) || (r == (183 : Int))) = true := by
   simp only [Bool.or_eq_true, Bool.and_eq_true, beq_iff_eq, decide_eq_true_eq];rcases c with c | c
   ·simp [c]
   ·omega
  rw [e, bb];congr 1;rcases c with c | c
  ·simp [c]
  ·rw [bf (by omega), Bool.or_true]
 ·have hs : E6 r = false := by simpa using fun h => c (.inl h)
  have e : ((((E6 r || (r == (45 : Int))) || (r == (46 : Int))) || ((decide ((48 : Int) <= r)) && (decide (r <= (57 : Int))))) || (r == (183 : Int))) = false := by
   rw [Bool.eq_false_iff];simp only [ne_eq, Bool.or_eq_true, Bool.and_eq_true, beq_iff_eq, decide_eq_true_eq, hs, Bool.false_eq_true, false_or];intro h; apply c; right; omega
  rw [e, bc, TO _ _ _ (by decide)];congr 1;rw [hs, Bool.false_or];rw [Kd _ _ (by decide), Bool.eq_iff_iff];simp only [List.any_cons, List.any_nil, Bool.or_eq_true, decide_eq_true_eq, Bool.false_eq_true, or_false];omega
theorem MW (r : Int) : CQ r = some (E6 r) := by
 unfold CQ E6;simp only [AA, Bool.cond_eq_ite, Bool.and_eq_true, decide_eq_true_eq, beq_iff_eq];have hT : ∀ (P : Prop) [Decidable P], P -> some true = some (decide P) := fun P _ h => by rw [bf h]
 by_cases h1 : 65 <= r /\ r <= 90
 ·rw [if_pos h1, if_pos h1]; exact hT _ (by omega)
 rw [if_neg h1];by_cases h2 : r = 95
 ·rw [if_pos h2, if_pos h2]; exact hT _ (by omega)
 rw [if_neg h2];by_cases h3 : 97 <= r /\ r <= 122
 ·rw [if_pos h3]; exact hT _ (by omega)
 rw [if_neg h3];by_cases h4 : 192 <= r /\ r <= 767
 ·rw [if_pos h4]; congr 1; rw [Bool.eq_iff_iff]; simp only [Bool.and_eq_true, bne_iff_ne, ne_eq, decide_eq_true_eq]; omega
 rw [if_neg h4];by_cases h5 : 880 <= r /\ r <= 8191
 ·rw [if_pos h5]; congr 1; rw [Bool.eq_iff_iff]; simp only [bne_iff_ne, ne_eq, decide_eq_true_eq]; omega
 rw [if_neg h5];by_cases h6 : r = 8204
 ·rw [if_pos h6, if_pos h6]; exact hT _ (by omega)
 rw [if_neg h6];by_cases h7 : r = 8205
 ·rw [if_pos h7]; exact hT _ (by omega)
 rw [if_neg h7];by_cases h8 : 8304 <= r /\ r <= 8591
 ·rw [if_pos h8, if_pos h8]; exact hT _ (by omega)
 rw [if_neg h8];by_cases h9 : 11264 <= r /\ r <= 12271
 ·rw [if_pos h9, if_pos h9]; exact hT _ (by omega)
 rw [if_neg h9];by_cases h10 : 12289 <= r /\ r <= 55295
 ·rw [if_pos h10]; exact hT _ (by omega)
 rw [if_neg h10];by_cases h11 : 63744 <= r /\ r <= 65533
 ·rw [if_pos h11]; congr 1; rw [Bool.eq_iff_iff]; simp only [Bool.or_eq_true, decide_eq_true_eq]; omega
 rw [if_neg h11];congr 1; rw [Bool.eq_iff_iff]; simp only [Bool.and_eq_true, decide_eq_true_eq]; omega
theorem TW (r : Int) : DT r = some (Mq r) := by
 unfold DT Mq;rw [MW, ba];congr 1;cases E6 r
 ·simp only [Bool.false_or];rw [Bool.eq_iff_iff];simp only [Bool.or_eq_true, Bool.and_eq_true, beq_iff_eq, decide_eq_true_eq];omega
 ·simp

set_option linter.unusedSimpArgs false
set_option linter.unusedVariables false
set_option maxRecDepth 20000
open Go.Lib (decodeL decodeN)
theorem Qd (n b0 b1 b2 b3 : Nat) : (decodeN n b0 b1 b2 b3).2 = 2 -> (decodeN n b0 b1 b2 b3).1 <= 2047 := by
 unfold decodeN
 repeat' split
 all_goals first | (intro h; simp only at h; omega) | (intro _; simp only; omega)
theorem Qk (l : List By8) (x : Nat) (hx : x < l.length) : ((((decodeL (l.drop x)).1 : Int) == (65533 : Int)) && decide (((decodeL (l.drop x)).2 : Int) < (3 : Int))) = Nh (decodeL (l.drop x)) := by
 obtain ⟨d1, _⟩ := DJ l x hx;have e := Lib.decodeL_N (l.drop x);have h2 := Qd (l.drop x).length ((l.drop x).getD 0 0).toNat ((l.drop x).getD 1 0).toNat ((l.drop x).getD 2 0).toNat ((l.drop x).getD 3 0).toNat;rw [<- e] at h2;unfold Nh;rw [Bool.eq_iff_iff];simp only [Bool.and_eq_true, beq_iff_eq, decide_eq_true_eq];omega
theorem VA (p : List By8) (x : Nat) (hx : x < p.length) (hl : p.length <= 1073741824) : DX p (x : Int) = some (if Nh (decodeL (p.drop x)) then (0, 0, 20) else if LQ (decodeL (p.drop x)).1 then (((decodeL (p.drop x)).1 : Int), ((x + (decodeL (p.drop x)).2 : Nat) : Int), 0) else (0, 0, 21)) := by
 obtain ⟨d1, d2, d3, d4⟩ := DJ p x hx;unfold DX;rw [bg (by omega), bg (by omega)];simp only [Bool.or_self, bc];have hs : slc p (x : Int) (p.length : Int) = some (p.drop x) := by
  unfold slc; rw [if_pos (by omega)]; simp only [Int.toNat_natCast]; rw [List.take_of_length_le (by simp)]
 rw [hs, ba];have hne : p.drop x ≠ [] := by intro h; have := congrArg List.length h; simp at this; omega
 have hd : L_DecodeRune (p.drop x) = some (((decodeL (p.drop x)).1 : Int), ((decodeL (p.drop x)).2 : Int)) := by
  unfold L_DecodeRune Lib.decodeGo
  rw [if_neg hne, if_neg (by
   show ¬ ((p.drop x).toArray.size = 0)
   simp; omega)]
  rfl
 rw [hd, ba];simp only [Qk p x hx, QE, ba];cases Nh (decodeL (p.drop x))
 ·cases LQ ((decodeL (p.drop x)).1 : Int)
  ·rfl
  ·simp only [bc, Bool.not_true, Bool.false_eq_true, if_false, if_true];rw [w64 (by omega) (by omega)]; rfl
 ·rfl
theorem S7 (p : List By8) (hl : p.length <= 1073741824) : DH p = CY p := by
 unfold DH CY;simp only [AA]
 have := Ju (b1 := C8 p) (b2 := Ch p) (fun x => ∃ j : Nat, x = (j : Int) /\ j <= p.length) (fun rec1 rec2 x ⟨j, hx, hj⟩ hrec => by
  subst hx;unfold C8 Ch;by_cases hjl : j < p.length
  ·obtain ⟨d1, d2, d3, d4⟩ := DJ p j hjl;rw [bf (show (j : Int) < (p.length : Int) by omega), bb, bb, OI p j hjl hl, VA p j hjl hl, ba, ba];cases Nh (decodeL (p.drop j))
   ·simp only [Bool.false_eq_true, if_false, Sx, ba];have hz : (((decodeL (p.drop j)).2 : Int) == (0 : Int)) = false := by simp only [beq_eq_false_iff_ne, ne_eq]; omega
    rw [hz, bc];cases LQ ((decodeL (p.drop j)).1 : Int)
    ·rfl
    ·simp only [Bool.not_true, bc, if_true, bne_self_eq_false];rw [w64 (by omega) (by omega)];have := hrec ((j + (decodeL (p.drop j)).2 : Nat) : Int) ⟨_, rfl, d2⟩;rw [<- this]; rfl
   ·rfl
  ·rw [bg (by omega), bc, bc]) FUEL (0 : Int) ⟨0, rfl, Nat.zero_le _⟩
 rw [this]
def okN (l : List By8) : Nat -> Nat -> Bool
 | 0, _ => true
 | n + 1, j => if j < l.length then !Nh (decodeL (l.drop j)) && (Mq (decodeL (l.drop j)).1 && ((!decide (j = 0) || E6 (decodeL (l.drop j)).1) && okN l n (j + (decodeL (l.drop j)).2))) else true
theorem KM (l : List By8) : ∀ n j, l.length <= j + n -> okN l n j = true -> Lib.validD (l.drop j) = true
 | 0, j, h, _ => by rw [List.drop_of_length_le (by omega)]; rfl
 | n + 1, j, h, hok => by
  by_cases hj : j < l.length
  ·obtain ⟨d1, d2, d3, d4⟩ := DJ l j hj;simp only [okN, if_pos hj, Bool.and_eq_true, Bool.not_eq_true'] at hok;have hne : l.drop j ≠ [] := by intro h; have := congrArg List.length h; simp at this; omega
   have hb := hok.1;unfold Nh at hb;rw [Lib.validD_step _ hne, if_neg (of_decide_eq_false hb), List.drop_drop];exact KM l n _ (by omega) hok.2.2.2
  ·rw [List.drop_of_length_le (by omega)]; rfl
def H2 (l : List By8) : Bool := !(decide (l = []) || decide (100 < l.length)) && okN l l.length 0
theorem Po (l : List By8) : C3 l = some (H2 l) := by
 unfold C3 H2;by_cases c : l = [] \/ 100 < l.length
 ·have e1 : (((l.length : Int) == (0 : Int)) || decide ((100 : Int) < (l.length : Int))) = true := by
   simp only [Bool.or_eq_true, beq_iff_eq, decide_eq_true_eq];rcases c with rfl | c
   ·left; rfl
   ·right; omega
  have e2 : (decide (l = []) || decide (100 < l.length)) = true := by simpa using c
  rw [e1, e2]; rfl
 ·have hl : l.length <= 100 := by omega
  have hne : 0 < l.length := List.length_pos_iff.2 fun h => c (.inl h);have e1 : (((l.length : Int) == (0 : Int)) || decide ((100 : Int) < (l.length : Int))) = false := by
   simp only [Bool.or_eq_false_iff, beq_eq_false_iff_ne, decide_eq_false_iff_not]; omega
  have e2 : (decide (l = []) || decide (100 < l.length)) = false := by
   simp only [Bool.or_eq_false_iff, decide_eq_false_iff_not];exact ⟨fun h => c (.inl h), by omega⟩
  rw [e1, e2, bc, Bool.not_false, Bool.true_and];simp only [AA];obtain ⟨o, h1, h2⟩ := Ax (b := Cr l) (fun i x => ∃ j : Nat, x = (j : Int) /\ i <= j /\ j <= l.length /\ okN l l.length 0 = okN l (l.length - i) j) (fun o => match o with | .inl _ => okN l l.length 0 = true | .inr b => b = false /\ okN l l.length 0 = false) l.length (x0 := (0 : Int)) ⟨0, rfl, Nat.le_refl _, Nat.zero_le _, rfl⟩
   (fun i x rec hi ⟨j, hx, hij, hjl, hI⟩ => by
    subst hx;have es : l.length - i = (l.length - (i + 1)) + 1 := by omega
    rw [es, okN] at hI;unfold Cr;by_cases hj : j < l.length
    ·obtain ⟨d1, d2, d3, d4⟩ := DJ l j hj;rw [if_pos hj] at hI;simp only [AA];rw [bf (show (j : Int) < (l.length : Int) by omega), bb, OI l j hj (by omega), ba];cases hb : Nh (decodeL (l.drop j))
     ·rw [hb] at hI;simp only [Bool.false_eq_true, if_false, TW, MW, ba];have hz : (((decodeL (l.drop j)).2 : Int) == (0 : Int)) = false := by simp only [beq_eq_false_iff_ne, ne_eq]; omega
      rw [hz, bc];cases hp : Mq ((decodeL (l.drop j)).1 : Int)
      ·rw [hp] at hI;exact .inr ⟨.inr false, rfl, rfl, by simpa using hI⟩
      ·rw [hp] at hI;simp only [Bool.not_true, bc];have ez : ((j : Int) == (0 : Int)) = decide (j = 0) := by
        rw [Bool.eq_iff_iff]; simp only [beq_iff_eq, decide_eq_true_eq]; omega
       rw [ez, w64 (by omega) (by omega)];cases hd0 : decide (j = 0)
       ·rw [hd0] at hI;exact .inl ⟨((j + (decodeL (l.drop j)).2 : Nat) : Int), rfl, _, rfl, by omega, d2, by simpa using hI⟩
       ·rw [hd0] at hI;cases hs : E6 ((decodeL (l.drop j)).1 : Int)
        ·rw [hs] at hI;exact .inr ⟨.inr false, rfl, rfl, by simpa using hI⟩
        ·rw [hs] at hI;exact .inl ⟨((j + (decodeL (l.drop j)).2 : Nat) : Int), rfl, _, rfl, by omega, d2, by simpa using hI⟩
     ·rw [hb] at hI;exact .inr ⟨.inr false, rfl, rfl, by simpa using hI⟩
    ·rw [if_neg hj] at hI;rw [bg (by omega), bc]
     exact .inr ⟨.inl (), rfl, hI⟩)
   (fun x rec ⟨j, hx, hij, hjl, hI⟩ => ⟨.inl (), by
    subst hx;unfold Cr
    rw [bg (by omega), bc], by show okN l l.length 0 = true; rw [hI, Nat.sub_self]; rfl⟩) (n := FUEL) (by unfold FUEL; omega)
  rw [h1, ba]
  cases o with
  | inl u => simp only at h2; rw [h2]
  | inr b => obtain ⟨rfl, h3⟩ := h2; rw [h3]
theorem PI (l : List By8) : Dw l = some (H2 l) := by
 unfold Dw H2;simp only [AA];by_cases c : l = [] \/ 100 < l.length
 ·have e1 : ((l == ([] : List By8)) || decide ((100 : Int) < (l.length : Int))) = true := by
   simp only [Bool.or_eq_true, beq_iff_eq, decide_eq_true_eq];rcases c with rfl | c
   ·left; rfl
   ·right; omega
  have e2 : (decide (l = []) || decide (100 < l.length)) = true := by simpa using c
  rw [e1, e2]; rfl
 ·have hl : l.length <= 100 := by omega
  have hne : 0 < l.length := List.length_pos_iff.2 fun h => c (.inl h);have e1 : ((l == ([] : List By8)) || decide ((100 : Int) < (l.length : Int))) = false := by
   simp only [Bool.or_eq_false_iff, beq_eq_false_iff_ne, decide_eq_false_iff_not];exact ⟨fun h => c (.inl h), by omega⟩
  have e2 : (decide (l = []) || decide (100 < l.length)) = false := by
   simp only [Bool.or_eq_false_iff, decide_eq_false_iff_not];exact ⟨fun h => c (.inl h), by omega⟩
  rw [e1, e2, bc, Bool.not_false, Bool.true_and];have hv : L_ValidString l = some (Lib.validD l) := by unfold L_ValidString; rw [if_pos (by omega)]
  rw [hv, ba];cases hval : Lib.validD l
  ·have : okN l l.length 0 = false := by
    cases hok : okN l l.length 0
    ·rfl
    ·have := KM l l.length 0 (by omega) hok;rw [List.drop_zero, hval] at this; cases this
   rw [this]; rfl
  simp only [Bool.not_true, bc];obtain ⟨o, h1, h2⟩ := Ax (b := BO l) (fun i x => i <= x /\ x <= l.length /\ okN l l.length 0 = okN l (l.length - i) x /\ Lib.validD (l.drop x) = true) (fun o => match o with | .inl _ => okN l l.length 0 = true | .inr b => b = false /\ okN l l.length 0 = false) l.length (x0 := (0 : Nat)) ⟨Nat.le_refl _, Nat.zero_le _, rfl, by simpa using hval⟩
   (fun i j rec hi ⟨hij, hjl, hI, hV⟩ => by
    have es : l.length - i = (l.length - (i + 1)) + 1 := by omega
    rw [es, okN] at hI;unfold BO;by_cases hj : j < l.length
    ·obtain ⟨d1, d2, d3, d4⟩ := DJ l j hj;obtain ⟨r1, r2⟩ := Mz l j;have hne : l.drop j ≠ [] := by intro h; have := congrArg List.length h; simp at this; omega
     rw [Lib.validD_step _ hne] at hV;have hb : Nh (decodeL (l.drop j)) = false := by
      unfold Nh;apply bg;intro h; rw [if_pos h] at hV; cases hV
     rw [if_neg (of_decide_eq_false hb), List.drop_drop] at hV;rw [if_pos hj, hb] at hI;simp only [AA];rw [bf hj, bb];simp only [r1, r2, Ql, K1, ba];have ez : (((j : Nat) : Int) == (0 : Int)) = decide (j = 0) := by
      rw [Bool.eq_iff_iff]; simp only [beq_iff_eq, decide_eq_true_eq]; omega
     rw [ez];cases hp : Mq ((decodeL (l.drop j)).1 : Int)
     ·rw [hp] at hI;refine .inr ⟨.inr false, ?_, rfl, by simpa using hI⟩;cases decide (j = 0) <;> cases E6 ((decodeL (l.drop j)).1 : Int) <;> rfl
     ·rw [hp] at hI;cases hd0 : decide (j = 0)
      ·rw [hd0] at hI;exact .inl ⟨j + (decodeL (l.drop j)).2, rfl, by omega, d2, by simpa using hI, hV⟩
      ·rw [hd0] at hI;cases hs : E6 ((decodeL (l.drop j)).1 : Int)
       ·rw [hs] at hI;exact .inr ⟨.inr false, rfl, rfl, by simpa using hI⟩
       ·rw [hs] at hI;exact .inl ⟨j + (decodeL (l.drop j)).2, rfl, by omega, d2, by simpa using hI, hV⟩
    ·rw [if_neg hj] at hI;rw [bg hj, bc]
     exact .inr ⟨.inl (), rfl, hI⟩)
   (fun j rec ⟨hij, hjl, hI, hV⟩ => ⟨.inl (), by
    unfold BO
    rw [bg (by omega), bc], by show okN l l.length 0 = true; rw [hI, Nat.sub_self]; rfl⟩) (n := FUEL) (by unfold FUEL; omega)
  rw [h1, ba]
  cases o with
  | inl u => simp only at h2; rw [h2]
  | inr b => obtain ⟨rfl, h3⟩ := h2; rw [h3]

set_option linter.unusedSimpArgs false
set_option linter.unusedVariables false
set_option maxRecDepth 20000
theorem HG {ρ : Type} (N k0 : Nat) (p : Nat -> Bool) {b : (Int -> Option (Unit ⊕ ρ)) -> Int -> Option (Unit ⊕ ρ)} {r : ρ} (hN : N <= 1099511627776) (hk : k0 <= 1099511627776)
  (hb : ∀ rec (i : Nat), k0 <= i -> i < N -> b rec (i : Int) = if p i then rec ((i + 1 : Nat) : Int) else some (.inr r)) (he : ∀ rec (i : Nat), N <= i -> i <= N + k0 -> b rec (i : Int) = some (.inl ())) :
  iter b FUEL (k0 : Int) = some (if (List.range' k0 (N - k0)).all p then .inl () else .inr r) := by
 obtain ⟨o, e, rfl⟩ := Ax (b := b) (fun j x => x = ((k0 + j : Nat) : Int) /\ (List.range' k0 j).all p = true) (fun o => o = if (List.range' k0 (N - k0)).all p then .inl () else .inr r) (N - k0) (x0 := (k0 : Int)) ⟨rfl, rfl⟩ (by
  rintro j _ rec hj ⟨rfl, hI⟩;rw [hb rec (k0 + j) (by omega) (by omega)]
  cases hp : p (k0 + j) with
  | true =>
   refine .inl ⟨_, by rw [if_pos rfl, Nat.add_assoc], rfl, ?_⟩;rw [List.range'_1_concat, List.all_append, hI];simp [hp]
  | false =>
   refine .inr ⟨_, by rw [if_neg (by simp)], ?_⟩;have : (List.range' k0 (N - k0)).all p = false := by
    rw [List.all_eq_false];exact ⟨k0 + j, by rw [List.mem_range'_1]; omega, by rw [hp]; simp⟩
   rw [this]; rfl) (by
  rintro _ rec ⟨rfl, hI⟩
  exact ⟨_, he rec _ (by omega) (by omega), by rw [hI]; rfl⟩) (n := FUEL) (by unfold FUEL; omega)
 exact e
theorem PZ {α : Type} (l : List α) (q : α -> Bool) (p : Nat -> Bool) (hp : ∀ i (h : i < l.length), p i = q l[i]) : (List.range' 0 (l.length - 0)).all p = l.all q := by
 rw [Bool.eq_iff_iff, List.all_eq_true, List.all_eq_true];constructor
 ·intro h x hx;obtain ⟨i, hi, rfl⟩ := List.getElem_of_mem hx;rw [<- hp i hi];exact h i (by rw [List.mem_range'_1]; omega)
 ·intro h i hi;rw [List.mem_range'_1] at hi;rw [hp i (by omega)];exact h _ (bn _)
theorem Gc {ρ α : Type} (l : List α) (q : α -> Bool) {b : (Int -> Option (Unit ⊕ ρ)) -> Int -> Option (Unit ⊕ ρ)} {r : ρ} (hl : l.length <= 1099511627776)
  (hb : ∀ rec (i : Nat) (h : i < l.length), b rec (i : Int) = if q l[i] then rec ((i + 1 : Nat) : Int) else some (.inr r)) (he : ∀ rec, b rec (l.length : Int) = some (.inl ())) :
  iter b FUEL (0 : Int) = some (if l.all q then .inl () else .inr r) := by
 have h := HG (b := b) (r := r) l.length 0 (fun i => if h : i < l.length then q l[i] else true) hl (by omega) (fun rec i _ h => by rw [hb rec i h]; simp [h]) (fun rec i h1 h2 => by
  obtain rfl : i = l.length := by omega
  exact he rec)
 rw [show ((0 : Nat) : Int) = 0 from rfl] at h;rw [h, PZ l q _ fun i hi => by simp [hi]]
theorem N5 {i : Nat} (h : i <= 1099511627776) : IntKind.wrap .i64 ((i : Int) + 1) = ((i + 1 : Nat) : Int) := by rw [w64 (by omega) (by omega)]; omega
def HT (k : Int) : Bool := ((k == (2 : Int)) || (k == (4 : Int))) || (k == (5 : Int))
def Hv (p k : Int) : Bool := ((p == (1 : Int)) && HT k) || ((p == (2 : Int)) && (HT k || (k == (3 : Int))))
def Is (n : Ac) : Bool := (n.URI == ([] : List By8)) && (n.Local == ([] : List By8))
def Oo (n : Aa) : Bool :=
 if n.Kind = 1 then (Is n.Name && (n.Text == ([] : List By8))) && n.Attrs.isEmpty
 else if n.Kind = 2 then n.Text == ([] : List By8)
 else if n.Kind = 3 \/ n.Kind = 4 then (Is n.Name && n.Attrs.isEmpty) && n.Kids.isEmpty
 else if n.Kind = 5 then ((n.Name.URI == ([] : List By8)) && n.Attrs.isEmpty) && n.Kids.isEmpty
 else false
def EF (n : Aa) : Bool := n.Kids.all (fun k => Hv n.Kind k.Kind) && Oo n
theorem Z8 {α : Type} (l : List α) : ((l.length : Int) == (0 : Int)) = l.isEmpty := by cases l <;> simp <;> omega
theorem Z2 {α : Type} (l : List α) : decide ((0 : Int) < (l.length : Int)) = !l.isEmpty := by cases l <;> simp <;> omega
theorem Vy (n : Aa) (hn : szN n <= 1049600) : DQ n = some (EF n) := by
 have hk := Br n;unfold DQ;simp only [AA]
 rw [Gc n.Kids (fun k => Hv n.Kind k.Kind) (b := Ct n) (r := false) (by omega) (fun rec i h => by
  unfold Ct;rw [bf (by omega), bb, Ao h, ba, N5 (by omega)];unfold Hv HT
  cases (n.Kind == (1 : Int)) <;> cases (n.Kind == (2 : Int)) <;> cases (n.Kids[i].Kind == (2 : Int)) <;> cases (n.Kids[i].Kind == (4 : Int)) <;> cases (n.Kids[i].Kind == (5 : Int)) <;> cases (n.Kids[i].Kind == (3 : Int)) <;> rfl) (fun rec => by
  unfold Ct
  rw [bg (by omega), bc]), ba]
 unfold EF
 cases n.Kids.all (fun k => Hv n.Kind k.Kind) with
 | false => rfl
 | true =>
  simp only [if_true, Bool.true_and, Z8, Bool.and_true];unfold Oo Is;by_cases h1 : n.Kind = 1
  ·rw [if_pos h1, show (n.Kind == (1 : Int)) = true by rw [h1]; rfl, bb]
  ·rw [if_neg h1, show (n.Kind == (1 : Int)) = false by rw [beq_eq_false_iff_ne]; exact h1, bc];by_cases h2 : n.Kind = 2
   ·rw [if_pos h2, show (n.Kind == (2 : Int)) = true by rw [h2]; rfl, bb]
   ·rw [if_neg h2, show (n.Kind == (2 : Int)) = false by rw [beq_eq_false_iff_ne]; exact h2, bc];by_cases h3 : n.Kind = 3
    ·rw [if_pos (.inl h3), show (n.Kind == (3 : Int)) = true by rw [h3]; rfl, bb, bb]
    ·rw [show (n.Kind == (3 : Int)) = false by rw [beq_eq_false_iff_ne]; exact h3, bc];by_cases h4 : n.Kind = 4
     ·rw [if_pos (.inr h4), show (n.Kind == (4 : Int)) = true by rw [h4]; rfl, bb]
     ·rw [if_neg (by simp [h3, h4]), show (n.Kind == (4 : Int)) = false by rw [beq_eq_false_iff_ne]; exact h4, bc];by_cases h5 : n.Kind = 5
      ·rw [if_pos h5, show (n.Kind == (5 : Int)) = true by rw [h5]; rfl, bb]
      ·rw [if_neg h5, show (n.Kind == (5 : Int)) = false by rw [beq_eq_false_iff_ne]; exact h5, bc]
def Wt (p k : Int) : Bool := if p = 1 then HT k else if p = 2 then decide ((2 : Int) <= k) && decide (k <= (5 : Int)) else false
theorem Sn (p k : Int) : Wt p k = Hv p k := by
 unfold Wt Hv HT;by_cases h1 : p = 1
 ·subst h1; simp
 ·rw [if_neg h1, show (p == (1 : Int)) = false by rw [beq_eq_false_iff_ne]; exact h1];by_cases h2 : p = 2
  ·subst h2;rw [if_pos rfl, Bool.eq_iff_iff];simp only [Bool.and_eq_true, decide_eq_true_eq, Bool.or_eq_true, beq_iff_eq, Bool.false_and, Bool.false_or, Bool.true_and, beq_self_eq_true];omega
  ·rw [if_neg h2, show (p == (2 : Int)) = false by rw [beq_eq_false_iff_ne]; exact h2]; rfl
theorem Ye (p k : Int) : El p k = some (Wt p k) := by
 unfold El Wt HT;by_cases h1 : p = 1
 ·subst h1; rfl
 ·rw [if_neg h1, show (p == (1 : Int)) = false by rw [beq_eq_false_iff_ne]; exact h1, bc];by_cases h2 : p = 2
  ·subst h2; rfl
  ·rw [if_neg h2, show (p == (2 : Int)) = false by rw [beq_eq_false_iff_ne]; exact h2, bc]
def Pu (n : Aa) : Bool :=
 if n.Kind = 1 then (n.Attrs.isEmpty && Is n.Name) && (n.Text == ([] : List By8))
 else if n.Kind = 2 then n.Text == ([] : List By8)
 else if n.Kind = 5 then n.Attrs.isEmpty && (n.Name.URI == ([] : List By8))
 else n.Attrs.isEmpty && Is n.Name
def Np (n : Aa) : Bool := Pu n && n.Kids.all (fun k => Hv n.Kind k.Kind)
theorem GK {α : Type} (l : List α) (f : α -> Option Bool) (q : α -> Bool) (h : ∀ x ∈ l, f x = some (!q x)) : l.any (gB f) = !(l.all q) := by
 rw [Bool.eq_iff_iff, List.any_eq_true, Bool.not_eq_true', List.all_eq_false];constructor
 ·rintro ⟨x, hx, hg⟩;exact ⟨x, hx, by unfold gB at hg; rw [h x hx] at hg; simpa using hg⟩
 ·rintro ⟨x, hx, hg⟩;exact ⟨x, hx, by unfold gB; rw [h x hx]; simpa using hg⟩
theorem UT (n : Aa) (hn : szN n <= 1049600) : CW n = some (!Np n) := by
 have hk := Br n;have h1 : ∀ x ∈ n.Kids, Cd x n = some (!Hv n.Kind x.Kind) := fun x _ => by unfold Cd; rw [Ye, ba, Sn]
 unfold CW;rw [B8 (by omega) (fun x hx => ⟨_, h1 x hx⟩), GK n.Kids _ (fun k => Hv n.Kind k.Kind) h1];simp only [AA, ba, Z2, Bool.and_true];unfold Np Pu Is
 cases n.Kids.all (fun k => Hv n.Kind k.Kind) <;> (
  by_cases h1 : n.Kind = 1
  ·rw [h1]; cases n.Attrs.isEmpty <;> cases (n.Name.URI == ([] : List By8)) <;> cases (n.Name.Local == ([] : List By8)) <;> cases (n.Text == ([] : List By8)) <;> rfl
  ·rw [if_neg h1, show (n.Kind == (1 : Int)) = false by rw [beq_eq_false_iff_ne]; exact h1, bc];by_cases h2 : n.Kind = 2
   ·rw [if_pos h2, show (n.Kind == (2 : Int)) = true by rw [h2]; rfl, bb]; cases (n.Text == ([] : List By8)) <;> rfl
   ·rw [if_neg h2, show (n.Kind == (2 : Int)) = false by rw [beq_eq_false_iff_ne]; exact h2, bc, show (n.Kind != (2 : Int)) = true by simpa using h2];by_cases h5 : n.Kind = 5
    ·rw [if_pos h5, show (n.Kind == (5 : Int)) = true by rw [h5]; rfl, bb]; cases n.Attrs.isEmpty <;> cases (n.Name.URI == ([] : List By8)) <;> rfl
    ·rw [if_neg h5, show (n.Kind == (5 : Int)) = false by rw [beq_eq_false_iff_ne]; exact h5, bc]; cases n.Attrs.isEmpty <;> cases (n.Name.URI == ([] : List By8)) <;> cases (n.Name.Local == ([] : List By8)) <;> rfl)
theorem QD {n : Aa} (h : EF n = true) : Np n = true := by
 unfold EF at h;unfold Np;rw [Bool.and_eq_true] at h ⊢;refine ⟨?_, h.1⟩;have h2 := h.2;unfold Oo at h2;unfold Pu;split at h2
 ·rename_i h1;rw [if_pos h1]; simp only [Bool.and_eq_true] at h2 ⊢; exact ⟨⟨h2.2, h2.1.1⟩, h2.1.2⟩
 ·rename_i h1;rw [if_neg h1];split at h2
  ·rename_i h2'; rw [if_pos h2']; exact h2
  ·rename_i h2';rw [if_neg h2'];split at h2
   ·rename_i h3;rw [if_neg (by omega)]; simp only [Bool.and_eq_true] at h2 ⊢; exact ⟨h2.1.2, h2.1.1⟩
   ·split at h2
    ·rename_i h5; rw [if_pos h5]; simp only [Bool.and_eq_true] at h2 ⊢; exact ⟨h2.1.2, h2.1.1⟩
    ·cases h2
theorem Qx {n : Aa} (h : Np n = true) (hk : n.Kind = 1 \/ (2 <= n.Kind /\ n.Kind <= 5)) : EF n = true := by
 unfold Np at h;unfold EF;rw [Bool.and_eq_true] at h ⊢;refine ⟨h.2, ?_⟩;have h1 := h.1;have h2 := h.2;have nokids : n.Kind ≠ 1 -> n.Kind ≠ 2 -> n.Kids.isEmpty = true := fun e1 e2 => by
  cases hK : n.Kids with
  | nil => rfl
  | cons x l =>
   rw [hK, List.all_cons, Bool.and_eq_true] at h2;have := h2.1;unfold Hv at this;rw [show (n.Kind == (1 : Int)) = false by rw [beq_eq_false_iff_ne]; exact e1, show (n.Kind == (2 : Int)) = false by rw [beq_eq_false_iff_ne]; exact e2] at this;cases this
 unfold Pu at h1;unfold Oo;by_cases e1 : n.Kind = 1
 ·rw [if_pos e1] at h1 ⊢; simp only [Bool.and_eq_true] at h1 ⊢; exact ⟨⟨h1.1.2, h1.2⟩, h1.1.1⟩
 ·rw [if_neg e1] at h1 ⊢;by_cases e2 : n.Kind = 2
  ·rw [if_pos e2] at h1 ⊢; exact h1
  ·rw [if_neg e2] at h1 ⊢;have hnk := nokids e1 e2;by_cases e5 : n.Kind = 5
   ·rw [if_pos e5] at h1; rw [if_neg (by omega), if_pos e5]; simp only [Bool.and_eq_true] at h1 ⊢; exact ⟨⟨h1.2, h1.1⟩, hnk⟩
   ·rw [if_neg e5] at h1; rw [if_pos (by omega)]; simp only [Bool.and_eq_true] at h1 ⊢; exact ⟨⟨h1.2, h1.1⟩, hnk⟩
theorem Lr : ∀ (N : Nat) (x : Aa), szN x < N -> (∀ y ∈ AD x, Np y = true) -> ∀ y ∈ B4 x.Kids, 2 <= y.Kind /\ y.Kind <= 5
 | 0, _, h, _, _, _ => by omega
 | N + 1, x, hN, h, y, hy => by
  have key : ∀ l : List Aa, (∀ k ∈ l, k ∈ x.Kids) -> ∀ y ∈ B4 l, 2 <= y.Kind /\ y.Kind <= 5 := by
   intro l
   induction l with
   | nil => intro _ y hy; simp [B4] at hy
   | cons k l ih =>
    intro hl y hy;simp only [B4, List.mem_append] at hy;have hk := hl k List.mem_cons_self;rcases hy with hy | hy
    ·rw [B1, List.mem_cons] at hy;rcases hy with rfl | hy
     ·have hx := h x (by rw [B1]; exact List.mem_cons_self);unfold Np at hx;rw [Bool.and_eq_true, List.all_eq_true] at hx;have := hx.2 y hk;unfold Hv HT at this;simp only [Bool.or_eq_true, Bool.and_eq_true, beq_iff_eq] at this;omega
     ·refine Lr N k (by have := HO hk; omega) (fun z hz => h z ?_) y hy;rw [B1];refine List.mem_cons_of_mem _ ?_;have aux : ∀ l : List Aa, k ∈ l -> z ∈ B4 l := fun l hkl => by
       induction l with
       | nil => cases hkl
       | cons a l ih =>
        simp only [B4, List.mem_append];rcases List.mem_cons.1 hkl with rfl | hkl
        ·exact .inl hz
        ·exact .inr (ih hkl)
      exact aux _ hk
    ·exact ih (fun k hk => hl k (List.mem_cons_of_mem _ hk)) y hy
  exact key x.Kids (fun _ h => h) y hy
theorem Mv {d : Aa} (h1 : d.Kind = 1) : (AD d).all Np = (AD d).all EF := by
 rw [Bool.eq_iff_iff, List.all_eq_true, List.all_eq_true];constructor
 ·intro h y hy;have hk : y.Kind = 1 \/ (2 <= y.Kind /\ y.Kind <= 5) := by
   rw [B1, List.mem_cons] at hy;rcases hy with rfl | hy
   ·exact .inl h1
   ·exact .inr (Lr _ d (Nat.lt_succ_self _) h y hy)
  exact Qx (h y hy) hk
 ·intro h y hy;exact QD (h y hy)

set_option linter.unusedSimpArgs false
set_option linter.unusedVariables false
set_option maxRecDepth 20000
open Go.Lib (decodeL decodeN)
theorem Sd {p : By8 -> Bool} (h : (List.range 256).all (fun n => p (UInt8.ofNat n)) = true) (c : By8) : p c = true := by
 rw [List.all_eq_true] at h;have := h c.toNat (List.mem_range.2 c.toNat_lt);simpa using this
theorem TF {n b0 b1 b2 b3 : Nat} (h : 128 <= b0) : 128 <= (decodeN n b0 b1 b2 b3).1 := by
 unfold decodeN
 repeat' split
 all_goals first | omega | (simp only; omega)
def Hy (c : By8) : By8 := if 65 <= c.toNat /\ c.toNat <= 90 then c + 32 else c
theorem Sz (a c : Nat) (ha : a < 128) (hc : c < 128) (hcu : ¬ (65 <= c /\ c <= 90)) (hne : (c : Int) ≠ (a : Int)) :
  (cond (decide ((c : Int) < (a : Int))) (((decide ((65 : Int) <= (c : Int))) && (decide ((c : Int) <= (90 : Int)))) && ((a : Int) == (IntKind.wrap .u8 ((IntKind.wrap .u8 ((c : Int) + (97 : Int))) - (65 : Int))))) (((decide ((65 : Int) <= (a : Int))) && (decide ((a : Int) <= (90 : Int)))) && ((c : Int) == (IntKind.wrap .u8 ((IntKind.wrap .u8 ((a : Int) + (97 : Int))) - (65 : Int)))))) = decide ((if 65 <= a /\ a <= 90 then a + 32 else a) = c) := by
 by_cases h1 : (c : Int) < (a : Int)
 ·rw [bf h1, bb];have e : ((decide ((65 : Int) <= (c : Int))) && (decide ((c : Int) <= (90 : Int)))) = false := by
   rw [Bool.eq_false_iff]; intro h; rw [Bool.and_eq_true, decide_eq_true_eq, decide_eq_true_eq] at h; omega
  rw [e, Bool.false_and];symm;apply bg;split <;> omega
 ·rw [bg h1, bc];by_cases h2 : 65 <= a /\ a <= 90
  ·rw [bf (show (65 : Int) <= (a : Int) by omega), bf (show (a : Int) <= 90 by omega), if_pos h2, Bool.true_and, Bool.true_and];have e : IntKind.wrap .u8 ((IntKind.wrap .u8 ((a : Int) + (97 : Int))) - (65 : Int)) = (a : Int) + 32 := by
    rw [IntKind.wrap_u8, IntKind.wrap_u8]; omega
   rw [e, Bool.eq_iff_iff, beq_iff_eq, decide_eq_true_eq]; omega
  ·have e : ((decide ((65 : Int) <= (a : Int))) && (decide ((a : Int) <= (90 : Int)))) = false := by
    rw [Bool.eq_false_iff]; intro h; rw [Bool.and_eq_true, decide_eq_true_eq, decide_eq_true_eq] at h; omega
   rw [e, Bool.false_and, if_neg h2];symm;apply bg; omega
theorem PU (c : By8) : (Hy c).toNat = if 65 <= c.toNat /\ c.toNat <= 90 then c.toNat + 32 else c.toNat := by
 have := Sd (p := fun c => (Hy c).toNat == if 65 <= c.toNat /\ c.toNat <= 90 then c.toNat + 32 else c.toNat) (by decide +kernel) c;simpa using this
def okS (v : List By8) : Prop := ∀ c ∈ v, c.toNat < 128 /\ ¬ (65 <= c.toNat /\ c.toNat <= 90)
theorem SM (w v : List By8) (hw : w.length <= 1073741824) (hv : okS v) : ∃ o, iter (As w v) FUEL (0 : Int) = some o /\
  ((o = .inl () /\ ∀ j (g0 : j < w.length) (g1 : j < v.length), Hy w[j] = v[j]) \/ (o = .inr (.inr false) /\ ∃ j, ∃ (g0 : j < w.length) (g1 : j < v.length), Hy w[j] ≠ v[j]) \/
   (∃ i, ∃ (g0 : i < w.length) (g1 : i < v.length), o = .inr (.inl (i : Int)) /\ 128 <= w[i].toNat)) := by
 refine Ib (b := As w v) (fun x => w.length - x.toNat) (fun x => ∃ i : Nat, x = (i : Int) /\ i <= w.length /\ ∀ j (g0 : j < w.length) (g1 : j < v.length), j < i -> Hy w[j] = v[j]) _ ?_ FUEL (0 : Int) ⟨0, rfl, Nat.zero_le _, fun j _ _ h => by omega⟩ (by unfold FUEL; omega);rintro _ ⟨i, rfl, hi, hI⟩;by_cases hlt : i < w.length /\ i < v.length
 ·obtain ⟨g0, g1⟩ := hlt;have hmin : decide ((i : Int) < (if (v.length : Int) < (w.length : Int) then (v.length : Int) else (w.length : Int))) = true := by
   apply bf; split <;> omega
  obtain ⟨v1, v2⟩ := hv v[i] (bn g1);have wlt := w[i].toNat_lt;have hior : ior .u8 (w[i].toNat : Int) (v[i].toNat : Int) = ((w[i].toNat ||| v[i].toNat : Nat) : Int) := u8_or_nat _ _ (by omega) (by omega);have hb : ∀ rec, As w v rec (i : Int) = cond (decide ((128 : Int) <= (ior .u8 (w[i].toNat : Int) (v[i].toNat : Int))))
    (some (.inr (.inl (i : Int)))) (cond ((v[i].toNat : Int) == (w[i].toNat : Int)) (rec ((i + 1 : Nat) : Int))
     (cond (decide ((v[i].toNat : Int) < (w[i].toNat : Int)))
      (cond (((decide ((65 : Int) <= (v[i].toNat : Int))) && (decide ((v[i].toNat : Int) <= (90 : Int)))) && ((w[i].toNat : Int) == (IntKind.wrap .u8 ((IntKind.wrap .u8 ((v[i].toNat : Int) + (97 : Int))) - (65 : Int))))) (rec ((i + 1 : Nat) : Int)) (some (.inr (.inr false))))
      (cond (((decide ((65 : Int) <= (w[i].toNat : Int))) && (decide ((w[i].toNat : Int) <= (90 : Int)))) && ((v[i].toNat : Int) == (IntKind.wrap .u8 ((IntKind.wrap .u8 ((w[i].toNat : Int) + (97 : Int))) - (65 : Int))))) (rec ((i + 1 : Nat) : Int)) (some (.inr (.inr false)))))) := by
   intro rec;unfold As;simp only [AA];rw [hmin, bb, Ao g0, ba, Ao g1, ba, w64 (by omega) (by omega)];rfl
  by_cases h128 : 128 <= w[i].toNat
  ·have : (128 : Int) <= ior .u8 (w[i].toNat : Int) (v[i].toNat : Int) := by
    rw [hior];have := Nat.left_le_or (n := w[i].toNat) (m := v[i].toNat);omega
   exact .inr ⟨_, fun rec => by rw [hb, bf this, bb], .inr (.inr ⟨i, g0, g1, rfl, h128⟩)⟩
  ·have : ¬ (128 : Int) <= ior .u8 (w[i].toNat : Int) (v[i].toNat : Int) := by
    rw [hior];have := Nat.or_lt_two_pow (n := 7) (show w[i].toNat < 2 ^ 7 by omega) (show v[i].toNat < 2 ^ 7 by omega);omega
   have hb2 : ∀ rec, As w v rec (i : Int) = cond (decide (Hy w[i] = v[i])) (rec ((i + 1 : Nat) : Int)) (some (.inr (.inr false))) := by
    intro rec;rw [hb, bg this, bc];have hlow : (Hy w[i] = v[i]) ↔ (if 65 <= w[i].toNat /\ w[i].toNat <= 90 then w[i].toNat + 32 else w[i].toNat) = v[i].toNat := by
     rw [<- PU]; exact UInt8.toNat_inj.symm
    by_cases heq : (v[i].toNat : Int) = (w[i].toNat : Int)
    ·have hd : Hy w[i] = v[i] := by rw [hlow]; split <;> omega
     rw [show ((v[i].toNat : Int) == (w[i].toNat : Int)) = true by simpa using heq, bb, bf hd, bb]
    ·rw [show ((v[i].toNat : Int) == (w[i].toNat : Int)) = false by simpa using heq, bc];have hc := Sz w[i].toNat v[i].toNat (by omega) v1 v2 heq;have hd : decide (Hy w[i] = v[i]) = decide ((if 65 <= w[i].toNat /\ w[i].toNat <= 90 then w[i].toNat + 32 else w[i].toNat) = v[i].toNat) := by rw [decide_eq_decide]; exact hlow
     rw [hd, <- hc];cases decide ((v[i].toNat : Int) < (w[i].toNat : Int)) <;> rfl
   by_cases hd : Hy w[i] = v[i]
   ·refine .inl ⟨((i + 1 : Nat) : Int), fun rec => by rw [hb2, bf hd, bb], ⟨i + 1, rfl, g0, fun j a b h => ?_⟩, by rw [Int.toNat_natCast, Int.toNat_natCast]; omega⟩;by_cases hji : j = i
    ·subst hji; exact hd
    ·exact hI j a b (by omega)
   ·exact .inr ⟨_, fun rec => by rw [hb2, bg hd, bc], .inr (.inl ⟨rfl, i, g0, g1, hd⟩)⟩
 ·right;have hmin : decide ((i : Int) < (if (v.length : Int) < (w.length : Int) then (v.length : Int) else (w.length : Int))) = false := by
   apply bg; split <;> omega
  exact ⟨.inl (), fun rec => by unfold As; rw [hmin, bc], .inl ⟨rfl, fun j a b => hI j a b (by omega)⟩⟩
theorem Jv {w v : List By8} {j : Nat} (g0 : j < w.length) (g1 : j < v.length) (h : Hy w[j] ≠ v[j]) : (w.map Hy == v) = false := by
 rw [beq_eq_false_iff_ne];intro he;subst he;exact h (by simp)
theorem Qe {w v : List By8} (h : ∀ j (g0 : j < w.length) (g1 : j < v.length), Hy w[j] = v[j]) : ((w.length : Int) == (v.length : Int)) = (w.map Hy == v) := by
 by_cases hl : w.length = v.length
 ·rw [show ((w.length : Int) == (v.length : Int)) = true by rw [beq_iff_eq]; omega];have : w.map Hy = v := List.ext_getElem (by simpa using hl) fun j a b => by
   rw [List.getElem_map]; exact h j (by simpa using a) b
  rw [this]; simp
 ·rw [show ((w.length : Int) == (v.length : Int)) = false by rw [beq_eq_false_iff_ne]; omega];symm;rw [beq_eq_false_iff_ne];intro he;subst he;simp at hl
theorem Pg (s : List By8) (hs : 0 < s.length) (h128 : 128 <= s[0].toNat) (c : By8) (t : List By8) (hc : (c.toNat : Int) = 120 \/ (c.toNat : Int) = 109 \/ (c.toNat : Int) = 108) (hd : L_DecodeRuneInString (c :: t) = some ((c.toNat : Int), 1)) : iter (At s) FUEL (c :: t, (0 : Nat)) = some (.inr false) := by
 obtain ⟨r1, r2⟩ := Mz s 0;have hr : 128 <= rnS s 0 := by
  rw [r1, Lib.decodeL_N]
  have := TF (n := (s.drop 0).length) (b0 := ((s.drop 0).getD 0 0).toNat) (b1 := ((s.drop 0).getD 1 0).toNat) (b2 := ((s.drop 0).getD 2 0).toNat) (b3 := ((s.drop 0).getD 3 0).toNat) (by
   rw [List.drop_zero, show s.getD 0 0 = s[0] by simp [List.getD, hs]]; exact h128)
  omega
 have hsl : slc (c :: t) (1 : Int) ((c :: t).length : Int) = some t := M4 (by simp);obtain ⟨m, hm⟩ : ∃ m, FUEL = m + 1 := ⟨FUEL - 1, by unfold FUEL; rfl⟩
 have hf : L_SimpleFold (c.toNat : Int) = some ((c.toNat : Int) - 32) := by rcases hc with h | h | h <;> rw [h] <;> rfl
 have hl1 := Rq _ (rnS s 0) hc hr;have f1 : ((c.toNat : Int) == rnS s 0) = false := by rw [beq_eq_false_iff_ne]; omega
 have f2 : decide ((c.toNat : Int) < rnS s 0) = true := bf (by omega);have f3 : decide (rnS s 0 < 128) = false := bg (by omega);have f4 : decide ((c.toNat : Int) < rnS s 0) = true := bf (by omega);have hb : ∀ rec, At s rec (c :: t, 0) = some (.inr false) := by
  intro rec;unfold At;simp only [AA];rw [bf hs, bb, show (((c :: t).length : Int) == 0) = false by rw [beq_eq_false_iff_ne]; simp; omega, bc, hd, ba];dsimp only;rw [hsl, ba, f1, bc, f2, bb, f3, bc, hf, ba, hl1, ba, f1, bc]
 rw [hm, Dc, hb]
theorem QS (w : List By8) (hw : w.length <= 1073741824) : Bk w [120, 109, 108] = some (w.map Hy == [120, 109, 108]) := by
 obtain ⟨o, e1, e2⟩ := SM w [120, 109, 108] hw (by unfold okS; decide);unfold Bk;simp only [AA];rw [e1, ba];rcases e2 with ⟨rfl, h⟩ | ⟨rfl, j, g0, g1, h⟩ | ⟨i, g0, g1, rfl, h⟩
 ·dsimp only;rw [Qe h]
 ·rw [Jv g0 g1 h]
 ·have hd : Hy w[i] ≠ ([120, 109, 108] : List By8)[i] := by
   intro he;have h1 := congrArg UInt8.toNat he;rw [PU, if_neg (by omega)] at h1;have h2 : ([120, 109, 108] : List By8)[i].toNat < 128 := by
    have : ∀ c ∈ ([120, 109, 108] : List By8), c.toNat < 128 := by decide
    exact this _ (bn g1)
   omega
  rw [Jv g0 g1 hd];dsimp only;rw [FG (Nat.le_of_lt g0), ba, FG (Nat.le_of_lt g1), ba];have hs : 0 < (w.drop i).length := by rw [List.length_drop]; omega
  have hs2 : 128 <= (w.drop i)[0].toNat := by rw [List.getElem_drop]; simpa using h
  match i, g1, hs, hs2 with
  | 0, _, hs, hs2 => rw [show ([120, 109, 108] : List By8).drop 0 = 120 :: [109, 108] from rfl, Pg _ hs hs2 120 _ (.inl rfl) rfl]; rfl
  | 1, _, hs, hs2 => rw [show ([120, 109, 108] : List By8).drop 1 = 109 :: [108] from rfl, Pg _ hs hs2 109 _ (.inr (.inl rfl)) rfl]; rfl
  | 2, _, hs, hs2 => rw [show ([120, 109, 108] : List By8).drop 2 = 108 :: [] from rfl, Pg _ hs hs2 108 _ (.inr (.inr rfl)) rfl]; rfl

set_option linter.unusedSimpArgs false
set_option linter.unusedVariables false
set_option maxRecDepth 20000
def HF (n : Aa) : Bool := n.Attrs.all (fun a => decide (a.Value.length <= 8192)) && (decide (n.Attrs.length <= 64) && decide (n.Text.length <= 8192))
theorem Fs (a b : Nat) (A B : Int) (h1 : A = a) (h2 : B = b) : decide (A < B) = !decide (b <= a) := by
 subst h1 h2;by_cases h : b <= a
 ·rw [bf h, bg (by omega)]; rfl
 ·rw [bg h, bf (by omega)]; rfl
theorem MB (a b : Nat) (A B : Int) (h1 : A = a) (h2 : B = b) : decide (A <= B) = decide (a <= b) := by
 subst h1 h2;by_cases h : a <= b
 ·rw [bf h, bf (by omega)]
 ·rw [bg h, bg (by omega)]
theorem U4 (n : Aa) (hn : szN n <= 1049600) : DY n = some (HF n) := by
 have hk := CH n;unfold DY;simp only [AA]
 rw [Gc n.Attrs (fun a => decide (a.Value.length <= 8192)) (b := Cq n) (r := false) (by omega) (fun rec i h => by
  unfold Cq;rw [bf (by omega), bb, Ao h, ba, N5 (by omega), Fs 8192 n.Attrs[i].Value.length (8192 : Int) _ rfl rfl]
  cases decide (n.Attrs[i].Value.length <= 8192) <;> rfl) (fun rec => by
  unfold Cq
  rw [bg (by omega), bc]), ba, MB n.Attrs.length 64 _ (64 : Int) rfl rfl, MB n.Text.length 8192 _ (8192 : Int) rfl rfl]
 unfold HF;cases n.Attrs.all (fun a => decide (a.Value.length <= 8192)) <;> rfl
theorem Oh (n : Aa) (hn : szN n <= 1049600) : CE n = some (!HF n) := by
 have hk := CH n;have h1 : ∀ x ∈ n.Attrs, Dg x = some (!decide (x.Value.length <= 8192)) := fun x _ => by unfold Dg; rw [Fs 8192 x.Value.length (8192 : Int) _ rfl rfl]
 unfold CE;rw [Fv (by omega) (fun x hx => ⟨_, h1 x hx⟩), GK n.Attrs _ (fun a => decide (a.Value.length <= 8192)) h1, Fs 64 n.Attrs.length (64 : Int) _ rfl rfl, Fs 8192 n.Text.length (8192 : Int) _ rfl rfl];simp only [AA, ba];unfold HF;cases n.Attrs.all (fun a => decide (a.Value.length <= 8192)) <;> cases decide (n.Attrs.length <= 64) <;> cases decide (n.Text.length <= 8192) <;> rfl
def fz (s : List By8) : Bool := match CY s with
 | some (_, e) => e == (0 : Int)
 | none => false
theorem OT (s : List By8) (h : s.length <= 1073741824) : Ck s = some (fz s) := by
 obtain ⟨⟨a, e⟩, hr⟩ := HI s h;unfold Ck fz;rw [S7 s h, hr, ba]
theorem Td (s : List By8) (h : s.length <= 1073741824) : DD s = some (!fz s) := by
 obtain ⟨⟨a, e⟩, hr⟩ := HI s h;unfold DD fz;rw [hr, ba]; rfl
def VN : List By8 := [104, 116, 116, 112, 58, 47, 47, 119, 119, 119, 46, 119, 51, 46, 111, 114, 103, 47, 50, 48, 48, 48, 47, 120, 109, 108, 110, 115, 47]
def Fb (n : Ac) : Bool := ((H2 n.Local && decide (n.URI.length <= 100)) && fz n.URI) && !(n.URI == VN)
theorem M2 (n : Ac) (h : n.URI.length <= 1073741824) : CB n = some (Fb n) := by
 unfold CB Fb;rw [Po, ba, OT _ h, MB n.URI.length 100 _ (100 : Int) rfl rfl];simp only [AA, ba];cases H2 n.Local <;> cases decide (n.URI.length <= 100) <;> rfl
theorem OP (n : Ac) (h : n.URI.length <= 1073741824) : Bz n = some (!Fb n) := by
 unfold Bz Fb;rw [PI, ba, Td _ h, Fs 100 n.URI.length (100 : Int) _ rfl rfl];simp only [AA, ba];show _ = some (!(((H2 n.Local && decide (n.URI.length <= 100)) && fz n.URI) && !(n.URI == ([104, 116, 116, 112, 58, 47, 47, 119, 119, 119, 46, 119, 51, 46, 111, 114, 103, 47, 50, 48, 48, 48, 47, 120, 109, 108, 110, 115, 47] : List By8))));cases H2 n.Local <;> cases decide (n.URI.length <= 100) <;> cases fz n.URI <;> cases (n.URI == ([104, 116, 116, 112, 58, 47, 47, 119, 119, 119, 46, 119, 51, 46, 111, 114, 103, 47, 50, 48, 48, 48, 47, 120, 109, 108, 110, 115, 47] : List By8)) <;> rfl
def RB (a : Ae) : Bool := Fb a.Name && !((a.Name.URI == ([] : List By8)) && (a.Name.Local == ([120, 109, 108, 110, 115] : List By8)))
def LY (l : List By8) : Bool := l.map Hy == ([120, 109, 108] : List By8)
def nmP (n : Aa) : Bool := ((!(n.Kind == (2 : Int)) || Fb n.Name) && n.Attrs.all RB) && (!(n.Kind == (5 : Int)) || (H2 n.Name.Local && !LY n.Name.Local))
theorem WF (c : By8) : ((Hy c == 120) = (((c.toNat : Int) == (120 : Int)) || ((c.toNat : Int) == (88 : Int)))) /\ ((Hy c == 109) = (((c.toNat : Int) == (109 : Int)) || ((c.toNat : Int) == (77 : Int)))) /\ ((Hy c == 108) = (((c.toNat : Int) == (108 : Int)) || ((c.toNat : Int) == (76 : Int)))) := by
 have h := Sd (p := fun c : By8 => ((Hy c == 120) == (((c.toNat : Int) == (120 : Int)) || ((c.toNat : Int) == (88 : Int)))) && ((Hy c == 109) == (((c.toNat : Int) == (109 : Int)) || ((c.toNat : Int) == (77 : Int)))) && ((Hy c == 108) == (((c.toNat : Int) == (108 : Int)) || ((c.toNat : Int) == (76 : Int))))) (by decide) c;simp only [Bool.and_eq_true, beq_iff_eq] at h;exact ⟨h.1.1, h.1.2, h.2⟩
theorem VP (n : Aa) (hn : szN n <= 1049600) : D1 n = some (nmP n) := by
 have hk := CH n;obtain ⟨n1, n2, n3⟩ := EO n;unfold D1;rw [M2 _ (by omega)];simp only [AA, ba]
 rw [Gc n.Attrs RB (b := Cs n) (r := false) (by omega) (fun rec i h => by
  obtain ⟨a1, a2, a3⟩ := FZ (x := n) (bn h);unfold Cs RB;rw [bf (by omega), bb, Ao h, ba, M2 _ (by omega), ba, N5 (by omega)]
  cases Fb n.Attrs[i].Name <;> cases (n.Attrs[i].Name.URI == ([] : List By8)) <;> cases (n.Attrs[i].Name.Local == ([120, 109, 108, 110, 115] : List By8)) <;> rfl) (fun rec => by
  unfold Cs
  rw [bg (by omega), bc]), ba, Po, ba]
 have tail : ∀ l : List By8, l.length <= 1049600 -> (cond ((l.length : Int) == (3 : Int)) ((idx l (0 : Int)).bind fun x39 => cond ((x39.toNat : Int) == (120 : Int)) (cond true ((idx l (1 : Int)).bind fun x47 => cond ((x47.toNat : Int) == (109 : Int)) (cond true ((idx l (2 : Int)).bind fun x55 => cond ((x55.toNat : Int) == (108 : Int)) (some (!true)) ((idx l (2 : Int)).bind fun x59 => some (!((x59.toNat : Int) == (76 : Int))))) (some (!false))) ((idx l (1 : Int)).bind fun x51 => cond ((x51.toNat : Int) == (77 : Int)) ((idx l (2 : Int)).bind fun x55 => cond ((x55.toNat : Int) == (108 : Int)) (some (!true)) ((idx l (2 : Int)).bind fun x59 => some (!((x59.toNat : Int) == (76 : Int))))) (some (!false)))) (cond false (some (!true)) (some (!false)))) ((idx l (0 : Int)).bind fun x43 => some true)) (some true)) = (cond ((l.length : Int) == (3 : Int)) ((idx l (0 : Int)).bind fun x39 => cond ((x39.toNat : Int) == (120 : Int)) (cond true ((idx l (1 : Int)).bind fun x47 => cond ((x47.toNat : Int) == (109 : Int)) (cond true ((idx l (2 : Int)).bind fun x55 => cond ((x55.toNat : Int) == (108 : Int)) (some (!true)) ((idx l (2 : Int)).bind fun x59 => some (!((x59.toNat : Int) == (76 : Int))))) (some (!false))) ((idx l (1 : Int)).bind fun x51 => cond ((x51.toNat : Int) == (77 : Int)) ((idx l (2 : Int)).bind fun x55 => cond ((x55.toNat : Int) == (108 : Int)) (some (!true)) ((idx l (2 : Int)).bind fun x59 => some (!((x59.toNat : Int) == (76 : Int))))) (some (!false)))) (cond false (some (!true)) (some (!false)))) ((idx l (0 : Int)).bind fun x43 => some true)) (some true)) := fun _ _ => rfl;clear tail;have xml : ∀ l : List By8, (l.length = 3 -> ∃ a b c, l = [a, b, c]) := fun l h => by
  match l, h with
  | [a, b, c], _ => exact ⟨a, b, c, rfl⟩
 unfold nmP;generalize n.Name.Local = l at *;generalize n.Attrs.all RB = A;generalize Fb n.Name = C;generalize H2 l = N;by_cases h2 : n.Kind = 2
 ·rw [h2]; cases C <;> cases A <;> rfl
 ·rw [show (n.Kind == (2 : Int)) = false by rw [beq_eq_false_iff_ne]; exact h2];by_cases h5 : n.Kind = 5
  ·rw [show (n.Kind == (5 : Int)) = true by rw [h5]; rfl, show (n.Kind != (5 : Int)) = false by rw [h5]; rfl]
   cases A with
   | false => rfl
   | true =>
    cases N with
    | false => rfl
    | true =>
     by_cases h3 : l.length = 3
     ·obtain ⟨a, b, c, rfl⟩ := xml l h3;have e : LY [a, b, c] = ((Hy a == 120) && ((Hy b == 109) && (Hy c == 108))) := by
       unfold LY;rw [Bool.eq_iff_iff];simp
      rw [e, (WF a).1, (WF b).2.1, (WF c).2.2, show ((([a, b, c] : List By8).length : Int) == (3 : Int)) = true from rfl];rw [show idx [a, b, c] (0 : Int) = some a from rfl, show idx [a, b, c] (1 : Int) = some b from rfl, show idx [a, b, c] (2 : Int) = some c from rfl];simp only [ba];cases ((a.toNat : Int) == (120 : Int)) <;> cases ((a.toNat : Int) == (88 : Int)) <;> cases ((b.toNat : Int) == (109 : Int)) <;> cases ((b.toNat : Int) == (77 : Int)) <;> cases ((c.toNat : Int) == (108 : Int)) <;> cases ((c.toNat : Int) == (76 : Int)) <;> rfl
     ·have e : LY l = false := by
       unfold LY;rw [beq_eq_false_iff_ne];intro h;have := congrArg List.length h;simp at this; omega
      rw [e, show ((l.length : Int) == (3 : Int)) = false by rw [beq_eq_false_iff_ne]; omega];rfl
  ·rw [show (n.Kind == (5 : Int)) = false by rw [beq_eq_false_iff_ne]; exact h5, show (n.Kind != (5 : Int)) = true by simpa using h5];cases A <;> rfl
theorem Jm (n : Aa) (hn : szN n <= 1049600) (ho : Np n = true) : A5 n = some (!nmP n) := by
 have hk := CH n;obtain ⟨n1, n2, n3⟩ := EO n;have h1 : ∀ x ∈ n.Attrs, Cf x = some (!RB x) := fun x hx => by
  obtain ⟨a1, a2, a3⟩ := FZ hx;unfold Cf RB;rw [OP _ (by omega), ba];cases Fb x.Name <;> cases (x.Name.URI == ([] : List By8)) <;> cases (x.Name.Local == ([120, 109, 108, 110, 115] : List By8)) <;> rfl
 have hA : n.Kind ≠ 2 -> n.Attrs = [] := fun h2 => by
  unfold Np at ho;rw [Bool.and_eq_true] at ho;have h := ho.1;unfold Pu at h;rw [if_neg h2] at h;split at h
  ·simp only [Bool.and_eq_true] at h; exact List.isEmpty_iff.1 h.1.1
  ·split at h
   ·simp only [Bool.and_eq_true] at h; exact List.isEmpty_iff.1 h.1
   ·simp only [Bool.and_eq_true] at h; exact List.isEmpty_iff.1 h.1
 unfold A5;rw [Fv (by omega) (fun x hx => ⟨_, h1 x hx⟩), GK n.Attrs _ RB h1, OP _ (by omega), PI, QS _ (by omega)];simp only [AA, ba];unfold nmP;by_cases h2 : n.Kind = 2
 ·rw [h2]; cases Fb n.Name <;> cases n.Attrs.all RB <;> rfl
 ·rw [hA h2, show (n.Kind == (2 : Int)) = false by rw [beq_eq_false_iff_ne]; exact h2];show cond false _ (cond (n.Kind == (5 : Int)) (cond (!H2 n.Name.Local) (some true) (some (LY n.Name.Local))) (some false)) = _;cases (n.Kind == (5 : Int)) <;> cases H2 n.Name.Local <;> cases LY n.Name.Local <;> rfl
def chP (n : Aa) : Bool := n.Attrs.all (fun a => fz a.Value) && fz n.Text
theorem SZ (n : Aa) (hn : szN n <= 1049600) : DI n = some (chP n) := by
 have hk := CH n;obtain ⟨n1, n2, n3⟩ := EO n;unfold DI;simp only [AA]
 rw [Gc n.Attrs (fun a => fz a.Value) (b := Cc n) (r := false) (by omega) (fun rec i h => by
  obtain ⟨a1, a2, a3⟩ := FZ (x := n) (bn h);unfold Cc;rw [bf (by omega), bb, Ao h, ba, OT _ (by omega), ba, N5 (by omega)]
  cases fz n.Attrs[i].Value <;> rfl) (fun rec => by
  unfold Cc
  rw [bg (by omega), bc]), ba, OT _ (by omega)]
 unfold chP;cases n.Attrs.all (fun a => fz a.Value) <;> rfl
theorem M5 (n : Aa) (hn : szN n <= 1049600) : Bt n = some (!chP n) := by
 have hk := CH n;obtain ⟨n1, n2, n3⟩ := EO n;have h1 : ∀ x ∈ n.Attrs, CV x = some (!fz x.Value) := fun x hx => by
  obtain ⟨a1, a2, a3⟩ := FZ hx;unfold CV;rw [Td _ (by omega), ba]
 unfold Bt;rw [Td _ (by omega), Fv (by omega) (fun x hx => ⟨_, h1 x hx⟩), GK n.Attrs _ (fun a => fz a.Value) h1];simp only [AA, ba];unfold chP;cases n.Attrs.all (fun a => fz a.Value) <;> cases fz n.Text <;> rfl
def Ue (a b : Ac) : Bool := (Op.bytesLess a.URI b.URI) || ((a.URI == b.URI) && (Op.bytesLess a.Local b.Local))
theorem Ob (a b : List By8) : (Op.bytesLess a b = true ↔ D6 a b < 0) /\ ((a == b) = true ↔ D6 a b = 0) := by
 have h := Ho a b;have hz : D6 a a = 0 := CR.refl a
 cases h1 : Op.bytesLess a b with
 | true =>
  rw [h1] at h;simp only [if_true] at h;refine ⟨by rw [<- h]; simp, ?_⟩;rw [<- h];constructor
  ·intro e;have : a = b := by simpa using e
   subst this; omega
  ·intro e; omega
 | false =>
  rw [h1] at h
  cases h2 : (a == b) with
  | true => rw [h2] at h; simp at h; rw [<- h]; simp
  | false => rw [h2] at h; simp at h; rw [<- h]; simp
theorem Qr (a b : Ac) : decide ((0 : Int) <= LF a b) = !Ue a b := by
 obtain ⟨u1, u2⟩ := Ob a.URI b.URI;obtain ⟨l1, l2⟩ := Ob a.Local b.Local;unfold LF Ue;have hr := CR.rng a.URI b.URI;have hr2 := CR.rng a.Local b.Local
 cases h1 : Op.bytesLess a.URI b.URI with
 | true =>
  rw [h1] at u1;have := u1.1 rfl;rw [if_pos (by omega), bg (by omega)]; rfl
 | false =>
  have n1 : ¬ D6 a.URI b.URI < 0 := fun h => by have := u1.2 h; rw [h1] at this; cases this
  cases h2 : (a.URI == b.URI) with
  | true =>
   rw [if_neg (by have := u2.1 h2; omega)]
   cases h3 : Op.bytesLess a.Local b.Local with
   | true => rw [bg (by have := l1.1 h3; omega)]; rfl
   | false =>
    have n2 : ¬ D6 a.Local b.Local < 0 := fun h => by have := l1.2 h; rw [h3] at this; cases this
    rw [bf (by omega)]; rfl
  | false =>
   have n2 : D6 a.URI b.URI ≠ 0 := fun h => by have := u2.2 h; rw [h2] at this; cases this
   rw [if_pos n2, bf (by omega)]; rfl
def Sc (l : List Ae) (i : Nat) : Bool := Ue (l.getD (i - 1) default).Name (l.getD i default).Name
def orP (n : Aa) : Bool := (List.range' 1 (n.Attrs.length - 1)).all (Sc n.Attrs)
theorem Gk {α : Type} [Inhabited α] {l : List α} {i : Nat} (h : i < l.length) : l.getD i default = l[i] := by simp [List.getD, h]
theorem Tr (n : Aa) (hn : szN n <= 1049600) : DE n = some (orP n) := by
 have hk := CH n;unfold DE;simp only [AA]
 have h := HG n.Attrs.length 1 (Sc n.Attrs) (b := B9 n) (r := false) (by omega) (by omega) (fun rec i h0 h => by
  unfold B9 Sc;rw [bf (by omega), bb, w64 (x := (i : Int) - 1) (by omega) (by omega), show (i : Int) - 1 = ((i - 1 : Nat) : Int) by omega, Ao (by omega : i - 1 < n.Attrs.length), ba, Ao h, ba, N5 (by omega), Gk (by omega : i - 1 < n.Attrs.length), Gk h];show cond (!Ue n.Attrs[i - 1].Name n.Attrs[i].Name) _ _ = _
  cases Ue n.Attrs[i - 1].Name n.Attrs[i].Name <;> rfl) (fun rec i h _ => by
  unfold B9
  rw [bg (by omega), bc])
 rw [show ((1 : Nat) : Int) = 1 from rfl] at h;rw [h, ba];unfold orP;cases (List.range' 1 (n.Attrs.length - 1)).all (Sc n.Attrs) <;> rfl
theorem OL (N : Nat) (p q : Nat -> Bool) (h0 : p 0 = true) (h : ∀ i, 1 <= i -> p i = q i) : (List.range' 0 (N - 0)).all p = (List.range' 1 (N - 1)).all q := by
 rw [Bool.eq_iff_iff, List.all_eq_true, List.all_eq_true];constructor
 ·intro hh i hi;rw [List.mem_range'_1] at hi;rw [<- h i hi.1];exact hh i (by rw [List.mem_range'_1]; omega)
 ·intro hh i hi;rw [List.mem_range'_1] at hi;by_cases hz : i = 0
  ·subst hz; exact h0
  ·rw [h i (by omega)];exact hh i (by rw [List.mem_range'_1]; omega)
theorem Ow (n : Aa) (hn : szN n <= 1049600) : AW n = some (!orP n) := by
 have hk := CH n;unfold AW;simp only [AA]
 have h := HG n.Attrs.length 0 (fun i => if i = 0 then true else Sc n.Attrs i) (b := A3 n) (r := true) (by omega) (by omega) (fun rec i h0 h => by
  unfold A3;simp only [AA];rw [bf (by omega), bb, N5 (by omega)];by_cases hz : i = 0
  ·subst hz; rfl
  ·unfold Sc;rw [if_neg hz, bf (by omega), bb, w64 (x := (i : Int) - 1) (by omega) (by omega), show (i : Int) - 1 = ((i - 1 : Nat) : Int) by omega, Ao (by omega : i - 1 < n.Attrs.length), ba, Ao h, ba, OW, ba, Qr, Gk (by omega : i - 1 < n.Attrs.length), Gk h]
   cases Ue n.Attrs[i - 1].Name n.Attrs[i].Name <;> rfl) (fun rec i h _ => by
  unfold A3
  rw [bg (by omega), bc])
 rw [show ((0 : Nat) : Int) = 0 from rfl, OL _ _ (Sc n.Attrs) rfl (fun i h => if_neg (by omega))] at h;rw [h, ba];unfold orP;cases (List.range' 1 (n.Attrs.length - 1)).all (Sc n.Attrs) <;> rfl

set_option linter.unusedSimpArgs false
set_option linter.unusedVariables false
set_option maxRecDepth 20000
theorem NT (w s : List By8) : w.isPrefixOf s = (s.take w.length == w) := by
 rw [Bool.eq_iff_iff, List.isPrefixOf_iff_prefix, beq_iff_eq];constructor
 ·rintro ⟨t, rfl⟩; simp
 ·intro h;refine ⟨s.drop w.length, ?_⟩
  conv => lhs; lhs; rw [<- h]
  exact List.take_append_drop _ _
theorem ST (s w : List By8) (hs : s.length <= 1073741824) (h0 : 0 < w.length) (hw : w.length <= 1000) : BY s w = some (Lib.contains s w) := by
 unfold BY;simp only [AA]
 have h := HG (s.length + 1 - w.length) 0 (fun i => !(Lib.occAt s w i)) (b := Cz s w) (r := true) (by omega) (by omega) (fun rec i _ h => by
  unfold Cz;rw [w64 (x := (i : Int) + (w.length : Int)) (by omega) (by omega), bf (by omega), bb];have hsl : slc s (i : Int) ((i : Int) + (w.length : Int)) = some ((s.drop i).take w.length) := by
   unfold slc;rw [if_pos (by omega), Int.toNat_natCast, show ((i : Int) + (w.length : Int)).toNat - i = w.length by omega]
  rw [hsl, ba, N5 (by omega)];unfold Lib.occAt;rw [NT]
  cases ((s.drop i).take w.length == w) <;> rfl) (fun rec i h _ => by
  unfold Cz
  rw [w64 (x := (i : Int) + (w.length : Int)) (by omega) (by omega), bg (by omega), bc])
 rw [show ((0 : Nat) : Int) = 0 from rfl] at h;rw [h, ba];have e : Lib.contains s w = !((List.range' 0 (s.length + 1 - w.length - 0)).all fun i => !(Lib.occAt s w i)) := by
  unfold Lib.contains;rcases Lib.index_spec s w with ⟨h1, h2⟩ | ⟨i, h1, h2, h3, h4⟩
  ·rw [h1, bg (by omega)];symm;rw [Bool.not_eq_false', List.all_eq_true];intro i hi;rw [List.mem_range'_1] at hi;rw [h2 i (by omega)]; rfl
  ·have hroom := Lib.index_room s w (by omega);rw [h1, bf (by omega)];symm;rw [Bool.not_eq_true', List.all_eq_false];exact ⟨i, by rw [List.mem_range'_1]; omega, by rw [h3]; simp⟩
 rw [e];cases ((List.range' 0 (s.length + 1 - w.length - 0)).all fun i => !(Lib.occAt s w i)) <;> rfl
def Ln (t : List By8) : Bool := (t == ([] : List By8)) || ((t.getLast?.getD 0 : By8) != 45)
def K9 (t : List By8) : Bool := match t with
 | [] => true
 | c :: _ => c != 32 && c != 9 && c != 10
def S5 (n : Aa) : Bool :=
 if n.Kind = 3 then !(n.Text == ([] : List By8))
 else if n.Kind = 4 then (!(Lib.contains n.Text [45, 45]) && !(Lib.contains n.Text [13])) && Ln n.Text
 else if n.Kind = 5 then (!(Lib.contains n.Text [63, 62]) && !(Lib.contains n.Text [13])) && K9 n.Text
 else true
def kAt (l : List Aa) (i : Nat) : Bool := !(((l.getD i default).Kind == (3 : Int)) && ((l.getD (i - 1) default).Kind == (3 : Int)))
def txP (n : Aa) : Bool := (List.range' 1 (n.Kids.length - 1)).all (kAt n.Kids) && S5 n
theorem Na (c : By8) (m : Nat) (hm : m < 256) : ((c.toNat : Int) != (m : Int)) = (c != UInt8.ofNat m) := by
 have e : (c.toNat : Int) = (m : Int) ↔ c = UInt8.ofNat m := by
  constructor
  ·intro h;apply UInt8.toNat_inj.1;rw [UInt8.toNat_ofNat'];omega
  ·rintro rfl;rw [UInt8.toNat_ofNat'];omega
 rw [Bool.eq_iff_iff, bne_iff_ne, bne_iff_ne];exact not_congr e
theorem Uw (n : Aa) (hn : szN n <= 1049600) : DU n = some (txP n) := by
 have hk := Br n;obtain ⟨n1, n2, n3⟩ := EO n;unfold DU;simp only [AA]
 have h := HG n.Kids.length 1 (kAt n.Kids) (b := Cu n) (r := false) (by omega) (by omega) (fun rec i h0 h => by
  unfold Cu kAt;simp only [AA];rw [bf (by omega), bb, Ao h, ba, w64 (x := (i : Int) - 1) (by omega) (by omega), show (i : Int) - 1 = ((i - 1 : Nat) : Int) by omega, Ao (by omega : i - 1 < n.Kids.length), ba, N5 (by omega), Gk (by omega : i - 1 < n.Kids.length), Gk h]
  cases (n.Kids[i].Kind == (3 : Int)) <;> cases (n.Kids[i - 1].Kind == (3 : Int)) <;> rfl) (fun rec i h _ => by
  unfold Cu;simp only [AA]
  rw [bg (by omega), bc])
 rw [show ((1 : Nat) : Int) = 1 from rfl] at h;rw [h, ba];unfold txP
 cases (List.range' 1 (n.Kids.length - 1)).all (kAt n.Kids) with
 | false => rfl
 | true =>
  simp only [if_true, Bool.true_and];rw [ST _ _ (by omega) (by decide) (by decide), ST _ _ (by omega) (by decide) (by decide), ST _ _ (by omega) (by decide) (by decide)];simp only [ba];unfold S5;by_cases h3 : n.Kind = 3
  ·rw [if_pos h3, show (n.Kind == (3 : Int)) = true by rw [h3]; rfl, bb]
  ·rw [if_neg h3, show (n.Kind == (3 : Int)) = false by rw [beq_eq_false_iff_ne]; exact h3, bc];by_cases h4 : n.Kind = 4
   ·rw [if_pos h4, show (n.Kind == (4 : Int)) = true by rw [h4]; rfl, bb]
    cases Lib.contains n.Text [45, 45] with
    | true => rfl
    | false =>
     cases Lib.contains n.Text [13] with
     | true => rfl
     | false =>
      unfold Ln
      cases hT : n.Text with
      | nil => rfl
      | cons c t =>
       have e : idx (c :: t) (IntKind.wrap .i64 (((c :: t).length : Int) - (1 : Int))) = some ((c :: t).getLast (by simp)) := by
        have hl : (c :: t).length <= 1049600 := by rw [<- hT]; omega
        rw [w64 (by omega) (by omega), show ((c :: t).length : Int) - 1 = (((c :: t).length - 1 : Nat) : Int) by simp, Ao (by simp : (c :: t).length - 1 < (c :: t).length), List.getLast_eq_getElem]
       rw [e, List.getLast?_eq_some_getLast (by simp)];simp only [ba, Option.getD_some];have := Na ((c :: t).getLast (by simp)) 45 (by decide);show some (((c :: t).getLast _).toNat != (45 : Int)) = _;exact congrArg some this
   ·rw [if_neg h4, show (n.Kind == (4 : Int)) = false by rw [beq_eq_false_iff_ne]; exact h4, bc];by_cases h5 : n.Kind = 5
    ·rw [if_pos h5, show (n.Kind == (5 : Int)) = true by rw [h5]; rfl, bb]
     cases Lib.contains n.Text [63, 62] with
     | true => rfl
     | false =>
      cases Lib.contains n.Text [13] with
      | true => rfl
      | false =>
       unfold K9
       cases hT : n.Text with
       | nil => rfl
       | cons c t =>
        rw [show idx (c :: t) (0 : Int) = some c from rfl];simp only [ba];have e1 : ((c.toNat : Int) != (32 : Int)) = (c != 32) := Na c 32 (by decide);have e2 : ((c.toNat : Int) != (9 : Int)) = (c != 9) := Na c 9 (by decide);have e3 : ((c.toNat : Int) != (10 : Int)) = (c != 10) := Na c 10 (by decide);rw [e1, e2, e3];cases (c != 32) <;> cases (c != 9) <;> cases (c != 10) <;> rfl
    ·rw [if_neg h5, show (n.Kind == (5 : Int)) = false by rw [beq_eq_false_iff_ne]; exact h5, bc]
theorem Qf (t : List By8) (h : t.length <= 1049600) : Bj t [45] = some (!Ln t) := by
 unfold Bj Bu Ln;simp only [AA]
 cases t with
 | nil => rfl
 | cons c t =>
  have e : slc (c :: t) (IntKind.wrap .i64 (((c :: t).length : Int) - ((([45] : List By8)).length : Int))) ((c :: t).length : Int) = some [(c :: t).getLast (by simp)] := by
   rw [w64 (by simp only [bi, bj] at *; omega) (by simp only [bi, bj] at *; omega)];unfold slc;rw [if_pos (by simp only [bi, bj]; omega)];congr 1;have h1 : (((c :: t).length : Int) - ((([45] : List By8)).length : Int)).toNat = (c :: t).length - 1 := by simp only [bi, bj]; omega
   rw [h1];have h2 : (c :: t).drop ((c :: t).length - 1) = [(c :: t).getLast (by simp)] := by
    rw [List.drop_eq_getElem_cons (by simp : (c :: t).length - 1 < (c :: t).length), List.getLast_eq_getElem];rw [List.drop_eq_nil_of_le (by omega)]
   rw [h2];exact List.take_of_length_le (by simp only [bi, bj]; omega)
  rw [bf (by simp only [bi, bj]; omega), bb, e, List.getLast?_eq_some_getLast (by simp)];simp only [ba, Option.getD_some];generalize (c :: t).getLast _ = z;show some ([z] == ([45] : List By8)) = some (!(false || (z != 45)));congr 1;rw [Bool.eq_iff_iff];simp
theorem Vn (t : List By8) : (t == Lib.trimLeftS t [32, 9, 10]) = K9 t := by
 unfold Lib.trimLeftS K9
 cases t with
 | nil => rfl
 | cons c t =>
  by_cases h : (([32, 9, 10] : List By8).contains c) = true
  ·have : ((c :: t).dropWhile fun x => ([32, 9, 10] : List By8).contains x) = t.dropWhile fun x => ([32, 9, 10] : List By8).contains x := by
    rw [List.dropWhile_cons, if_pos h]
   rw [this];have hl : (t.dropWhile fun x => ([32, 9, 10] : List By8).contains x).length <= t.length := (List.dropWhile_sublist _).length_le;have h1 : ((c :: t) == t.dropWhile fun x => ([32, 9, 10] : List By8).contains x) = false := by
    rw [beq_eq_false_iff_ne];intro e;have := congrArg List.length e;simp only [bi] at this; omega
   rw [h1];simp only [List.contains_eq_mem, List.mem_cons, List.not_mem_nil, or_false, decide_eq_true_eq] at h;rcases h with rfl | rfl | rfl <;> rfl
  ·rw [List.dropWhile_cons, if_neg h];simp only [List.contains_eq_mem, List.mem_cons, List.not_mem_nil, or_false, decide_eq_true_eq, not_or] at h;obtain ⟨h1, h2, h3⟩ := h;simp [h1, h2, h3]
theorem Rx (n : Aa) (hn : szN n <= 1049600) : AY n = some (!txP n) := by
 have hk := Br n;obtain ⟨n1, n2, n3⟩ := EO n;unfold AY;simp only [AA]
 have h := HG n.Kids.length 0 (fun i => if i = 0 then true else kAt n.Kids i) (b := A4 n) (r := true) (by omega) (by omega) (fun rec i h0 h => by
  unfold A4;simp only [AA];rw [bf (by omega), bb, Ao h, ba, N5 (by omega)];by_cases hz : i = 0
  ·subst hz; rfl
  ·unfold kAt;rw [if_neg hz, bf (by omega), w64 (x := (i : Int) - 1) (by omega) (by omega), show (i : Int) - 1 = ((i - 1 : Nat) : Int) by omega, Ao (by omega : i - 1 < n.Kids.length), ba, Gk (by omega : i - 1 < n.Kids.length), Gk h]
   cases (n.Kids[i].Kind == (3 : Int)) <;> cases (n.Kids[i - 1].Kind == (3 : Int)) <;> rfl) (fun rec i h _ => by
  unfold A4;simp only [AA]
  rw [bg (by omega), bc])
 rw [show ((0 : Nat) : Int) = 0 from rfl, OL _ _ (kAt n.Kids) rfl (fun i h => if_neg (by omega))] at h;rw [h, ba];unfold txP
 cases (List.range' 1 (n.Kids.length - 1)).all (kAt n.Kids) with
 | false => rfl
 | true =>
  simp only [if_true, Bool.true_and];have hc : ∀ w : List By8, L_Contains n.Text w = some (Lib.contains n.Text w) := fun w => by unfold L_Contains; rw [if_pos (by omega)]
  have ht : L_TrimLeft n.Text [32, 9, 10] = some (Lib.trimLeftS n.Text [32, 9, 10]) := by unfold L_TrimLeft; rw [if_pos ⟨by decide, by decide⟩]
  rw [hc, hc, hc, ht, Qf _ (by omega)];simp only [ba, Vn];unfold S5;by_cases h3 : n.Kind = 3
  ·rw [if_pos h3, show (n.Kind == (3 : Int)) = true by rw [h3]; rfl, bb, Bool.not_not]
  ·rw [if_neg h3, show (n.Kind == (3 : Int)) = false by rw [beq_eq_false_iff_ne]; exact h3, bc];by_cases h4 : n.Kind = 4
   ·rw [if_pos h4, show (n.Kind == (4 : Int)) = true by rw [h4]; rfl, bb];cases Lib.contains n.Text [45, 45] <;> cases Lib.contains n.Text [13] <;> cases Ln n.Text <;> rfl
   ·rw [if_neg h4, show (n.Kind == (4 : Int)) = false by rw [beq_eq_false_iff_ne]; exact h4, bc];by_cases h5 : n.Kind = 5
    ·rw [if_pos h5, show (n.Kind == (5 : Int)) = true by rw [h5]; rfl, bb];cases Lib.contains n.Text [63, 62] <;> cases Lib.contains n.Text [13] <;> cases K9 n.Text <;> rfl
    ·rw [if_neg h5, show (n.Kind == (5 : Int)) = false by rw [beq_eq_false_iff_ne]; exact h5, bc]; rfl

set_option linter.unusedSimpArgs false
set_option linter.unusedVariables false
set_option maxRecDepth 20000
theorem OF : ∀ (n : Nat) (p : Aa), szN p < n -> szN p <= 1049600 -> iter Cy n p = some (AD p)
 | 0, p, h, _ => by omega
 | n + 1, p, h, hl => by
  have hk := DO p;have hkl := Br p;have ih := fun q => OF n q;rw [Dc];generalize iter Cy n = rc at ih ⊢;unfold Cy;simp only [AA]
  obtain ⟨o, e, hR⟩ := Ax (b := Cl p rc) (fun i s => s = (p :: B4 (p.Kids.take i), (i : Int))) (fun o => o = p :: B4 p.Kids) p.Kids.length (x0 := ([p], (0 : Int))) (by simp [B4]) (by
   rintro i _ rec hi rfl;left;have h1 := Gt (bn hi);have h2 := GN p.Kids i;have h3 := FU p.Kids;have h4 := Fu p.Kids[i];refine ⟨_, ?_, rfl⟩;unfold Cl;dsimp only;rw [bf (by omega), bb, Ao hi, ba, ih p.Kids[i] (by omega) (by omega), ba, w64 (by omega) (by omega), EE (by simp only [bi]; omega) (by simp only [bi]; omega), ba, HM hi]
   simp) (by
   rintro _ rec rfl;refine ⟨_, ?_, rfl⟩;unfold Cl;dsimp only
   rw [bg (by omega), bc, List.take_length]) (n := FUEL) (by unfold FUEL; omega)
  rw [e, ba, hR, B1]
theorem RQ (d : Aa) (h : szN d <= 1049600) : DZ d = some (AD d) := OF FUEL d (by unfold FUEL; omega) h
def Fg : Nat -> Aa -> Int -> Bool
 | 0, _, _ => false
 | n + 1, x, a => if x.Kind = 2 then decide ((32 : Int) < a) || x.Kids.any (fun k => Fg n k (a + 1)) else x.Kids.any (fun k => Fg n k a)
theorem RE : ∀ (n : Nat) (x : Aa) (a : Int), szN x < n -> szN x <= 1049600 -> 0 <= a -> a + szN x <= 4000000 -> iter Bi n (x, a) = some (Fg n x a)
 | 0, x, a, h, _, _, _ => by omega
 | n + 1, x, a, h, hs, h0, h1 => by
  have hl := Br x;have ih := fun y a => RE n y a;rw [Dc];generalize iter Bi n = rc at ih ⊢;have hc : ∀ b : Int, 0 <= b -> b <= a + 1 -> Ag x.Kids (fun z0 => BN rc z0 b) = some (x.Kids.any fun k => Fg n k b) := by
   intro b hb0 hb1;have h2 : ∀ y ∈ x.Kids, BN rc y b = some (Fg n y b) := fun y hy => by
    have h3 := HO hy;unfold BN;rw [ih y b (by omega) (by omega) hb0 (by omega)]; rfl
   rw [B8 (by omega) (fun y hy => ⟨_, h2 y hy⟩)];congr 1;rw [Bool.eq_iff_iff, List.any_eq_true, List.any_eq_true];constructor
   ·rintro ⟨y, hy, hg⟩;refine ⟨y, hy, ?_⟩;have hg' : (BN rc y b).getD false = true := hg;rw [h2 y hy] at hg'; exact hg'
   ·rintro ⟨y, hy, hg⟩;refine ⟨y, hy, ?_⟩;show (BN rc y b).getD false = true;rw [h2 y hy]; exact hg
  unfold Bi;simp only [AA];unfold Fg;by_cases h2 : x.Kind = 2
  ·rw [if_pos h2, show (x.Kind == (2 : Int)) = true by rw [h2]; rfl, bb]
   cases decide ((32 : Int) < a) with
   | true => rfl
   | false => rw [bc, w64 (by omega) (by omega), hc (a + 1) (by omega) (by omega)]; rfl
  ·rw [if_neg h2, show (x.Kind == (2 : Int)) = false by rw [beq_eq_false_iff_ne]; exact h2, bc, hc a h0 (by omega)]; rfl
theorem RA : ∀ (n : Nat) (x : Aa) (a : Int), szN x < n -> szN x <= 1049600 -> 0 <= a -> a + szN x <= 4000000 -> iter CA n (x, 32 - a) = some (Fg n x a)
 | 0, x, a, h, _, _, _ => by omega
 | n + 1, x, a, h, hs, h0, h1 => by
  have hl := Br x;have ih := fun y a => RA n y a;rw [Dc];generalize iter CA n = rc at ih ⊢;have hc : ∀ b : Int, 0 <= b -> b <= a + 1 -> iter (Co x rc (32 - b)) FUEL (0 : Int) = some (if x.Kids.all (fun k => !Fg n k b) then .inl () else .inr true) := by
   intro b hb0 hb1;refine Gc x.Kids (fun k => !Fg n k b) (by omega) (fun rec i h => ?_) (fun rec => ?_)
   ·have h3 := HO (bn h);unfold Co;rw [bf (by omega), bb, Ao h, ba, ih x.Kids[i] b (by omega) (by omega) hb0 (by omega), ba, N5 (by omega)];cases Fg n x.Kids[i] b <;> rfl
   ·unfold Co;rw [bg (by omega), bc]
  have hany : ∀ b, x.Kids.any (fun k => Fg n k b) = !(x.Kids.all fun k => !Fg n k b) := fun b => by
   rw [List.not_all_eq_any_not]; simp
  unfold CA;simp only [AA];unfold Fg;by_cases h2 : x.Kind = 2
  ·rw [if_pos h2, show (x.Kind == (2 : Int)) = true by rw [h2]; rfl, bb];by_cases h32 : (32 : Int) < a
   ·rw [bf h32, bf (by omega), bb]; rfl
   ·rw [bg h32, bg (by omega), bc, w64 (by omega) (by omega), show (32 : Int) - a - 1 = 32 - (a + 1) by omega, hc (a + 1) (by omega) (by omega), hany];cases x.Kids.all (fun k => !Fg n k (a + 1)) <;> rfl
  ·rw [if_neg h2, show (x.Kind == (2 : Int)) = false by rw [beq_eq_false_iff_ne]; exact h2, bc, hc a h0 (by omega), hany];cases x.Kids.all (fun k => !Fg n k a) <;> rfl
theorem Oi (d : Aa) (hd : szN d <= 1049600) : ∃ r, iter (AL d) FUEL ((0 : Int), (0 : Int)) = some r /\ iter (Ca d) FUEL ((0 : Int), (0 : Int)) = some r := by
 have hk := Br d;have key : Ca d = AL d := by
  funext rec ⟨a, b⟩;unfold Ca AL;rfl
 rw [key]
 obtain ⟨o, e, _⟩ := Ax (b := AL d) (fun i x => x.2 = (i : Int) /\ 0 <= x.1 /\ x.1 <= i) (fun _ => True) d.Kids.length (x0 := ((0 : Int), (0 : Int))) ⟨rfl, by simp, by simp⟩ (by
  rintro i ⟨a, _⟩ rec hi ⟨rfl, h1, h2⟩;simp only at h1 h2;left;unfold AL;simp only [AA];rw [bf (by omega), bb, Ao hi, ba, N5 (by omega)]
  cases (d.Kids[i].Kind == (2 : Int)) with
  | true => refine ⟨_, rfl, rfl, ?_, ?_⟩ <;> (show _ <= _) <;> rw [w64 (by omega) (by omega)] <;> omega
  | false => exact ⟨_, rfl, rfl, h1, by simp only; omega⟩) (by
  rintro ⟨a, _⟩ rec ⟨rfl, h1, h2⟩;unfold AL;dsimp only;rw [bg (by omega), bc]
  exact ⟨_, rfl, trivial⟩) (n := FUEL) (by unfold FUEL; omega)
 exact ⟨o, e, e⟩
theorem Rf (l : List Aa) (hl : l.length <= 1049600) (hz : ∀ x ∈ l, szN x <= 1049600) (b1 b2 : Bool) :
  iter (Bs l) FUEL (true, b1, b2, true, true, true, true, (0 : Int)) = some (l.all EF, b1, b2 && l.all HF, l.all nmP, l.all chP, l.all orP, l.all txP) := by
 obtain ⟨o, e, rfl⟩ := Ax (b := Bs l) (fun i x => x = ((l.take i).all EF, b1, b2 && (l.take i).all HF, (l.take i).all nmP, (l.take i).all chP, (l.take i).all orP, (l.take i).all txP, (i : Int)))
  (fun o => o = (l.all EF, b1, b2 && l.all HF, l.all nmP, l.all chP, l.all orP, l.all txP)) l.length (x0 := (true, b1, b2, true, true, true, true, (0 : Int))) (by simp) (by
  rintro i _ rec hi rfl;left;have hs := hz _ (bn hi);refine ⟨_, ?_, rfl⟩;unfold Bs;simp only [AA];rw [bf (by omega), bb, Ao hi, ba, Vy _ hs, U4 _ hs, VP _ hs, SZ _ hs, Tr _ hs, Uw _ hs, N5 (by omega), List.take_succ_eq_append_getElem hi];simp only [ba, List.all_append, List.all_cons, List.all_nil, Bool.and_true];generalize (l.take i).all EF = a;generalize (l.take i).all HF = b;generalize (l.take i).all nmP = c;generalize (l.take i).all chP = e;generalize (l.take i).all orP = f;generalize (l.take i).all txP = g
  cases a <;> cases b <;> cases b2 <;> cases c <;> cases e <;> cases f <;> cases g <;> rfl) (by
  rintro _ rec rfl;refine ⟨_, ?_, rfl⟩;unfold Bs;dsimp only
  rw [bg (by omega), bc, List.take_length]) (n := FUEL) (by unfold FUEL; omega)
 exact e
def VO (a b c d e f g : Bool) (r : Int) : Int := if a = false then 33 else if b = false then 31 else if c = false then 5 else if d = false then 24 else if e = false then 21 else if f = false then 34 else if g = false then 32 else if r ≠ 1 then 30 else 0
theorem Qt (a b c d e f g : Bool) : iter (Eb a b c d e f g) FUEL (0 : Int) = some (if a = false then .inr 33 else if b = false then .inr 31 else if c = false then .inr 5 else if d = false then .inr 24 else if e = false then .inr 21 else if f = false then .inr 34 else if g = false then .inr 32 else .inl ()) := by
 obtain ⟨m, hm⟩ : ∃ m, FUEL = m + 8 := ⟨FUEL - 8, by unfold FUEL; rfl⟩
 rw [hm];cases a <;> cases b <;> cases c <;> cases d <;> cases e <;> cases f <;> cases g <;> rfl
theorem Oy {d : Aa} (hd : szN d <= 1049600) (h1 : d.Kind = 1) : ∃ r, iter (AL d) FUEL ((0 : Int), (0 : Int)) = some r /\
  B7 d = some (VO ((AD d).all EF) (!Fg FUEL d 0) (decide ((AD d).length <= 2001) && (AD d).all HF) ((AD d).all nmP) ((AD d).all chP) ((AD d).all orP) ((AD d).all txP) r) := by
 obtain ⟨r, e1, e2⟩ := Oi d hd;refine ⟨r, e1, ?_⟩;have hl := Fu d;have hD : EL d (32 : Int) = some (Fg FUEL d 0) := RA FUEL d 0 (by unfold FUEL; omega) hd (by omega) (by omega);unfold B7;rw [show (d.Kind != (1 : Int)) = false by rw [h1]; rfl, bc, RQ d hd, ba, hD, ba];simp only [AA];rw [MB (AD d).length 2001 _ (2001 : Int) rfl rfl, Rf _ (by omega) (fun x hx => Nat.le_trans (FA d x hx) hd), ba];simp only;rw [e2, ba, Qt, ba];unfold VO;generalize (AD d).all EF = a;generalize Fg FUEL d 0 = b;generalize (decide ((AD d).length <= 2001) && (AD d).all HF) = c;generalize (AD d).all nmP = x;generalize (AD d).all chP = y;generalize (AD d).all orP = z;generalize (AD d).all txP = w
 cases a with
 | false => rfl
 | true => cases b with
  | true => rfl
  | false => cases c with
   | false => rfl
   | true => cases x with
    | false => rfl
    | true => cases y with
     | false => rfl
     | true => cases z with
      | false => rfl
      | true => cases w with
       | false => rfl
       | true =>
        show cond (r != (1 : Int)) (some (30 : Int)) (some (0 : Int)) = some (if r ≠ 1 then 30 else 0);by_cases hr : r = 1
        ·subst hr; rfl
        ·rw [if_pos hr, show (r != (1 : Int)) = true by simpa using hr, bb]
theorem OA {d : Aa} (hd : szN d <= 1049600) (h1 : d.Kind = 1) {r : Int} (hr : iter (AL d) FUEL ((0 : Int), (0 : Int)) = some r) :
  AX d = some (VO ((AD d).all EF) (!Fg FUEL d 0) (decide ((AD d).length <= 2001) && (AD d).all HF) ((AD d).all nmP) ((AD d).all chP) ((AD d).all orP) ((AD d).all txP) r) := by
 have hl := Fu d;have hz : ∀ x ∈ AD d, szN x <= 1049600 := fun x hx => Nat.le_trans (FA d x hx) hd;have hD : FD d (0 : Int) = some (Fg FUEL d 0) := RE FUEL d 0 (by unfold FUEL; omega) hd (by omega) (by omega);have hlen : decide ((2000 : Int) < (IntKind.wrap .i64 (((AD d).length : Int) - (1 : Int)))) = !decide ((AD d).length <= 2001) := by
  rw [w64 (by omega) (by omega)];by_cases h : (AD d).length <= 2001
  ·rw [bf h, bg (by omega)]; rfl
  ·rw [bg h, bf (by omega)]; rfl
 unfold AX;rw [IX d hd, ba, show (d.Kind != (1 : Int)) = false by rw [h1]; rfl, hD, hlen];have c1 := B8 (l := AD d) (f := CW) (by omega) (fun x hx => ⟨_, UT x (hz x hx)⟩);have c2 := B8 (l := AD d) (f := CE) (by omega) (fun x hx => ⟨_, Oh x (hz x hx)⟩);have c4 := B8 (l := AD d) (f := Bt) (by omega) (fun x hx => ⟨_, M5 x (hz x hx)⟩);have c5 := B8 (l := AD d) (f := AW) (by omega) (fun x hx => ⟨_, Ow x (hz x hx)⟩);have c6 := B8 (l := AD d) (f := AY) (by omega) (fun x hx => ⟨_, Rx x (hz x hx)⟩);rw [GK _ _ Np (fun x hx => UT x (hz x hx)), Mv h1] at c1;rw [GK _ _ HF (fun x hx => Oh x (hz x hx))] at c2;rw [GK _ _ chP (fun x hx => M5 x (hz x hx))] at c4;rw [GK _ _ orP (fun x hx => Ow x (hz x hx))] at c5;rw [GK _ _ txP (fun x hx => Rx x (hz x hx))] at c6;simp only [AA];rw [c1, c2, c4, c5, c6, hr];simp only [ba, bc];unfold VO
 cases hK : (AD d).all EF with
 | false => rfl
 | true =>
  have ho : ∀ x ∈ AD d, Np x = true := by
   rw [<- Mv h1, List.all_eq_true] at hK;exact hK
  have c3 := B8 (l := AD d) (f := A5) (by omega) (fun x hx => ⟨_, Jm x (hz x hx) (ho x hx)⟩);rw [GK _ _ nmP (fun x hx => Jm x (hz x hx) (ho x hx))] at c3;rw [c3];simp only [ba];generalize Fg FUEL d 0 = b;generalize decide ((AD d).length <= 2001) = c;generalize (AD d).all HF = c';generalize (AD d).all nmP = x;generalize (AD d).all chP = y;generalize (AD d).all orP = z;generalize (AD d).all txP = w;have fin : cond (r != (1 : Int)) (some (30 : Int)) (some (0 : Int)) = some (if r ≠ 1 then 30 else 0) := by
   by_cases hr : r = 1
   ·subst hr; rfl
   ·rw [if_pos hr, show (r != (1 : Int)) = true by simpa using hr, bb]
  rw [fin];cases b <;> cases c <;> cases c' <;> cases x <;> cases y <;> cases z <;> cases w <;> rfl
theorem Pv (d : Aa) (hd : szN d <= 1049600) : B7 d = AX d := by
 by_cases h1 : d.Kind = 1
 ·obtain ⟨r, e1, e2⟩ := Oy hd h1;rw [e2, OA hd h1 e1]
 ·unfold B7 AX;rw [IX d hd, show (d.Kind != (1 : Int)) = true by simpa using h1];rfl
end Go.Proofs.YtjofelloaofooaaGreatDoor
