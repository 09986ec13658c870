/- sheet.Take. No condition. -/
import Derived.Test.YtoacaikopcdkmaaGreatZ10
import Derived.Deep.QuietTactic
import Derived.BigQuiet
set_option linter.unusedSimpArgs false
set_option linter.unusedVariables false
namespace Go.Proofs.YtoacaikopcdkmaaGreat
open Go.RowKit Go.Sort
theorem num_lt8 (p : List UInt8) (h : p.length ≤ 8) : Vm.num p < 18446744073709551616 := by
  have e := nv_num p p.length (Nat.le_refl _)
  rw [List.take_of_length_le (Nat.le_refl _)] at e
  rw [← e]
  exact Nat.lt_of_lt_of_le (nv_lt _ _) (Nat.pow_le_pow_right (by decide) h)
theorem count_all (b : List UInt8) : b.count 0 = b.length ↔ b.all (· == 0) = true := by
  rw [List.count_eq_length, List.all_eq_true]
  constructor
  · intro h x hx; rw [← h x hx]; rfl
  · intro h x hx; exact (eq_of_beq (h x hx)).symm
theorem range_from {w : World} {g o : Nat} {b : List UInt8} (h : w.rangeAt g o (byC b)) (k : Nat) : w.rangeAt g (o + k) (byC (b.drop k)) := by
  have := rangeAt_part h k b.length
  rw [byC_drop, byC_take, List.take_of_length_le (by rw [List.length_drop]; omega)] at this
  exact this
/-- make of zeros. -/
theorem makeZ (n N : Nat) (h : n ≤ N) (h2 : N ≤ 1000000) : ∃ Z : Array Value, Z = (List.replicate N (Value.int .u8 0)).toArray ∧ ∀ W : World, (Instr.makeSlice 22 (.int .i64 (n : Int)) (.int .i64 (N : Int))).run Tryz.prog W = .ok (.slice (some ⟨W.heap.size, 0, none⟩) n N) (W.alloc (.cells Z 5)) := by
  have hI : (Tryz.prog.info? 5).map (fun i => (i.zero, i.size, i.bytes)) = some (some (.int .u8 0), 1, 1) := by kernel_rfl
  obtain ⟨i0, hi, hz0, hz1, hz2⟩ := info_parts hI
  refine ⟨_, rfl, fun W => ?_⟩
  rw [run_make (P := Tryz.prog) W 22 5 i0 (.int .u8 0) Tryz.underlying22 hi hz0 .i64 .i64 (n : Int) (N : Int) (by omega) (by omega) (by rw [hz2]; omega) (by omega), Int.toNat_natCast, Int.toNat_natCast, hz1]
  have e : (List.replicate N (Value.int .u8 0)).toArray = madeCells (Value.int .u8 0).cells (N * 1) := by
    have h1 : ∀ i, i < (Value.int IntKind.u8 0).cells.size → (Value.int IntKind.u8 0).cells[i]? = some (Value.int .u8 0) := fun i hi => by
      have h0 : i < 1 := hi
      have : i = 0 := by omega
      subst this; rfl
    rw [made_zero _ (N * 1) 0 h1 (by decide), Nat.mul_one]
  rw [e]
theorem own_zeros (w : World) (N : Nat) (h2 : N ≤ 1000000) (Z : Array Value) (hZ : Z = (List.replicate N (Value.int .u8 0)).toArray) : (w.alloc (.cells Z 5)).ownsRow w.heap.size 5 1 (.slice (some ⟨w.heap.size, 0, none⟩) N N) N (byC (List.replicate N 0)) := by
  have e : byC (List.replicate N 0) = List.replicate N (Value.int .u8 0) := by simp [byC]
  rw [e]
  refine ⟨by simp, .inr ⟨w.heap.size, N, Z, rfl, Nat.le_refl _, heap_alloc_new w _, Nat.le_refl _, by simp only [maxLen]; omega, by rw [hZ]; simp, by rw [hZ, List.toList_toArray, List.take_of_length_le (by simp)]⟩⟩
theorem sub_Z (w : World) (X : Obj) {g o : Nat} {cs : List Value} (h : w.rangeAt g o cs) : ∀ n, ((w.alloc X).drewN n).rangeAt g o cs := fun n => World.rangeAt_alloc h X
set_option maxRecDepth 100000 in
set_option maxHeartbeats 1600000 in
theorem c_take (n g o cp : Nat) (hn : n ≤ 4294967295) (b : List UInt8) (hb : b.length = 512) (hcp : 512 ≤ cp) (w : World) (hr : w.rangeAt g o (byC b)) (hg : g < w.heap.size) :
    Calls Tryz.prog 109 #[.int .i64 (n : Int), .slice (some ⟨g, o, none⟩) 512 cp] w fun e w' => ∃ v, e = .returned (.tuple #[v, .int .u64 ((Vm.take n b).2.2 : Int), .int .i64 ((Vm.take n b).1 : Int)]) ∧ w'.ownsRow w.heap.size 5 1 v (Vm.take n b).2.1.length (byC (Vm.take n b).2.1) ∧ Below w.heap.size w w' := by
  obtain ⟨A, hA⟩ : ∃ A, Hid (A = Vm.num (b.take 4)) := ⟨_, Hid.mk rfl⟩
  obtain ⟨S, hS⟩ : ∃ S, Hid (S = Vm.sum (b.drop 4)) := ⟨_, Hid.mk rfl⟩
  obtain ⟨M, hM⟩ : ∃ M, Hid (M = Vm.num ((b.drop 4).take 4)) := ⟨_, Hid.mk rfl⟩
  obtain ⟨T, hT⟩ : ∃ T, Hid (T = Vm.num ((b.drop 8).take 8)) := ⟨_, Hid.mk rfl⟩
  obtain ⟨C, hC⟩ : ∃ C, Hid (C = b.count 0) := ⟨_, Hid.mk rfl⟩
  have hS2 : S ≤ 4294967295 := by have := Vm.sum_lt (b.drop 4); rw [hS.out]; omega
  have hA2 : (A : Int) < 18446744073709551616 := by have := num_lt8 (b.take 4) (by rw [List.length_take]; omega); rw [hA.out]; omega
  have hM2 : (M : Int) < 18446744073709551616 := by have := num_lt8 ((b.drop 4).take 4) (by rw [List.length_take]; omega); rw [hM.out]; omega
  have cC : Hid (∀ W b2, W.rangeAt g o (byC b) → W.cell? ⟨b2, 0, none⟩ = some (.int .u8 0) → Calls Tryz.prog 141 #[.slice (some ⟨g, o, none⟩) 512 cp, .slice (some ⟨b2, 0, none⟩) 1 1] W fun e w' => e = .returned (.int .i64 (C : Int)) ∧ w' = W) := fun W b2 h1 h2 => by
    rw [hC.out]; exact c_count g o 512 cp b2 0 1 b W hb h1 h2
  have cA : Hid (∀ W, W.rangeAt g o (byC b) → Calls Tryz.prog 104 #[.slice (some ⟨g, o, none⟩) 512 cp, .int .i64 4] W fun e w' => e = .returned (.int .u64 (A : Int)) ∧ w' = W) := fun W h => by
    rw [hA.out]; exact c_ofL g o 512 cp 4 b W (by omega) (by omega) (by omega) (by omega) h
  have cS : Hid (∀ W, W.rangeAt g o (byC b) → Calls Tryz.prog 135 #[.slice (some ⟨g, o + 4, none⟩) 508 (cp - 4)] W fun e w' => e = .returned (.int .u32 (S : Int)) ∧ w' = W) := fun W h => by
    rw [hS.out]; exact c_sumL g (o + 4) 508 (cp - 4) (b.drop 4) W (by omega) (by rw [List.length_drop, hb]) (by omega) (range_from h 4)
  have cM : Hid (∀ W, W.rangeAt g o (byC b) → Calls Tryz.prog 104 #[.slice (some ⟨g, o + 4, none⟩) 508 (cp - 4), .int .i64 4] W fun e w' => e = .returned (.int .u64 (M : Int)) ∧ w' = W) := fun W h => by
    rw [hM.out]; exact c_ofL g (o + 4) 508 (cp - 4) 4 (b.drop 4) W (by omega) (by omega) (by omega) (by rw [List.length_drop]; omega) (range_from h 4)
  have cT : Hid (∀ W, W.rangeAt g o (byC b) → Calls Tryz.prog 104 #[.slice (some ⟨g, o + 8, none⟩) 504 (cp - 8), .int .i64 8] W fun e w' => e = .returned (.int .u64 (T : Int)) ∧ w' = W) := fun W h => by
    rw [hT.out]; exact c_ofL g (o + 8) 504 (cp - 8) 8 (b.drop 8) W (by omega) (by omega) (by omega) (by rw [List.length_drop]; omega) (range_from h 8)
  have cL : Hid (∀ W, W.rangeAt g o (byC b) → Calls Tryz.prog 142 #[.slice (some ⟨g, o + 16, none⟩) 496 (cp - 16)] W fun e w' => ∃ h c, e = .returned (.slice (some ⟨h, 0, none⟩) 496 c) ∧ W.heap.size ≤ h ∧ w'.ownsRow W.heap.size 5 1 (.slice (some ⟨h, 0, none⟩) 496 c) 496 (byC (b.drop 16)) ∧ Below W.heap.size W w') := fun W h =>
    c_bclone g (o + 16) 496 (cp - 16) (byC (b.drop 16)) W (by omega) (by rw [byC_len, List.length_drop, hb]) (range_from h 16) (byC_one _) (by omega)
  have hTk : Hid (Vm.take n b = if C = 512 then (0, List.replicate 496 0, 0) else if A ≠ S then (10, [], 0) else if M ≠ n then (11, [], 0) else (0, b.drop 16, T)) := by
    show _ = _
    unfold Vm.take
    rw [if_neg (by rw [hb]; simp), ← hA.out, ← hS.out, ← hM.out, ← hT.out]
    have e : (b.all (· == 0) = true) = (C = 512) := by rw [← count_all, hC.out, hb]
    simp only [e]
  have hrA : Hid (∀ X n, ((w.alloc X).drewN n).rangeAt g o (byC b)) := fun X n => sub_Z w X hr n
  have hrB : Hid (∀ X, (w.alloc X).rangeAt g o (byC b)) := fun X => World.rangeAt_alloc hr X
  have hWb : Hid (∀ X, Below w.heap.size w (w.alloc X)) := fun X => (Below.refl _ _).alloc (Nat.le_refl _) _
  have hWD : Hid (∀ X n, Below w.heap.size w ((w.alloc X).drewN n)) := fun X n => ⟨(hWb.out X).os, (hWb.out X).tape, (hWb.out X).output, (hWb.out X).size, (hWb.out X).block⟩
  have hl16 : Hid ((b.drop 16).length = 496) := by show _ = _; rw [List.length_drop, hb]
  have hg' : ∀ X, g < (w.alloc X).heap.size := fun X => by simp; omega
  have hS2' := Hid.mk hS2
  have hn' := Hid.mk hn
  clear hb hr hA hS hM hT hC hA2 hM2 hS2
  by_cases hz : C = 512
  · subst hz
    rw [if_pos rfl] at hTk
    obtain ⟨Z, hZ, hMk⟩ := makeZ 496 496 (by decide) (by decide)
    have hMk' : ∀ W : World, (Instr.makeSlice 22 (.int .i64 496) (.int .i64 496)).run Tryz.prog W = .ok (.slice (some ⟨W.heap.size, 0, none⟩) 496 496) (W.alloc (.cells Z 5)) := hMk
    have hZ' := Hid.mk hZ
    clear hMk hZ
    go_enter Tryz.func109, Tryz.ntmps109
    go_wp2_with fail
    refine (cC.out _ _ (hrB.out _) (by go_simp)).mono ?_
    rintro e w' ⟨rfl, rfl⟩
    go_wp2_with fail
    go_ret3
    rw [hTk.out]
    refine ⟨_, rfl, ?_, (hWb.out _).trans ((Below.refl _ _).alloc (by simp) _)⟩
    have := own_zeros (w.alloc (.cells #[.int .u8 0] 5)) 496 (by decide) Z hZ'.out
    rw [show (w.alloc (.cells #[.int .u8 0] 5)).heap.size = w.heap.size + 1 by simp] at this
    simp only [List.length_replicate]
    exact own_base this (by omega)
  · have hz' : ((C : Int) == 512) = false := by rw [beq_eq_false_iff_ne]; omega
    rw [if_neg hz] at hTk
    by_cases hAS : A = S
    · subst hAS
      rw [if_neg (fun h => h rfl)] at hTk
      have hAS' : ((A : Int) != (A : Int)) = false := by simp
      have hS2 := hS2'.out
      by_cases hMn : M = n
      · subst hMn
        rw [if_neg (fun h => h rfl)] at hTk
        go_enter Tryz.func109, Tryz.ntmps109
        go_wp2_with fail
        refine (cC.out _ _ (hrB.out _) (by go_simp)).mono ?_
        rintro e w' ⟨rfl, rfl⟩
        go_wp2_with fail
        go_quiet ((first | (go_at_call 104; exact Calls.quiet_of_same (cA.out _ (hrA.out _ _))) | (go_at_call 135; exact Calls.quiet_of_same (cS.out _ (hrA.out _ _)))))
        go_wp2_with fail
        refine (cM.out _ (hrA.out _ _)).mono ?_
        rintro e w' ⟨rfl, rfl⟩
        have hr2 := hrA.out (.cells #[.int .u8 0] 5) nq
        have hb2 := Hid.mk (hWD.out (.cells #[.int .u8 0] 5) nq)
        generalize (w.alloc (Obj.cells #[Value.int IntKind.u8 0] 5)).drewN nq = W at *
        have hc16 : ¬ (cp = 16) := by omega
        have hc8 : ¬ (cp = 8) := by omega
        have hgW : g < W.heap.size := Nat.lt_of_lt_of_le hg hb2.out.size
        go_wp2_with fail
        go_region_held3 (fun w' => w'.rangeAt g o (byC b) ∧ g < w'.heap.size) (first | exact ⟨by first | assumption | (simp only [World.rangeAt_drew]; assumption), by first | assumption | (simp; omega)⟩ | (go_split_ands; exact ⟨rangeAt_below (by assumption) hbel (by assumption), Nat.lt_of_lt_of_le (by assumption) hbel.size⟩))
          (first | (go_at_call 142; go_split_ands; refine (cL.out _ (by assumption)).mono ?_; rintro e w3 ⟨h, c, rfl, hh, hown, hbel⟩) | (go_at_call 104; go_split_ands; refine (cT.out _ (by assumption)).mono ?_; rintro e w' ⟨rfl, rfl⟩))
        go_wp2
        go_ret3
        rw [hTk.out]
        refine ⟨_, rfl, ?_, hb2.out.trans (Below.mono (show Below W.heap.size W _ from ⟨hbel.os, hbel.tape, hbel.output, hbel.size, hbel.block⟩) hb2.out.size)⟩
        show World.ownsRow _ _ _ _ _ _ _
        rw [hl16.out]
        exact own_base hown hb2.out.size
      · rw [if_pos hMn] at hTk
        have hMn' : ((M : Int) != (n : Int)) = true := by rw [bne_iff_ne]; omega
        go_enter Tryz.func109, Tryz.ntmps109
        go_wp2_with fail
        refine (cC.out _ _ (hrB.out _) (by go_simp)).mono ?_
        rintro e w' ⟨rfl, rfl⟩
        go_wp2_with fail
        go_quiet ((first | (go_at_call 104; exact Calls.quiet_of_same (cA.out _ (hrA.out _ _))) | (go_at_call 135; exact Calls.quiet_of_same (cS.out _ (hrA.out _ _)))))
        go_wp2_with fail
        refine (cM.out _ (hrA.out _ _)).mono ?_
        rintro e w' ⟨rfl, rfl⟩
        go_wp2_with fail
        go_ret3
        rw [hTk.out]
        exact ⟨_, rfl, World.ownsRow_nil _ _ _ _, hWD.out _ _⟩
    · rw [if_pos hAS] at hTk
      have hAS' : ((A : Int) != (S : Int)) = true := by rw [bne_iff_ne]; omega
      go_enter Tryz.func109, Tryz.ntmps109
      go_wp2_with fail
      refine (cC.out _ _ (hrB.out _) (by go_simp)).mono ?_
      rintro e w' ⟨rfl, rfl⟩
      go_wp2_with fail
      have hS2 := hS2'.out
      clear hn
      go_quiet ((first | (go_at_call 104; exact Calls.quiet_of_same (cA.out _ (hrA.out _ _))) | (go_at_call 135; exact Calls.quiet_of_same (cS.out _ (hrA.out _ _)))))
      go_wp2
      go_ret3
      rw [hTk.out]
      exact ⟨_, rfl, World.ownsRow_nil _ _ _ _, hWD.out _ _⟩
end Go.Proofs.YtoacaikopcdkmaaGreat
