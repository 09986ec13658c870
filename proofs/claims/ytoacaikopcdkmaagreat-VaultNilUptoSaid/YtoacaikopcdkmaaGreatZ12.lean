/- sheet.TakeHead. sheet.Draft, where. sheet.Put. sheet.Get. No condition. -/
import Derived.Test.YtoacaikopcdkmaaGreatZ11
set_option linter.unusedSimpArgs false
set_option linter.unusedVariables false
namespace Go.Proofs.YtoacaikopcdkmaaGreat
open Go.RowKit Go.Sort
set_option maxRecDepth 100000 in
theorem c_layHead0 (st : Nat) (w : World) : Calls Tryz.prog 136 #[.agg #[.int .i64 0, .int .u64 (st : Int)]] w fun e w' => e = .returned (.tuple #[.slice none 0 0, .int .i64 1]) ∧ Below w.heap.size w w' := by
  go_enter Tryz.func136, Tryz.ntmps136
  go_wp2
  go_ret2
  exact ⟨rfl, (Below.refl _ _).alloc (Nat.le_refl _) _⟩
/-- What TakeHead answers. -/
def HeadAns (b : List UInt8) (w : World) (e : Ending) (w' : World) : Prop :=
  ∃ (gn st er : Nat), e = .returned (.tuple #[.agg #[.int .i64 (gn : Int), .int .u64 (st : Int)], .int .i64 (er : Int)]) ∧ Below w.heap.size w w' ∧ (Vm.takeHead b = some ⟨gn, st⟩ ∧ er = 0 ∨ Vm.takeHead b = none ∧ 0 < er)
theorem num_lt4 (p : List UInt8) (h : p.length ≤ 4) : Vm.num p ≤ 4294967295 := by
  have e := nv_num p p.length (Nat.le_refl _)
  rw [List.take_of_length_le (Nat.le_refl _)] at e
  rw [← e]
  have := Nat.lt_of_lt_of_le (nv_lt (fun i => p.getD i 0) p.length) (Nat.pow_le_pow_right (by decide) h : 256 ^ p.length ≤ 256 ^ 4)
  omega
set_option maxRecDepth 100000 in
set_option maxHeartbeats 1600000 in
theorem c_takeHead (g o cp : Nat) (b : List UInt8) (hb : b.length = 64) (hcp : 64 ≤ cp) (w : World) (hr : w.rangeAt g o (byC b)) (hg : g < w.heap.size) :
    Calls Tryz.prog 101 #[.slice (some ⟨g, o, none⟩) 64 cp] w (HeadAns b w) := by
  obtain ⟨A, hA⟩ : ∃ A, Hid (A = Vm.num (b.take 4)) := ⟨_, Hid.mk rfl⟩
  obtain ⟨S, hS⟩ : ∃ S, Hid (S = Vm.sum (b.drop 4)) := ⟨_, Hid.mk rfl⟩
  obtain ⟨G, hG⟩ : ∃ G, Hid (G = Vm.num ((b.drop 8).take 4)) := ⟨_, Hid.mk rfl⟩
  obtain ⟨T, hT⟩ : ∃ T, Hid (T = Vm.num ((b.drop 12).take 8)) := ⟨_, Hid.mk rfl⟩
  have hS2 : S ≤ 4294967295 := by have := Vm.sum_lt (b.drop 4); rw [hS.out]; omega
  have hG2 : G ≤ 4294967295 := by rw [hG.out]; exact num_lt4 _ (by rw [List.length_take]; omega)
  have hT2 : Hid (T < 18446744073709551616) := by show _ < _; rw [hT.out]; exact num_lt8 _ (by rw [List.length_take]; omega)
  have cA : Hid (∀ W, W.rangeAt g o (byC b) → Calls Tryz.prog 104 #[.slice (some ⟨g, o, none⟩) 64 cp, .int .i64 4] W fun e w' => e = .returned (.int .u64 (A : Int)) ∧ w' = W) := fun W h => by
    rw [hA.out]; exact c_ofL g o 64 cp 4 b W (by omega) (by omega) (by omega) (by omega) h
  have cS : Hid (∀ W, W.rangeAt g o (byC b) → Calls Tryz.prog 135 #[.slice (some ⟨g, o + 4, none⟩) 60 (cp - 4)] W fun e w' => e = .returned (.int .u32 (S : Int)) ∧ w' = W) := fun W h => by
    rw [hS.out]; exact c_sumL g (o + 4) 60 (cp - 4) (b.drop 4) W (by omega) (by rw [List.length_drop, hb]) (by omega) (range_from h 4)
  have cG : Hid (∀ W, W.rangeAt g o (byC b) → Calls Tryz.prog 104 #[.slice (some ⟨g, o + 8, none⟩) 56 (cp - 8), .int .i64 4] W fun e w' => e = .returned (.int .u64 (G : Int)) ∧ w' = W) := fun W h => by
    rw [hG.out]; exact c_ofL g (o + 8) 56 (cp - 8) 4 (b.drop 8) W (by omega) (by omega) (by omega) (by rw [List.length_drop]; omega) (range_from h 8)
  have cT : Hid (∀ W, W.rangeAt g o (byC b) → Calls Tryz.prog 104 #[.slice (some ⟨g, o + 12, none⟩) 52 (cp - 12), .int .i64 8] W fun e w' => e = .returned (.int .u64 (T : Int)) ∧ w' = W) := fun W h => by
    rw [hT.out]; exact c_ofL g (o + 12) 52 (cp - 12) 8 (b.drop 12) W (by omega) (by omega) (by omega) (by rw [List.length_drop]; omega) (range_from h 12)
  have hTk : Hid (Vm.takeHead b = if A ≠ S then none else if 1 ≤ G ∧ G ≤ 4294967295 ∧ Vm.layHead ⟨G, T⟩ = b then some ⟨G, T⟩ else none) := by
    show _ = _
    unfold Vm.takeHead
    rw [← hA.out, ← hS.out, ← hG.out, ← hT.out]
  have cE : Hid (∀ W h c q, q.length = 64 → W.rangeAt h 0 (byC q) → W.rangeAt g o (byC b) → Calls Tryz.prog 137 #[.slice (some ⟨h, 0, none⟩) 64 c, .slice (some ⟨g, o, none⟩) 64 cp] W fun e w' => e = .returned (.bool (q == b)) ∧ w' = W) := fun W h c q hq h1 h2 =>
    c_equal h 0 64 c g o 64 cp q b W hq hb h1 h2
  have hrA : Hid (∀ X n, ((w.alloc X).drewN n).rangeAt g o (byC b)) := fun X n => sub_Z w X hr n
  have hrB : Hid (∀ X, (w.alloc X).rangeAt g o (byC b)) := fun X => World.rangeAt_alloc hr X
  have hWb : Hid (∀ X, Below w.heap.size w (w.alloc X)) := fun X => (Below.refl _ _).alloc (Nat.le_refl _) _
  have hWD : Hid (∀ X n, Below w.heap.size w ((w.alloc X).drewN n)) := fun X n => ⟨(hWb.out X).os, (hWb.out X).tape, (hWb.out X).output, (hWb.out X).size, (hWb.out X).block⟩
  clear hb hr hA hS hG hT
  by_cases hAS : A = S
  · subst hAS
    rw [if_neg (fun h => h rfl)] at hTk
    have hAS' : ((A : Int) != (A : Int)) = false := by simp
    have hc8 : ¬ (cp = 8) := by omega
    have hc12 : ¬ (cp = 12) := by omega
    have hwG : IntKind.i64.wrap (G : Int) = (G : Int) := by rw [IntKind.wrap_i64]; omega
    by_cases hG0 : G = 0
    · rw [if_neg (by omega)] at hTk
      have hG1 : ∀ V : World, Calls Tryz.prog 136 #[.agg #[.int .i64 (G : Int), .int .u64 (T : Int)]] V fun e w' => e = .returned (.tuple #[.slice none 0 0, .int .i64 1]) ∧ Below V.heap.size V w' := fun V => by rw [hG0]; exact c_layHead0 T V
      have hG1' := Hid.mk hG1
      have hG0' := Hid.mk hG0
      clear hG1 hG0
      go_enter Tryz.func101, Tryz.ntmps101
      go_wp2_with fail
      go_quiet ((first | (go_at_call 104; exact Calls.quiet_of_same (cA.out _ (hrA.out _ _))) | (go_at_call 135; exact Calls.quiet_of_same (cS.out _ (hrA.out _ _)))))
      obtain ⟨W, hW⟩ : ∃ W, Hid (W = (w.alloc (.cells #[.int .i64 0, .int .u64 0] 94)).drewN nq) := ⟨_, Hid.mk rfl⟩
      have hWr : Hid (W.heap[w.heap.size]? = some (.cells #[.int .i64 0, .int .u64 0] 94 (0, 0))) := by show _ = _; rw [hW.out]; exact heap_alloc_new w _
      have hbW : Below w.heap.size w W := by rw [hW.out]; exact hWD.out _ _
      have hrW : W.rangeAt g o (byC b) := by rw [hW.out]; exact hrA.out _ _
      have hgW : g < W.heap.size := Nat.lt_of_lt_of_le hg hbW.size
      have hsW : w.heap.size < W.heap.size := (Array.getElem?_eq_some_iff.1 hWr.out).1
      rw [← hW.out]
      go_wp2_with fail
      go_region_held3 (fun w' => w'.rangeAt g o (byC b)) (first | assumption | (simp only [World.rangeAt_drew]; first | assumption | exact World.rangeAt_alloc hrW _))
        (first | (go_at_call 104; (with_reducible refine (cG.out _ (by assumption)).mono ?_); rintro e w' ⟨rfl, rfl⟩) | (go_at_call 104; (with_reducible refine (cT.out _ (by assumption)).mono ?_); rintro e w' ⟨rfl, rfl⟩))
      all_goals
        obtain ⟨V, hV⟩ : ∃ V, Hid (V = (W.alloc (.cells #[.int .i64 (G : Int), .int .u64 (T : Int)] 94)).drew) := ⟨_, Hid.mk rfl⟩
        have hVr : Hid (V.heap[W.heap.size]? = some (.cells #[.int .i64 (G : Int), .int .u64 (T : Int)] 94 (0, 0))) := by show _ = _; rw [hV.out]; exact heap_alloc_new W _
        have hbV : Below W.heap.size W V := by rw [hV.out]; exact ((Below.refl _ _).alloc (Nat.le_refl _) _).drew
        have hV0 : Hid (V.heap[w.heap.size]? = some (.cells #[.int .i64 0, .int .u64 0] 94 (0, 0))) := (hbV.block _ hsW).trans hWr.out
        have hbwV : Below w.heap.size w V := hbW.trans (hbV.mono hbW.size)
        have l0 : V.cell? ⟨W.heap.size, 0, none⟩ = some (.int .i64 (G : Int)) := cell_at hVr.out rfl
        have l1 : V.cell? ⟨W.heap.size, 1, none⟩ = some (.int .u64 (T : Int)) := cell_at hVr.out rfl
        have hWV : Hid (W.heap.size < V.heap.size) := (Array.getElem?_eq_some_iff.1 hVr.out).1
        rw [← hV.out]
        go_wp2_with (go_at_call 136; refine (hG1'.out V).mono ?_; rintro e w3 ⟨rfl, hb3⟩; have h3 := Hid.mk ((hb3.block _ (Nat.lt_trans hsW hWV.out)).trans hV0.out); have c0 : w3.cell? ⟨w.heap.size, 0, none⟩ = some (.int .i64 0) := cell_at h3.out rfl; have c1 : w3.cell? ⟨w.heap.size, 1, none⟩ = some (.int .u64 0) := cell_at h3.out rfl; have f0 : w3.frozen? ⟨w.heap.size, 0, none⟩ = false := frozen_at h3.out; have f1 : w3.frozen? ⟨w.heap.size, 1, none⟩ = false := frozen_at h3.out)
        refine bodyPost_ret (v := .tuple #[.agg #[.int .i64 0, .int .u64 0], .int .i64 11]) (by simp [results, Tryz.results101, go_sem, c0, c1]) rfl ?_
        exact ⟨0, 0, 11, rfl, ((hbwV.trans (hb3.mono hbwV.size)).setCell (Nat.le_refl _) _).setCell (Nat.le_refl _) _, .inr ⟨hTk.out, by decide⟩⟩
    · obtain ⟨q, hq⟩ : ∃ q, Hid (q = Vm.layHead ⟨G, T⟩) := ⟨_, Hid.mk rfl⟩
      have hG1 : ∀ V : World, Calls Tryz.prog 136 #[.agg #[.int .i64 (G : Int), .int .u64 (T : Int)]] V fun e w' => ∃ h, e = .returned (.tuple #[.slice (some ⟨h, 0, none⟩) 64 64, .int .i64 0]) ∧ w'.ownsRow V.heap.size 5 1 (.slice (some ⟨h, 0, none⟩) 64 64) 64 (byC q) ∧ Below V.heap.size V w' := fun V => by
        rw [hq.out]; exact c_layHead G T (by omega) hG2 hT2.out V
      have hql : Hid (q.length = 64) := by
        show _ = _
        rw [hq.out, Vm.layHead_eq]
        simp [Vm.put_len]
      have hG1' := Hid.mk hG1
      clear hG1
      rw [← hq.out] at hTk
      by_cases hqb : q = b
      · rw [if_pos ⟨by omega, hG2, hqb⟩] at hTk
        have cE1 : Hid (∀ W h c, W.rangeAt h 0 (byC q) → W.rangeAt g o (byC b) → Calls Tryz.prog 137 #[.slice (some ⟨h, 0, none⟩) 64 c, .slice (some ⟨g, o, none⟩) 64 cp] W fun e w' => e = .returned (.bool true) ∧ w' = W) := fun W h c h1 h2 => by
          have := cE.out W h c q hql.out h1 h2
          rwa [show (q == b) = true by rw [hqb]; simp] at this
        clear hqb
        go_enter Tryz.func101, Tryz.ntmps101
        go_wp2_with fail
        go_quiet ((first | (go_at_call 104; exact Calls.quiet_of_same (cA.out _ (hrA.out _ _))) | (go_at_call 135; exact Calls.quiet_of_same (cS.out _ (hrA.out _ _)))))
        obtain ⟨W, hW⟩ : ∃ W, Hid (W = (w.alloc (.cells #[.int .i64 0, .int .u64 0] 94)).drewN nq) := ⟨_, Hid.mk rfl⟩
        have hWr : Hid (W.heap[w.heap.size]? = some (.cells #[.int .i64 0, .int .u64 0] 94 (0, 0))) := by show _ = _; rw [hW.out]; exact heap_alloc_new w _
        have hbW : Below w.heap.size w W := by rw [hW.out]; exact hWD.out _ _
        have hrW : W.rangeAt g o (byC b) := by rw [hW.out]; exact hrA.out _ _
        have hgW : g < W.heap.size := Nat.lt_of_lt_of_le hg hbW.size
        have hsW : w.heap.size < W.heap.size := (Array.getElem?_eq_some_iff.1 hWr.out).1
        rw [← hW.out]
        go_wp2_with fail
        go_region_held3 (fun w' => w'.rangeAt g o (byC b)) (first | assumption | (simp only [World.rangeAt_drew]; first | assumption | exact World.rangeAt_alloc hrW _))
          (first | (go_at_call 104; (with_reducible refine (cG.out _ (by assumption)).mono ?_); rintro e w' ⟨rfl, rfl⟩) | (go_at_call 104; (with_reducible refine (cT.out _ (by assumption)).mono ?_); rintro e w' ⟨rfl, rfl⟩))
        all_goals
          obtain ⟨V, hV⟩ : ∃ V, Hid (V = (W.alloc (.cells #[.int .i64 (G : Int), .int .u64 (T : Int)] 94)).drew) := ⟨_, Hid.mk rfl⟩
          have hVr : Hid (V.heap[W.heap.size]? = some (.cells #[.int .i64 (G : Int), .int .u64 (T : Int)] 94 (0, 0))) := by show _ = _; rw [hV.out]; exact heap_alloc_new W _
          have hbV : Below W.heap.size W V := by rw [hV.out]; exact ((Below.refl _ _).alloc (Nat.le_refl _) _).drew
          have hV0 : Hid (V.heap[w.heap.size]? = some (.cells #[.int .i64 0, .int .u64 0] 94 (0, 0))) := (hbV.block _ hsW).trans hWr.out
          have hbwV : Below w.heap.size w V := hbW.trans (hbV.mono hbW.size)
          have l0 : V.cell? ⟨W.heap.size, 0, none⟩ = some (.int .i64 (G : Int)) := cell_at hVr.out rfl
          have l1 : V.cell? ⟨W.heap.size, 1, none⟩ = some (.int .u64 (T : Int)) := cell_at hVr.out rfl
          have hWV : Hid (W.heap.size < V.heap.size) := (Array.getElem?_eq_some_iff.1 hVr.out).1
          rw [← hV.out]
          go_wp2_with (first
            | (go_at_call 136; refine (hG1'.out V).mono ?_; rintro e w3 ⟨h, rfl, hown, hb3⟩; have h3 := Hid.mk ((hb3.block _ (Nat.lt_trans hsW hWV.out)).trans hV0.out); have c0 : w3.cell? ⟨w.heap.size, 0, none⟩ = some (.int .i64 0) := cell_at h3.out rfl; have c1 : w3.cell? ⟨w.heap.size, 1, none⟩ = some (.int .u64 0) := cell_at h3.out rfl; have f0 : w3.frozen? ⟨w.heap.size, 0, none⟩ = false := frozen_at h3.out; have f1 : w3.frozen? ⟨w.heap.size, 1, none⟩ = false := frozen_at h3.out; have h4 := Hid.mk ((hb3.block _ hWV.out).trans hVr.out); have d0 : w3.cell? ⟨W.heap.size, 0, none⟩ = some (.int .i64 (G : Int)) := cell_at h4.out rfl; have d1 : w3.cell? ⟨W.heap.size, 1, none⟩ = some (.int .u64 (T : Int)) := cell_at h4.out rfl; have hrE := Hid.mk (own_range hown); have hrB3 := Hid.mk (rangeAt_below (rangeAt_below hrW hbV hgW) hb3 (Nat.lt_of_lt_of_le hgW hbV.size)))
            | (go_at_call 137; refine (cE1.out w3 h 64 hrE.out hrB3.out).mono ?_; rintro e w' ⟨rfl, rfl⟩))
          refine bodyPost_ret (v := .tuple #[.agg #[.int .i64 (G : Int), .int .u64 (T : Int)], .int .i64 0]) (by simp [results, Tryz.results101, go_sem, c0, c1]) rfl ?_
          exact ⟨G, T, 0, rfl, ((hbwV.trans (hb3.mono hbwV.size)).setCell (Nat.le_refl _) _).setCell (Nat.le_refl _) _, .inl ⟨hTk.out, rfl⟩⟩
      · rw [if_neg (fun h => hqb h.2.2)] at hTk
        have cE1 : Hid (∀ W h c, W.rangeAt h 0 (byC q) → W.rangeAt g o (byC b) → Calls Tryz.prog 137 #[.slice (some ⟨h, 0, none⟩) 64 c, .slice (some ⟨g, o, none⟩) 64 cp] W fun e w' => e = .returned (.bool false) ∧ w' = W) := fun W h c h1 h2 => by
          have := cE.out W h c q hql.out h1 h2
          rwa [beq_eq_false_iff_ne.2 hqb] at this
        clear hqb
        go_enter Tryz.func101, Tryz.ntmps101
        go_wp2_with fail
        go_quiet ((first | (go_at_call 104; exact Calls.quiet_of_same (cA.out _ (hrA.out _ _))) | (go_at_call 135; exact Calls.quiet_of_same (cS.out _ (hrA.out _ _)))))
        obtain ⟨W, hW⟩ : ∃ W, Hid (W = (w.alloc (.cells #[.int .i64 0, .int .u64 0] 94)).drewN nq) := ⟨_, Hid.mk rfl⟩
        have hWr : Hid (W.heap[w.heap.size]? = some (.cells #[.int .i64 0, .int .u64 0] 94 (0, 0))) := by show _ = _; rw [hW.out]; exact heap_alloc_new w _
        have hbW : Below w.heap.size w W := by rw [hW.out]; exact hWD.out _ _
        have hrW : W.rangeAt g o (byC b) := by rw [hW.out]; exact hrA.out _ _
        have hgW : g < W.heap.size := Nat.lt_of_lt_of_le hg hbW.size
        have hsW : w.heap.size < W.heap.size := (Array.getElem?_eq_some_iff.1 hWr.out).1
        rw [← hW.out]
        go_wp2_with fail
        go_region_held3 (fun w' => w'.rangeAt g o (byC b)) (first | assumption | (simp only [World.rangeAt_drew]; first | assumption | exact World.rangeAt_alloc hrW _))
          (first | (go_at_call 104; (with_reducible refine (cG.out _ (by assumption)).mono ?_); rintro e w' ⟨rfl, rfl⟩) | (go_at_call 104; (with_reducible refine (cT.out _ (by assumption)).mono ?_); rintro e w' ⟨rfl, rfl⟩))
        all_goals
          obtain ⟨V, hV⟩ : ∃ V, Hid (V = (W.alloc (.cells #[.int .i64 (G : Int), .int .u64 (T : Int)] 94)).drew) := ⟨_, Hid.mk rfl⟩
          have hVr : Hid (V.heap[W.heap.size]? = some (.cells #[.int .i64 (G : Int), .int .u64 (T : Int)] 94 (0, 0))) := by show _ = _; rw [hV.out]; exact heap_alloc_new W _
          have hbV : Below W.heap.size W V := by rw [hV.out]; exact ((Below.refl _ _).alloc (Nat.le_refl _) _).drew
          have hV0 : Hid (V.heap[w.heap.size]? = some (.cells #[.int .i64 0, .int .u64 0] 94 (0, 0))) := (hbV.block _ hsW).trans hWr.out
          have hbwV : Below w.heap.size w V := hbW.trans (hbV.mono hbW.size)
          have l0 : V.cell? ⟨W.heap.size, 0, none⟩ = some (.int .i64 (G : Int)) := cell_at hVr.out rfl
          have l1 : V.cell? ⟨W.heap.size, 1, none⟩ = some (.int .u64 (T : Int)) := cell_at hVr.out rfl
          have hWV : Hid (W.heap.size < V.heap.size) := (Array.getElem?_eq_some_iff.1 hVr.out).1
          rw [← hV.out]
          go_wp2_with (first
            | (go_at_call 136; refine (hG1'.out V).mono ?_; rintro e w3 ⟨h, rfl, hown, hb3⟩; have h3 := Hid.mk ((hb3.block _ (Nat.lt_trans hsW hWV.out)).trans hV0.out); have c0 : w3.cell? ⟨w.heap.size, 0, none⟩ = some (.int .i64 0) := cell_at h3.out rfl; have c1 : w3.cell? ⟨w.heap.size, 1, none⟩ = some (.int .u64 0) := cell_at h3.out rfl; have f0 : w3.frozen? ⟨w.heap.size, 0, none⟩ = false := frozen_at h3.out; have f1 : w3.frozen? ⟨w.heap.size, 1, none⟩ = false := frozen_at h3.out; have h4 := Hid.mk ((hb3.block _ hWV.out).trans hVr.out); have d0 : w3.cell? ⟨W.heap.size, 0, none⟩ = some (.int .i64 (G : Int)) := cell_at h4.out rfl; have d1 : w3.cell? ⟨W.heap.size, 1, none⟩ = some (.int .u64 (T : Int)) := cell_at h4.out rfl; have hrE := Hid.mk (own_range hown); have hrB3 := Hid.mk (rangeAt_below (rangeAt_below hrW hbV hgW) hb3 (Nat.lt_of_lt_of_le hgW hbV.size)))
            | (go_at_call 137; refine (cE1.out w3 h 64 hrE.out hrB3.out).mono ?_; rintro e w' ⟨rfl, rfl⟩))
          refine bodyPost_ret (v := .tuple #[.agg #[.int .i64 0, .int .u64 0], .int .i64 11]) (by simp [results, Tryz.results101, go_sem, c0, c1]) rfl ?_
          exact ⟨0, 0, 11, rfl, ((hbwV.trans (hb3.mono hbwV.size)).setCell (Nat.le_refl _) _).setCell (Nat.le_refl _) _, .inr ⟨hTk.out, by decide⟩⟩
  · rw [if_pos hAS] at hTk
    have hAS' : ((A : Int) != (S : Int)) = true := by rw [bne_iff_ne]; omega
    go_enter Tryz.func101, Tryz.ntmps101
    go_wp2_with fail
    go_quiet ((first | (go_at_call 104; exact Calls.quiet_of_same (cA.out _ (hrA.out _ _))) | (go_at_call 135; exact Calls.quiet_of_same (cS.out _ (hrA.out _ _)))))
    obtain ⟨W, hW⟩ : ∃ W, Hid (W = (w.alloc (.cells #[.int .i64 0, .int .u64 0] 94)).drewN nq) := ⟨_, Hid.mk rfl⟩
    have hWr : Hid (W.heap[w.heap.size]? = some (.cells #[.int .i64 0, .int .u64 0] 94 (0, 0))) := by show _ = _; rw [hW.out]; exact heap_alloc_new w _
    have c0 : W.cell? ⟨w.heap.size, 0, none⟩ = some (.int .i64 0) := cell_at hWr.out rfl
    have c1 : W.cell? ⟨w.heap.size, 1, none⟩ = some (.int .u64 0) := cell_at hWr.out rfl
    have f0 : W.frozen? ⟨w.heap.size, 0, none⟩ = false := frozen_at hWr.out
    have f1 : W.frozen? ⟨w.heap.size, 1, none⟩ = false := frozen_at hWr.out
    have hbW : Below w.heap.size w W := by rw [hW.out]; exact hWD.out _ _
    rw [← hW.out]
    go_wp2
    refine bodyPost_ret (v := .tuple #[.agg #[.int .i64 0, .int .u64 0], .int .i64 10]) (by simp [results, Tryz.results101, go_sem, c0, c1]) rfl ?_
    exact ⟨0, 0, 10, rfl, (hbW.setCell (Nat.le_refl _) _).setCell (Nat.le_refl _) _, .inr ⟨hTk.out, by decide⟩⟩
end Go.Proofs.YtoacaikopcdkmaaGreat

namespace Go.Proofs.YtoacaikopcdkmaaGreat
open Go.RowKit Go.Sort
def planV (pl : Vm.Plan) : Value := .agg #[.int .i64 (pl.log : Int), .int .i64 (pl.base : Int), .int .i64 (pl.pages : Int)]
theorem draft_some {n : Nat} {pl : Vm.Plan} (h : Vm.draft n = some pl) : 64 ≤ n ∧ n ≤ 16384 ∧ pl.log = n / 4 ∧ pl.base = 2 + n / 4 ∧ pl.pages = (n - (2 + n / 4)) / 8 := by
  unfold Vm.draft at h
  split at h
  · cases h
  · cases h; exact ⟨by omega, by omega, rfl, rfl, rfl⟩
set_option maxRecDepth 100000 in
theorem c_draft (n : Nat) (pl : Vm.Plan) (h : Vm.draft n = some pl) (w : World) : Calls Tryz.prog 50 #[.int .i64 (n : Int)] w fun e w' => e = .returned (.tuple #[planV pl, .int .i64 0]) ∧ Below w.heap.size w w' := by
  obtain ⟨h1, h2, h3, h4, h5⟩ := draft_some h
  have h3' := Hid.mk h3
  have h4' := Hid.mk h4
  have h5' := Hid.mk h5
  clear h h3 h4 h5
  go_enter Tryz.func50, Tryz.ntmps50
  go_wp2
  refine bodyPost_ret (v := .tuple #[.agg #[.int .i64 ((n : Int) / 4), .int .i64 (2 + (n : Int) / 4), .int .i64 (((n : Int) - (2 + (n : Int) / 4)) / 8)], .int .i64 0]) (by simp [results, Tryz.results50, go_sem]) rfl ?_
  have e1 : ((n / 4 : Nat) : Int) = (n : Int) / 4 := by omega
  have e2 : ((2 + n / 4 : Nat) : Int) = 2 + (n : Int) / 4 := by omega
  have e3 : (((n - (2 + n / 4)) / 8 : Nat) : Int) = ((n : Int) - (2 + (n : Int) / 4)) / 8 := by omega
  refine ⟨?_, ((Below.refl _ _).alloc (Nat.le_refl _) _).alloc (by simp) _⟩
  unfold planV
  rw [h3'.out, h4'.out, h5'.out, e1, e2, e3]
set_option maxRecDepth 100000 in
theorem c_draft0 (n : Nat) (h : Vm.draft n = none) (w : World) : Calls Tryz.prog 50 #[.int .i64 (n : Int)] w fun e w' => e = .returned (.tuple #[.agg #[.int .i64 0, .int .i64 0, .int .i64 0], .int .i64 1]) ∧ Below w.heap.size w w' := by
  have hn : n < 64 ∨ 16384 < n := by
    unfold Vm.draft at h
    split at h
    · assumption
    · cases h
  have h' := Hid.mk h
  clear h
  rcases hn with hn | hn
  · go_enter Tryz.func50, Tryz.ntmps50
    go_wp2
    refine bodyPost_ret (v := .tuple #[.agg #[.int .i64 0, .int .i64 0, .int .i64 0], .int .i64 1]) (by simp [results, Tryz.results50, go_sem]) rfl ?_
    exact ⟨rfl, (Below.refl _ _).alloc (Nat.le_refl _) _⟩
  · have hn2 : ¬ (n < 64) := by omega
    go_enter Tryz.func50, Tryz.ntmps50
    go_wp2
    refine bodyPost_ret (v := .tuple #[.agg #[.int .i64 0, .int .i64 0, .int .i64 0], .int .i64 1]) (by simp [results, Tryz.results50, go_sem]) rfl ?_
    exact ⟨rfl, (Below.refl _ _).alloc (Nat.le_refl _) _⟩
set_option maxRecDepth 100000 in
theorem c_where (κ : Nat → Nat) (c a n : Nat) (d : Vm.Drum) (pl : Vm.Plan) (w : World) (hD : DrumAt κ c w a d) (hp : Vm.draft d.now.length = some pl) (hn : n < pl.pages) :
    Calls Tryz.prog 100 #[.pointer (some ⟨a, 0, none⟩), .int .i64 (n : Int)] w fun e w' => e = .returned (.tuple #[.int .i64 ((pl.base + n * 8 : Nat) : Int), .int .i64 0]) ∧ Below w.heap.size w w' := by
  obtain ⟨h1, h2, h3, h4, h5⟩ := draft_some hp
  obtain ⟨B, hB⟩ : ∃ B, Hid (B = pl.base) := ⟨_, Hid.mk rfl⟩
  obtain ⟨P, hP⟩ : ∃ P, Hid (P = pl.pages) := ⟨_, Hid.mk rfl⟩
  obtain ⟨G, hG⟩ : ∃ G, Hid (G = pl.log) := ⟨_, Hid.mk rfl⟩
  have cs := Hid.mk (c_sectors κ c a d w hD)
  have cd : ∀ w, Calls Tryz.prog 50 #[.int .i64 (d.now.length : Int)] w fun e w' => e = .returned (.tuple #[.agg #[.int .i64 (G : Int), .int .i64 (B : Int), .int .i64 (P : Int)], .int .i64 0]) ∧ Below w.heap.size w w' := fun w => by
    have := c_draft d.now.length pl hp w
    unfold planV at this
    rw [hB.out, hP.out, hG.out]; exact this
  have cd' := Hid.mk cd
  have hB1 : B ≤ 5000 := by rw [hB.out, h4]; omega
  have hP1 : P ≤ 3000 := by rw [hP.out, h5]; omega
  have hnP : n < P := by rw [hP.out]; exact hn
  rw [← hB.out]
  clear cd hp h3 h4 h5 hD hn
  go_enter Tryz.func100, Tryz.ntmps100
  go_wp2_with (first | (go_at_call 51; refine cs.out.mono ?_; rintro e w' ⟨rfl, rfl⟩) | (go_at_call 50; refine (cd'.out _).mono ?_; rintro e w1 ⟨rfl, hb1⟩))
  go_ret2
  refine ⟨?_, hb1.alloc hb1.size _⟩
  congr 5
end Go.Proofs.YtoacaikopcdkmaaGreat

namespace Go.Proofs.YtoacaikopcdkmaaGreat
open Go.RowKit Go.Sort
/-- The first k of a page's writes. -/
def pf (at_ : Nat) (b : List UInt8) (d : Vm.Drum) : Nat → Nat × Vm.Drum
  | 0 => (0, d)
  | k + 1 => if (pf at_ b d k).1 = 0 then (pf at_ b d k).2.write (at_ + k) ((b.drop (k * 64)).take 64) else pf at_ b d k
theorem pf_fold (at_ : Nat) (b : List UInt8) (d : Vm.Drum) : ∀ k, (List.range k).foldl (fun (r : Nat × Vm.Drum) i => if r.1 = 0 then r.2.write (at_ + i) ((b.drop (i * 64)).take 64) else r) (0, d) = pf at_ b d k
  | 0 => rfl
  | k + 1 => by rw [List.range_succ, List.foldl_append, pf_fold at_ b d k]; rfl
theorem putPage_pf (d : Vm.Drum) (base n st : Nat) (p : List UInt8) : Vm.putPage d base n st p = pf (base + n * 8) (Vm.lay n st p) d 8 := pf_fold _ _ _ _
theorem pf_stop {at_ : Nat} {b : List UInt8} {d : Vm.Drum} {i : Nat} (h : (pf at_ b d i).1 ≠ 0) : ∀ j, pf at_ b d (i + j) = pf at_ b d i
  | 0 => rfl
  | j + 1 => by
    have ih := pf_stop h j
    rw [← Nat.add_assoc, pf, ih, if_neg h]
theorem write_loose (d : Vm.Drum) (k : Nat) (p : List UInt8) : (d.write k p).2.loose.length ≤ d.loose.length + 1 := by
  have hs := step_same d
  unfold Vm.Drum.write
  split
  · simp
  · split
    · simp
    · obtain ⟨er, d1, hst⟩ : ∃ er d1, d.step = (er, d1) := ⟨_, _, rfl⟩
      rw [hst] at hs ⊢
      simp only at hs
      rcases hs.2.2.2 with e | e <;> subst e
      · simp [hs.2.2.1]
      · simp [hs.2.2.1]
theorem pf_loose (at_ : Nat) (b : List UInt8) (d : Vm.Drum) : ∀ k, (pf at_ b d k).2.loose.length ≤ d.loose.length + k
  | 0 => Nat.le_refl _
  | k + 1 => by
    have ih := pf_loose at_ b d k
    rw [pf]
    split
    · have := write_loose (pf at_ b d k).2 (at_ + k) ((b.drop (k * 64)).take 64); omega
    · omega
theorem lay_len (n st : Nat) (p : List UInt8) (h : p.length ≤ 496) : (Vm.lay n st p).length = 512 := by
  unfold Vm.lay Vm.fill
  simp only [List.length_append, Vm.put_len, List.length_replicate]
  omega
/-- A drum somewhere in memory. -/
def DAt (κ : Nat → Nat) (c : Nat) (w w' : World) (a : Nat) (d : Vm.Drum) : Prop := ∃ κ', DrumAt κ' c w' a d ∧ To (Dc c) κ κ' w w' ∧ Cz κ' w'
set_option maxRecDepth 100000 in
set_option maxHeartbeats 1600000 in
theorem c_pput (κ : Nat → Nat) (c a n st pg po cp : Nat) (d : Vm.Drum) (pl : Vm.Plan) (w : World) (hD : DrumAt κ c w a d) (hz : Cz κ w) (hc0 : 1 ≤ c) (hp : Vm.draft d.now.length = some pl) (hn : n < pl.pages) (hst : st < 18446744073709551616)
    (p : List UInt8) (hl : p.length = 496) (hr : w.rangeAt pg po (byC p)) (hpg : pg < w.heap.size) (hL : d.loose.length ≤ 500000) :
    Calls Tryz.prog 73 #[.pointer (some ⟨a, 0, none⟩), .int .i64 (n : Int), .int .u64 (st : Int), .slice (some ⟨pg, po, none⟩) 496 cp] w fun e w' => e = .returned (.int .i64 ((Vm.putPage d pl.base n st p).1 : Int)) ∧ DAt κ c w w' a (Vm.putPage d pl.base n st p).2 := by
  obtain ⟨h1, h2, h3, h4, h5⟩ := draft_some hp
  obtain ⟨B, hB⟩ : ∃ B, Hid (B = pl.base + n * 8) := ⟨_, Hid.mk rfl⟩
  obtain ⟨b, hb⟩ : ∃ b, Hid (b = Vm.lay n st p) := ⟨_, Hid.mk rfl⟩
  have hB1 : B ≤ 50000 := by rw [hB.out, h4]; omega
  have hbl : Hid (b.length = 512) := by show _ = _; rw [hb.out]; exact lay_len n st p (by omega)
  have cw := Hid.mk (c_where κ c a n d pl w hD hp hn)
  have hn2 : n ≤ 4294967295 := by omega
  have cl : ∀ W, Below w.heap.size w W → Calls Tryz.prog 118 #[.int .i64 (n : Int), .int .u64 (st : Int), .slice (some ⟨pg, po, none⟩) 496 cp] W fun e w' => ∃ g, e = .returned (.tuple #[.slice (some ⟨g, 0, none⟩) 512 512, .int .i64 0]) ∧ w'.ownsRow W.heap.size 5 1 (.slice (some ⟨g, 0, none⟩) 512 512) 512 (byC b) ∧ Below W.heap.size W w' := fun W hW => by
    rw [hb.out]; exact c_lay n st pg po cp hn2 hst p 496 (by omega) hl W (rangeAt_below hr hW hpg) (Nat.lt_of_lt_of_le hpg hW.size)
  have cl' := Hid.mk cl
  rw [← hB.out] at cw
  rw [putPage_pf, ← hB.out, ← hb.out]
  have hD' := Hid.mk hD
  have hz' := Hid.mk hz
  clear cl hD hz hp hn hst hl hr h3 h4 h5 hn2
  go_enter Tryz.func73, Tryz.ntmps73
  go_wp2_with (first | (go_at_call 100; refine cw.out.mono ?_; rintro e w1 ⟨rfl, hb1⟩) | (go_at_call 118; refine (cl'.out w1 hb1).mono ?_; rintro e w2 ⟨g, rfl, hown, hb2⟩))
  have hbb : Hid (Below w.heap.size w w2) := hb1.trans (hb2.mono hb1.size)
  have hgw : Hid (w1.heap.size ≤ g) := (hown.lt g rfl).1
  have hrb := Hid.mk (own_range hown)
  go_loopw [10, 12] (fun ev i wr => ∃ (k er : Nat) (κr : Nat → Nat), k ≤ 8 ∧ i = .int .i64 (k : Int) ∧ ev = .int .i64 (er : Int) ∧ Hid (er = (pf B b d k).1) ∧ DrumAt κr c wr a (pf B b d k).2 ∧ To (Dc c) κ κr w wr ∧ Cz κr wr ∧ wr.rangeAt g 0 (byC b) ∧ κr g = 0) (fun _ i _ => 8 - (intOf i).toNat)
  case atStart =>
    have t : To (Dc c) κ κ w w2 := To.of_below _ _ hbb.out
    exact ⟨0, 0, κ, by omega, rfl, rfl, rfl, hD'.out.to (To.of_below No κ hbb.out) (fun _ _ h => h), t, t.cz hz'.out, hrb.out, hz'.out g (Nat.le_trans hb1.size hgw.out)⟩
  case round =>
    obtain ⟨k, er, κr, hk, rfl, rfl, her, hDr, hTr, hzr, hrr, hκg⟩ := hrel
    by_cases hlt : k < 8
    · by_cases he : er = 0
      · subst he
        have hne512 : ¬ (512 = k * 64) := by omega
        obtain ⟨e2, d2, hwr⟩ := pair_ex ((pf B b d k).2.write (B + k) ((b.drop (k * 64)).take 64))
        have hpf : Hid (pf B b d (k + 1) = (e2, d2)) := by show _ = _; rw [pf, if_pos her.out.symm, hwr.out]
        have hrp : wr.rangeAt g (k * 64) (byC ((b.drop (k * 64)).take 64)) := by
          have := rangeAt_part hrr (k * 64) 64
          rw [Nat.zero_add, byC_drop, byC_take] at this
          exact this
        have cW : Calls Tryz.prog 16 #[.pointer (some ⟨a, 0, none⟩), .int .i64 ((B : Int) + (k : Int)), .slice (some ⟨g, k * 64, none⟩) ((k + 1) * 64 - k * 64) (512 - k * 64)] wr fun e w' => e = .returned (.int .i64 (e2 : Int)) ∧ DAt κr c wr w' a d2 := by
          have := c_write κr c a (B + k) g (k * 64) (512 - k * 64) ((b.drop (k * 64)).take 64) (pf B b d k).2 wr hDr hzr (by rw [List.length_take, List.length_drop, hbl.out]; omega) hrp (fun h => by rw [hκg] at h; have := h.1; omega) (by have := pf_loose B b d k; omega)
          rw [hwr.out] at this
          rw [show (B : Int) + (k : Int) = ((B + k : Nat) : Int) by omega, show (k + 1) * 64 - k * 64 = 64 by omega]
          exact this
        have hgs : Hid (g < wr.heap.size) := by
          refine World.block_lt_of_cell? (a := ⟨g, 0 + 0, none⟩) wr (hrr 0 _ (List.getElem?_eq_getElem (by rw [byC_len, hbl.out]; decide)))
        have cW' := Hid.mk cW
        have hκg' := Hid.mk hκg
        have hrr' := Hid.mk hrr
        clear cW hrp hDr hκg hrr
        go_wp2_with (go_at_call 16; refine cW'.out.mono ?_; rintro e w3 ⟨rfl, hd3⟩)
        go_roundw
        case rel =>
          obtain ⟨κ3, hD3, hT3, hz3⟩ := hd3
          have hns : ¬ Dc c (κr g) := fun h => by rw [hκg'.out] at h; have := h.1; omega
          refine ⟨k + 1, e2, κ3, by omega, by go_num, rfl, ?_, ?_, hTr.trans hT3, hz3, rangeAt_to hrr'.out hT3 hns, ?_⟩
          · show _ = _; rw [hpf.out]
          · rw [hpf.out]; exact hD3
          · rw [hT3.col g hgs.out hns]; exact hκg'.out
        case measure => simp [intOf]; omega
      · have he' : ((er : Int) == 0) = false := by rw [beq_eq_false_iff_ne]; omega
        have hst : Hid (pf B b d 8 = pf B b d k) := by
          have := pf_stop (at_ := B) (b := b) (d := d) (i := k) (by rw [← her.out]; exact he) (8 - k)
          rwa [show k + (8 - k) = 8 by omega] at this
        go_wp2
        go_ret
        rw [hst.out, ← her.out]
        exact ⟨rfl, κr, hDr, hTr, hzr⟩
    · have hk8 : k = 8 := by omega
      subst hk8
      go_wp2
      go_ret
      rw [← her.out]
      exact ⟨rfl, κr, hDr, hTr, hzr⟩
end Go.Proofs.YtoacaikopcdkmaaGreat

namespace Go.Proofs.YtoacaikopcdkmaaGreat
open Go.RowKit Go.Sort
theorem read_wid {d : Vm.Drum} {k : Nat} (h0 : DrumOk d) {s2 : List UInt8} {d2 : Vm.Drum} (h : d.read k = (0, s2, d2)) : s2.length = 64 := by
  unfold Vm.Drum.read at h
  split at h
  · rename_i hk
    split at h
    · cases h
      rename_i heq
      have hs := (step_same d).1
      rw [heq] at hs
      simp only at hs
      rw [hs, getD_at hk]; exact h0.wn _ (List.getElem_mem _)
    · rename_i hne heq; exfalso; cases h; exact hne rfl
  · cases h
/-- Read, where it answers, and where not. -/
theorem c_read0 (κ : Nat → Nat) (c a k : Nat) (d : Vm.Drum) (w : World) (hD : DrumAt κ c w a d) {s2 : List UInt8} {d2 : Vm.Drum} (h : d.read k = (0, s2, d2)) :
    Calls Tryz.prog 97 #[.pointer (some ⟨a, 0, none⟩), .int .i64 (k : Int)] w fun e w' => ∃ g cp, e = .returned (.tuple #[.slice (some ⟨g, 0, none⟩) 64 cp, .int .i64 0]) ∧ w.heap.size ≤ g ∧ 64 ≤ cp ∧ w'.rangeAt g 0 (byC s2) ∧ DrumAt κ c w' a d2 ∧ To (Dc c) κ κ w w' := by
  have hl : s2.length = 64 := read_wid hD.1 h
  refine (c_read κ c a k d w hD).mono ?_
  rintro e w' ⟨v, rfl, hown, hD', hT⟩
  rw [h] at hown hD' ⊢
  simp only at hown
  rw [hl] at hown
  rcases hown.2 with ⟨_, h0⟩ | ⟨g, cap, cur, rfl, hg, _, hc, _⟩
  · omega
  · exact ⟨g, cap, rfl, hg, hc, own_range hown, hD', hT⟩
theorem c_read1 (κ : Nat → Nat) (c a k : Nat) (d : Vm.Drum) (w : World) (hD : DrumAt κ c w a d) {e2 : Nat} {s2 : List UInt8} {d2 : Vm.Drum} (h : d.read k = (e2, s2, d2)) :
    Calls Tryz.prog 97 #[.pointer (some ⟨a, 0, none⟩), .int .i64 (k : Int)] w fun e w' => ∃ v, e = .returned (.tuple #[v, .int .i64 (e2 : Int)]) ∧ DrumAt κ c w' a d2 ∧ To (Dc c) κ κ w w' := by
  refine (c_read κ c a k d w hD).mono ?_
  rintro e w' ⟨v, rfl, hown, hD', hT⟩
  rw [h] at hD' ⊢
  exact ⟨v, rfl, hD', hT⟩
/-- The first k of a page's reads. -/
def gf (at_ : Nat) (d : Vm.Drum) : Nat → Nat × List UInt8 × Vm.Drum
  | 0 => (0, [], d)
  | k + 1 => if (gf at_ d k).1 = 0 then (match (gf at_ d k).2.2.read (at_ + k) with | (e, s, d') => (e, (gf at_ d k).2.1 ++ s, d')) else gf at_ d k
theorem gf_fold (at_ : Nat) (d : Vm.Drum) : ∀ k, (List.range k).foldl (fun (r : Nat × List UInt8 × Vm.Drum) i => if r.1 = 0 then (match r.2.2.read (at_ + i) with | (e, s, d) => (e, r.2.1 ++ s, d)) else r) (0, [], d) = gf at_ d k
  | 0 => rfl
  | k + 1 => by rw [List.range_succ, List.foldl_append, gf_fold at_ d k]; rfl
theorem gf_stop {at_ : Nat} {d : Vm.Drum} {i : Nat} (h : (gf at_ d i).1 ≠ 0) : ∀ j, gf at_ d (i + j) = gf at_ d i
  | 0 => rfl
  | j + 1 => by
    have ih := gf_stop h j
    rw [← Nat.add_assoc, gf, ih, if_neg h]
theorem getPage_gf (d : Vm.Drum) (base n : Nat) : Vm.getPage d base n = if (gf (base + n * 8) d 8).1 = 0 then (match Vm.take n (gf (base + n * 8) d 8).2.1 with | (e, p, s) => (e, p, s, (gf (base + n * 8) d 8).2.2)) else ((gf (base + n * 8) d 8).1, [], 0, (gf (base + n * 8) d 8).2.2) := by
  unfold Vm.getPage
  simp only [gf_fold]
set_option maxRecDepth 100000 in
set_option maxHeartbeats 1600000 in
theorem c_pget (κ : Nat → Nat) (c a n : Nat) (d : Vm.Drum) (pl : Vm.Plan) (w : World) (hD : DrumAt κ c w a d) (hz : Cz κ w) (hc0 : 1 ≤ c) (hp : Vm.draft d.now.length = some pl) (hn : n < pl.pages) :
    Calls Tryz.prog 56 #[.pointer (some ⟨a, 0, none⟩), .int .i64 (n : Int)] w fun e w' => ∃ v, e = .returned (.tuple #[v, .int .u64 ((Vm.getPage d pl.base n).2.2.1 : Int), .int .i64 ((Vm.getPage d pl.base n).1 : Int)]) ∧
      w'.ownsRow w.heap.size 5 1 v (Vm.getPage d pl.base n).2.1.length (byC (Vm.getPage d pl.base n).2.1) ∧ DrumAt κ c w' a (Vm.getPage d pl.base n).2.2.2 ∧ To (Dc c) κ κ w w' := by
  obtain ⟨h1, h2, h3, h4, h5⟩ := draft_some hp
  obtain ⟨B, hB⟩ : ∃ B, Hid (B = pl.base + n * 8) := ⟨_, Hid.mk rfl⟩
  have hB1 : B ≤ 50000 := by rw [hB.out, h4]; omega
  have cw := Hid.mk (c_where κ c a n d pl w hD hp hn)
  have hn2 : n ≤ 4294967295 := by omega
  obtain ⟨i0, z0, hi, hz0, hz1, hz2, hz3⟩ := info_sz (t := 5) (size := 1) (bytes := 1) (zs := 1) (by kernel_rfl)
  rw [← hB.out] at cw
  have hPg := Hid.mk (getPage_gf d pl.base n)
  rw [← hB.out] at hPg
  obtain ⟨R, hR⟩ : ∃ R, Hid (R = Vm.getPage d pl.base n) := ⟨_, Hid.mk rfl⟩
  rw [← hR.out] at hPg ⊢
  have hD' := Hid.mk hD
  have hz' := Hid.mk hz
  clear hD hz hp hn h3 h4 h5
  go_enter Tryz.func56, Tryz.ntmps56
  go_wp2_with (go_at_call 100; refine cw.out.mono ?_; rintro e w1 ⟨rfl, hb1⟩)
  go_loopw [8, 21] (fun bv i wr => ∃ (k : Nat) (V : Value), k ≤ 8 ∧ i = .int .i64 (k : Int) ∧ bv = V ∧ Hid ((gf B d k).1 = 0) ∧ Hid ((gf B d k).2.1.length = 64 * k) ∧ Hid (wr.ownsRow w.heap.size 5 1 V (64 * k) (byC (gf B d k).2.1)) ∧ DrumAt κ c wr a (gf B d k).2.2 ∧ To (Dc c) κ κ w wr) (fun _ i _ => 8 - (intOf i).toNat)
  case atStart =>
    exact ⟨0, _, by omega, rfl, rfl, rfl, rfl, World.ownsRow_nil _ _ _ _, hD'.out.to (To.of_below No κ hb1) (fun _ _ h => h), To.of_below _ _ hb1⟩
  case round =>
    obtain ⟨k, V, hk, rfl, hbV, hok, hlen, hV, hDr, hTr⟩ := hrel
    replace hbV := hbV.symm
    subst hbV
    by_cases hlt : k < 8
    · obtain ⟨e2, s2, d2, hrd⟩ := trip_ex ((gf B d k).2.2.read (B + k))
      have hgf : Hid (gf B d (k + 1) = (e2, (gf B d k).2.1 ++ s2, d2)) := by show _ = _; rw [gf, if_pos hok.out, hrd.out]
      have eB : (B : Int) + (k : Int) = ((B + k : Nat) : Int) := by omega
      by_cases he : e2 = 0
      · subst he
        have cR : Hid (Calls Tryz.prog 97 #[.pointer (some ⟨a, 0, none⟩), .int .i64 ((B : Int) + (k : Int))] wr fun e w' => ∃ g cp, e = .returned (.tuple #[.slice (some ⟨g, 0, none⟩) 64 cp, .int .i64 0]) ∧ wr.heap.size ≤ g ∧ 64 ≤ cp ∧ w'.rangeAt g 0 (byC s2) ∧ DrumAt κ c w' a d2 ∧ To (Dc c) κ κ wr w') := by
          show Calls _ _ _ _ _
          rw [eB]; exact c_read0 κ c a (B + k) _ wr hDr hrd.out
        have hsl := Hid.mk (read_wid hDr.1 hrd.out)
        have hVn : Hid (∀ b, V.ownBlock = some b → ¬ Dc c (κ b)) := fun b hb h => by
          have := hz'.out b (hV.out.lt b hb).1
          rw [this] at h; have := h.1; omega
        have hV3 : ∀ w3, To (Dc c) κ κ wr w3 → w3.ownsRow w.heap.size 5 1 V (64 * k) (byC (gf B d k).2.1) := fun w3 t => by
          refine ⟨hV.out.1, ?_⟩
          rcases hV.out.2 with h | ⟨g, cap, cur, e, h1, h2, h3⟩
          · exact .inl h
          · exact .inr ⟨g, cap, cur, e, h1, (t.blk g (Array.getElem?_eq_some_iff.1 h2).1 (hVn.out g (by rw [e]; rfl))).trans h2, h3⟩
        have hV3' := Hid.mk hV3
        have hws := hTr.size
        clear hV3 hDr eB
        go_wp2_with (first
          | (go_at_call 97; refine cR.out.mono ?_; rintro e w3 ⟨g, cp, rfl, hg, hcp, hr3, hD3, hT3⟩; have hsrc := Hid.mk (src_mid hr3); have hw3 := hT3.size)
          | (at_builtin; refine wpList_append_lies _ rfl (.tmp 35) (.tmp 36) 22 rfl w.heap.size 5 i0 z0 1 1 Tryz.underlying22 hi hz0 hz1 hz2 hz3 (by omega) V (64 * k) _ rfl (hV3'.out w3 hT3) ⟨g, 0, none⟩ 64 cp (byC s2) rfl (by rw [byC_len, hsl.out]) hsrc.out (byC_one _) (by omega) (by simp only [maxLen]; omega) (by omega) (by omega) w3.heap.size rfl ?_; intro gg cap w4 hown1 hgrow hat hlt4))
        change w3.grownBy w4 V.ownBlock at hgrow
        refine ⟨⟨k + 1, _, by omega, by go_num, rfl, by rw [hgf.out]; rfl, ?_, ?_, ?_, ?_⟩, by simp [intOf]; omega⟩
        · show _ = _
          rw [hgf.out, List.length_append, hlen.out, hsl.out]; omega
        · show World.ownsRow _ _ _ _ _ _ _
          rw [hgf.out, byC_app, show 64 * (k + 1) = 64 * k + 64 by omega]
          exact hown1
        · rw [hgf.out]
          have t : To (fun j => j = 0) κ κ w3 w4 := ⟨hgrow.os, hgrow.tape, hgrow.output, hgrow.size, fun _ _ _ => rfl, fun b hb hn => hgrow.block b hb (fun e => hn (hz'.out b (hV.out.lt b e.symm).1))⟩
          exact hD3.to t (fun k hk h => by have := hk.1; omega)
        · exact (hTr.trans hT3).grown hgrow (fun b hb hlt => by have := (hV.out.lt b hb).1; omega)
      · have he' : ((e2 : Int) != 0) = true := by rw [bne_iff_ne]; omega
        have cR : Hid (Calls Tryz.prog 97 #[.pointer (some ⟨a, 0, none⟩), .int .i64 ((B : Int) + (k : Int))] wr fun e w' => ∃ v, e = .returned (.tuple #[v, .int .i64 (e2 : Int)]) ∧ DrumAt κ c w' a d2 ∧ To (Dc c) κ κ wr w') := by
          show Calls _ _ _ _ _
          rw [eB]; exact c_read1 κ c a (B + k) _ wr hDr hrd.out
        have hst : Hid (gf B d 8 = (e2, (gf B d k).2.1 ++ s2, d2)) := by
          have := gf_stop (at_ := B) (d := d) (i := k + 1) (by rw [hgf.out]; exact he) (8 - (k + 1))
          rw [show k + 1 + (8 - (k + 1)) = 8 by omega, hgf.out] at this
          exact this
        have hne := Hid.mk he
        clear hDr eB he
        go_wp2_with (go_at_call 97; refine cR.out.mono ?_; rintro e w3 ⟨v, rfl, hD3, hT3⟩)
        go_ret3
        rw [hPg.out, hst.out, if_neg hne.out]
        exact ⟨_, rfl, World.ownsRow_nil _ _ _ _, hD3, hTr.trans hT3⟩
    · have hk8 : k = 8 := by omega
      subst hk8
      rw [if_pos hok.out] at hPg
      have hVs := hV.out
      rcases hVs.2 with ⟨_, h0⟩ | ⟨g, cap, cur, hVe, hg, hrow, hc, _⟩
      · omega
      · subst hVe
        have hc' : 512 ≤ cap := hc
        have cT := Hid.mk (c_take n g 0 cap hn2 (gf B d 8).2.1 (by rw [hlen.out]) hc' wr (own_range hVs) (Array.getElem?_eq_some_iff.1 hrow).1)
        obtain ⟨te, tp, ts, htk⟩ := trip_ex (Vm.take n (gf B d 8).2.1)
        rw [htk.out] at cT hPg
        have cT2 : Hid (Calls Tryz.prog 109 #[.int .i64 (n : Int), .slice (some ⟨g, 0, none⟩) 512 cap] wr fun e w' => ∃ v, e = .returned (.tuple #[v, .int .u64 (ts : Int), .int .i64 (te : Int)]) ∧ w'.ownsRow wr.heap.size 5 1 v tp.length (byC tp) ∧ Below wr.heap.size wr w') := cT.out
        have hR2 : Hid (R = (te, tp, ts, (gf B d 8).2.2)) := hPg.out
        have hDr' := Hid.mk hDr
        clear hVs hrow cT hPg htk hok hlen hV hDr
        go_wp2_with (go_at_call 109; refine cT2.out.mono ?_; rintro e w3 ⟨v, rfl, hown, hb3⟩)
        go_ret3
        rw [hR2.out]
        refine ⟨v, rfl, own_base hown hTr.size, ?_, hTr.below hb3 hTr.size⟩
        exact DrumAt.to (S := No) (w := wr) hDr'.out (To.of_below No κ hb3) (fun _ _ h => h)
end Go.Proofs.YtoacaikopcdkmaaGreat
