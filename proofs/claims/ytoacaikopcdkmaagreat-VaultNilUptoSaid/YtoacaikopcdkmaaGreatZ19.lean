/- The cache in memory: New. No condition. -/
import Derived.Test.YtoacaikopcdkmaaGreatZ18
import Derived.Carry
set_option linter.unusedSimpArgs false
set_option linter.unusedVariables false
namespace Go.Proofs.YtoacaikopcdkmaaGreat
open Go.RowKit Go.Sort Go.MapKept Go.Maps Go.WideElems Go.ChangeMaps
theorem new_end2 (κ : Nat → Nat) (c n : Nat) (w : World) (hz : Cz κ w) (hc0 : 1 ≤ c) (h2 : n ≤ 65536) (W : World)
    (hW : W = (((((w.alloc (.map #[] 0)).alloc (.cells #[.int .i64 0, .slice none 0 0, .bool false, .int .i64 0, .pointer none, .pointer none] 149)).alloc (.cells #[.int .i64 (n : Int), .map (some w.heap.size), .pointer (some ⟨w.heap.size + 1, 0, none⟩)] 151)).setCell ⟨w.heap.size + 1, 4, none⟩ (.pointer (some ⟨w.heap.size + 1, 0, none⟩))).setCell ⟨w.heap.size + 1, 5, none⟩ (.pointer (some ⟨w.heap.size + 1, 0, none⟩))).drew) :
    ∃ κ', CacheAt κ' c W (w.heap.size + 1 + 1) n [] ∧ To No κ κ' w W ∧ Cz κ' W := by
  obtain ⟨b, hb⟩ : ∃ b, b = w.heap.size := ⟨_, rfl⟩
  obtain ⟨κ', hκ⟩ : ∃ κ' : Nat → Nat, κ' = fun x => if x = b + 1 + 1 then c else if x = b then c + 1 else if x = b + 1 then c + 2 else κ x := ⟨_, rfl⟩
  obtain ⟨A, hA⟩ : ∃ A, A = w.alloc (.map #[] 0) := ⟨_, rfl⟩
  obtain ⟨B, hB⟩ : ∃ B, B = A.alloc (.cells #[.int .i64 0, .slice none 0 0, .bool false, .int .i64 0, .pointer none, .pointer none] 149) := ⟨_, rfl⟩
  obtain ⟨C, hC⟩ : ∃ C, C = B.alloc (.cells #[.int .i64 (n : Int), .map (some b), .pointer (some ⟨b + 1, 0, none⟩)] 151) := ⟨_, rfl⟩
  rw [← hb, ← hA, ← hB, ← hC] at hW
  have sA : A.heap.size = b + 1 := by rw [hA, hb]; simp
  have sB : B.heap.size = b + 1 + 1 := by rw [hB, ← sA]; simp
  have sC : C.heap.size = b + 1 + 1 + 1 := by rw [hC, ← sB]; simp
  have gA : A.heap[b]? = some (.map #[] 0) := by rw [hA, hb]; exact heap_alloc_new w _
  have gB : B.heap[b + 1]? = some (.cells #[.int .i64 0, .slice none 0 0, .bool false, .int .i64 0, .pointer none, .pointer none] 149 (0, 0)) := by rw [hB, ← sA]; exact heap_alloc_new A _
  have gC : C.heap[b + 1 + 1]? = some (.cells #[.int .i64 (n : Int), .map (some b), .pointer (some ⟨b + 1, 0, none⟩)] 151 (0, 0)) := by rw [hC, ← sB]; exact heap_alloc_new B _
  have gA' : C.heap[b]? = some (.map #[] 0) := by
    rw [hC, Below.heap_alloc B _ b (by omega), hB, Below.heap_alloc A _ b (by omega)]; exact gA
  have gB' : C.heap[b + 1]? = some (.cells #[.int .i64 0, .slice none 0 0, .bool false, .int .i64 0, .pointer none, .pointer none] 149 (0, 0)) := by
    rw [hC, Below.heap_alloc B _ (b + 1) (by omega)]; exact gB
  have ho : ∀ x, x ≠ b + 1 → W.heap[x]? = C.heap[x]? := fun x hx => by
    rw [hW]; exact (Below.heap_setCell _ _ _ _ hx).trans (Below.heap_setCell _ _ _ _ hx)
  have gR : W.heap[b + 1]? = some (.cells (eC (rN (b + 1)) (b + 1) (b + 1)) 149 (0, 0)) := by
    rw [hW]; exact heap_setCell_at (i := 5) _ (heap_setCell_at (i := 4) _ gB')
  have k0 : κ' (b + 1 + 1) = c := by rw [hκ]; simp
  have k1 : κ' b = c + 1 := by rw [hκ]; simp only; rw [if_neg (by omega), if_pos trivial]
  have k2 : κ' (b + 1) = c + 2 := by rw [hκ]; simp only; rw [if_neg (by omega), if_neg (by omega), if_pos trivial]
  have k3 : ∀ x, x < b → κ' x = κ x := fun x hx => by rw [hκ]; simp only; rw [if_neg (by omega), if_neg (by omega), if_neg (by omega)]
  have t : To No κ κ w W := by
    rw [hW, hC, hB, hA]
    refine ((((((To.refl No κ w).alloc _).alloc _).alloc _).setCell _ (fun h => ?_)).setCell _ (fun h => ?_)).drew <;> · simp only at h; omega
  have sW : W.heap.size = b + 1 + 1 + 1 := by rw [hW, ← sC]; simp
  refine ⟨κ', ⟨b, b + 1, [], [], ⟨by rw [← hb]; exact k0, k1, fun y hy => ?_, ?_, ⟨#[], 0, (ho b (by omega)).trans gA', ⟨stamped_empty 0, rfl, fun _ h => absurd h List.not_mem_nil⟩⟩, List.Perm.refl _, ⟨fun _ => b + 1, fun _ => b + 1, fun y hy => ?_, ⟨rfl, rfl, trivial⟩, by simp⟩, fun _ h => absurd h List.not_mem_nil, Nat.zero_le _, h2⟩, rfl⟩, ⟨t.os, t.tape, t.output, t.size, fun x hx _ => k3 x (by omega), t.blk⟩, fun x hx => ?_⟩
  · rcases List.mem_cons.1 hy with rfl | hy
    · exact k2
    · cases hy
  · rw [← hb, ho _ (by omega)]; exact gC
  · rcases List.mem_cons.1 hy with rfl | hy
    · exact gR
    · cases hy
  · rw [hκ]
    simp only
    rw [if_neg (by omega), if_neg (by omega), if_neg (by omega)]
    exact hz x (by omega)
theorem new_mid2 (n : Nat) (w : World) : ∃ V, Hid (V = ((w.alloc (.map #[] 0)).alloc (.cells #[.int .i64 0, .slice none 0 0, .bool false, .int .i64 0, .pointer none, .pointer none] 149)).alloc (.cells #[.int .i64 (n : Int), .map (some w.heap.size), .pointer (some ⟨w.heap.size + 1, 0, none⟩)] 151)) ∧
    V.cell? ⟨w.heap.size + 1 + 1, 2, none⟩ = some (.pointer (some ⟨w.heap.size + 1, 0, none⟩)) ∧ V.cell? ⟨w.heap.size + 1, 4, none⟩ = some (.pointer none) ∧ V.cell? ⟨w.heap.size + 1, 5, none⟩ = some (.pointer none) ∧ V.frozen? ⟨w.heap.size + 1, 4, none⟩ = false ∧ V.frozen? ⟨w.heap.size + 1, 5, none⟩ = false := by
  obtain ⟨A, hA⟩ : ∃ A, A = w.alloc (.map #[] 0) := ⟨_, rfl⟩
  obtain ⟨B, hB⟩ : ∃ B, B = A.alloc (.cells #[.int .i64 0, .slice none 0 0, .bool false, .int .i64 0, .pointer none, .pointer none] 149) := ⟨_, rfl⟩
  have sA : A.heap.size = w.heap.size + 1 := by rw [hA]; simp
  have sB : B.heap.size = w.heap.size + 1 + 1 := by rw [hB, ← sA]; simp
  have gB : B.heap[w.heap.size + 1]? = some (.cells #[.int .i64 0, .slice none 0 0, .bool false, .int .i64 0, .pointer none, .pointer none] 149 (0, 0)) := by rw [hB, ← sA]; exact heap_alloc_new A _
  refine ⟨_, Hid.mk rfl, ?_⟩
  rw [← hA, ← hB]
  have gC : (B.alloc (.cells #[.int .i64 (n : Int), .map (some w.heap.size), .pointer (some ⟨w.heap.size + 1, 0, none⟩)] 151)).heap[w.heap.size + 1 + 1]? = some (.cells #[.int .i64 (n : Int), .map (some w.heap.size), .pointer (some ⟨w.heap.size + 1, 0, none⟩)] 151 (0, 0)) := by rw [← sB]; exact heap_alloc_new B _
  have gB' : (B.alloc (.cells #[.int .i64 (n : Int), .map (some w.heap.size), .pointer (some ⟨w.heap.size + 1, 0, none⟩)] 151)).heap[w.heap.size + 1]? = _ := (Below.heap_alloc B _ (w.heap.size + 1) (by omega)).trans gB
  exact ⟨cell_at gC rfl, cell_at gB' rfl, cell_at gB' rfl, frozen_at gB', frozen_at gB'⟩
set_option maxRecDepth 100000 in
theorem c_cnew (κ : Nat → Nat) (c n : Nat) (w : World) (hz : Cz κ w) (hc0 : 1 ≤ c) (h1 : 1 ≤ n) (h2 : n ≤ 65536) :
    Calls Tryz.prog 52 #[.int .i64 (n : Int)] w fun e w' => ∃ a, e = .returned (.tuple #[.pointer (some ⟨a, 0, none⟩), .int .i64 0]) ∧ ∃ κ', CacheAt κ' c w' a n [] ∧ To No κ κ' w w' ∧ Cz κ' w' := by
  have hn1 : decide ((n : Int) < 1) = false := decide_eq_false (by omega)
  have hn2 : decide ((n : Int) > 65536) = false := decide_eq_false (by omega)
  have hmm := @run_makeMap Tryz.prog
  have hz' := Hid.mk hz
  have hend := new_end2 κ c n w hz hc0 h2
  clear hz
  go_enter Tryz.func52, Tryz.ntmps52
  go_wp2
  obtain ⟨V, hV, m1, m2, m3, m4, m5⟩ := new_mid2 n w
  rw [← hV.out] at hend ⊢
  have hend' := Hid.mk hend
  clear hend
  go_region_held3 (fun w' => w'.cell? ⟨w.heap.size + 1 + 1, 2, none⟩ = some (.pointer (some ⟨w.heap.size + 1, 0, none⟩))) (go_keep) (fail)
  go_wp2
  go_ret2
  exact ⟨_, rfl, hend'.out _ rfl⟩
end Go.Proofs.YtoacaikopcdkmaaGreat
