/- num.Put behind bytes that have room. No condition. -/
import Derived.Test.YtoacaikopcdkmaaGreatZ02
import Derived.Maps.AppendAt
set_option linter.unusedSimpArgs false
set_option linter.unusedVariables false
namespace Go.Proofs.YtoacaikopcdkmaaGreat
open Go.RowKit Go.Sort
def Hid (p : Prop) : Prop := p
theorem Hid.out {p : Prop} (h : Hid p) : p := h
def pb (v : Int) (k t : Nat) : Value := .int .u8 (v / 2 ^ (8 * (k - 1 - t)) % 256)
/-- m bytes are put behind the first n of the row at g. -/
structure PutR (w wr : World) (g n k : Nat) (v : Int) (cur : Array Value) (ty : TypeId) (m : Nat) : Prop where
  gr : w.grownBy wr (some g)
  row : ∃ cm : Array Value, wr.heap[g]? = some (.cells cm ty (0, 0)) ∧ cm.size = cur.size ∧ (∀ j, j < n ∨ n + m ≤ j → cm[j]? = cur[j]?) ∧ ∀ t, t < m → cm[n + t]? = some (pb v k t)
theorem putR_step {w wr : World} {g n k m : Nat} {v : Int} {cur : Array Value} {ty : TypeId} (H : PutR w wr g n k v cur ty m) (hg : g < w.heap.size) (hm : n + m < cur.size) (X : Obj) : PutR w ((wr.alloc X).setCell ⟨g, n + m, none⟩ (pb v k m)) g n k v cur ty (m + 1) := by
  obtain ⟨cm, r1, r2, r3, r4⟩ := H.row
  have hs := H.gr.size
  have ha : (wr.alloc X).heap[g]? = some (.cells cm ty (0, 0)) := by rw [← r1]; exact Below.heap_alloc wr X _ (by omega)
  have e := setCell_eq_setRow (wr.alloc X) g (n + m) cm ty (0, 0) (pb v k m) ha
  refine ⟨⟨H.gr.os, H.gr.tape, H.gr.output, ?_, fun b hb hne => ?_⟩, ⟨cm.setIfInBounds (n + m) (pb v k m), ?_, by simp [r2], fun j hj => ?_, fun t ht => ?_⟩⟩
  · rw [e, setRow_size]; show _ ≤ (wr.heap.push X).size; rw [Array.size_push]; omega
  · rw [e, setRow_other _ _ _ _ (fun h => hne (by rw [h])), Below.heap_alloc wr X _ (by omega)]; exact H.gr.block b hb hne
  · rw [e]; exact setRow_heap _ _ _ _ _ _ ha
  · rw [Array.getElem?_setIfInBounds, if_neg (by omega)]; exact r3 j (by omega)
  · rw [Array.getElem?_setIfInBounds]
    by_cases h : t = m
    · subst h; rw [if_pos rfl, if_pos (by omega)]
    · rw [if_neg (by omega)]; exact r4 t (by omega)
set_option maxRecDepth 100000 in
set_option maxHeartbeats 1600000 in
theorem c_put (g n c k : Nat) (v : Int) (w : World) (h1 : n + k ≤ c) (hk : k ≤ 8) (cur : Array Value) (ty : TypeId) (hgs : g < w.heap.size) (hg : w.heap[g]? = some (.cells cur ty (0, 0))) (hcs : cur.size = c) (hone : ∀ (j : Nat) (u : Value), cur[j]? = some u → u.oneCell' = true) :
    Calls Tryz.prog 67 #[.slice (some ⟨g, 0, none⟩) n c, .int .u64 v, .int .i64 k] w fun e w' => e = .returned (.slice (some ⟨g, 0, none⟩) (n + k) c) ∧ PutR w w' g n k v cur ty k := by
  have hg' : Hid (w.heap[g]? = some (.cells cur ty (0, 0))) := hg
  have hcs' : Hid (cur.size = c) := hcs
  clear hg hcs
  go_enter Tryz.func67, Tryz.ntmps67
  go_wp2
  go_loopw [0, 7] (fun b i wr => ∃ m : Nat, m ≤ k ∧ i = .int .i64 ((k : Int) - 1 - m) ∧ b = .slice (some ⟨g, 0, none⟩) (n + m) c ∧ PutR w wr g n k v cur ty m) (fun b i _ => (intOf i + 2).toNat)
  case atStart => exact ⟨0, Nat.zero_le _, by simp, rfl, ⟨⟨rfl, rfl, rfl, Nat.le_refl _, fun _ _ _ => rfl⟩, ⟨cur, hg'.out, rfl, fun _ _ => rfl, fun t ht => by omega⟩⟩⟩
  case round =>
    obtain ⟨m, hm, rfl, rfl, hR⟩ := hrel
    by_cases hlt : m < k
    · have hge : (0 : Int) ≤ (k : Int) - 1 - m := by omega
      have hlt2 : n + m < c := by omega
      have hst := fun X => putR_step hR hgs (by rw [hcs'.out]; omega) X
      have hne : ∃ u, ∀ X, (wr.alloc X).cell? ⟨g, n + m, none⟩ = some u := by
        obtain ⟨cm, r1, r2, r3, r4⟩ := hR.row
        have hs := hR.gr.size
        have hb : n + m < cm.size := by rw [r2, hcs'.out]; omega
        have hcell : wr.cell? ⟨g, n + m, none⟩ = some cm[n + m] := by
          simp [World.cell?, r1, hb]
        exact ⟨_, fun X => by rw [World.cell?_of_block (Below.heap_alloc wr X _ (by show g < _; omega))]; exact hcell⟩
      have hfr : ∀ X, (wr.alloc X).frozen? ⟨g, n + m, none⟩ = false := fun X => by
        obtain ⟨cm, r1, _⟩ := hR.row
        have hs := hR.gr.size
        exact frozen_of_row _ _ _ cm ty (by rw [← r1]; exact Below.heap_alloc wr X _ (by omega))
      obtain ⟨u, hu⟩ := hne
      go_wp2
      have hpv : Value.int IntKind.u8 (v / 2 ^ (8 * (k - 1 - m)) % 256) = pb v k m := rfl
      refine ⟨⟨m + 1, by omega, by congr 1; omega, rfl, ?_⟩, ?_⟩
      · rw [hpv]; exact hst _
      · simp [intOf]; omega
    · have hmk : m = k := by omega
      subst hmk
      have hlt2 : ¬ ((0 : Int) ≤ (m : Int) - 1 - m) := by omega
      go_wp2
      all_goals (try (go_ret; exact ⟨rfl, hR⟩))
end Go.Proofs.YtoacaikopcdkmaaGreat
