/- Colours of blocks, frames, the drum in memory. No condition. -/
import Derived.Test.YtoacaikopcdkmaaGreatZ03
import Derived.Test.YtoacaikopcdkmaaGreatM
import Derived.Deep.RegionHeld3
import Derived.Deep.MidRow
import Derived.Deep.AppendLies
import Derived.Deep.DrawnRows
import Derived.Deep.RegionLaw
import Derived.IntWalk
set_option linter.unusedSimpArgs false
set_option linter.unusedVariables false
namespace Go.Proofs.YtoacaikopcdkmaaGreat
open Go.RowKit Go.Sort
def byC (p : List UInt8) : List Value := p.map fun b => Value.int .u8 (b.toNat : Int)
theorem byC_len (p : List UInt8) : (byC p).length = p.length := by simp [byC]
theorem byC_app (p q : List UInt8) : byC (p ++ q) = byC p ++ byC q := by simp [byC]
theorem byC_one (p : List UInt8) : ∀ v ∈ byC p, v.oneCell' = true := fun v hv => by
  obtain ⟨b, _, rfl⟩ := List.mem_map.1 hv; rfl
theorem byC_take (p : List UInt8) (n : Nat) : (byC p).take n = byC (p.take n) := by simp [byC]
theorem byC_drop (p : List UInt8) (n : Nat) : (byC p).drop n = byC (p.drop n) := by simp [byC]
/-- Blocks are coloured: only those of colours in S may change, or change colour. -/
structure To (S : Nat → Prop) (κ κ' : Nat → Nat) (w w' : World) : Prop where
  os : w'.os = w.os
  tape : w'.tape = w.tape
  output : w'.output = w.output
  size : w.heap.size ≤ w'.heap.size
  col : ∀ b, b < w.heap.size → ¬ S (κ b) → κ' b = κ b
  blk : ∀ b, b < w.heap.size → ¬ S (κ b) → w'.heap[b]? = w.heap[b]?
/-- Blocks that are not made yet have colour 0. -/
def Cz (κ : Nat → Nat) (w : World) : Prop := ∀ b, w.heap.size ≤ b → κ b = 0
def No : Nat → Prop := fun _ => False
theorem To.refl (S κ w) : To S κ κ w w := ⟨rfl, rfl, rfl, Nat.le_refl _, fun _ _ _ => rfl, fun _ _ _ => rfl⟩
theorem To.trans {S κ κ1 κ2 a b c} (h : To S κ κ1 a b) (k : To S κ1 κ2 b c) : To S κ κ2 a c :=
  ⟨k.os.trans h.os, k.tape.trans h.tape, k.output.trans h.output, Nat.le_trans h.size k.size,
   fun i hi hs => (k.col i (Nat.lt_of_lt_of_le hi h.size) (by rw [h.col i hi hs]; exact hs)).trans (h.col i hi hs),
   fun i hi hs => (k.blk i (Nat.lt_of_lt_of_le hi h.size) (by rw [h.col i hi hs]; exact hs)).trans (h.blk i hi hs)⟩
theorem To.mono {S T : Nat → Prop} {κ κ' w w'} (h : To S κ κ' w w') (hs : ∀ k, S k → T k) : To T κ κ' w w' :=
  ⟨h.os, h.tape, h.output, h.size, fun b hb hn => h.col b hb fun x => hn (hs _ x), fun b hb hn => h.blk b hb fun x => hn (hs _ x)⟩
theorem To.of_below {w w' : World} (S κ) (h : Below w.heap.size w w') : To S κ κ w w' :=
  ⟨h.os, h.tape, h.output, h.size, fun _ _ _ => rfl, fun b hb _ => h.block b hb⟩
theorem To.below {S κ κ' B w w1 w2} (h : To S κ κ' w w1) (k : Below B w1 w2) (hB : w.heap.size ≤ B) : To S κ κ' w w2 :=
  ⟨k.os.trans h.os, k.tape.trans h.tape, k.output.trans h.output, Nat.le_trans h.size k.size, h.col, fun b hb hn => (k.block b (by omega)).trans (h.blk b hb hn)⟩
theorem To.cz {S κ w w'} (h : To S κ κ w w') (z : Cz κ w) : Cz κ w' := fun b hb => z b (Nat.le_trans h.size hb)
theorem To.setCell {S κ κ' w w1} (h : To S κ κ' w w1) {a : Addr} (v : Value) (ha : a.block < w.heap.size → S (κ a.block)) : To S κ κ' w (w1.setCell a v) := by
  refine ⟨h.os, h.tape, h.output, by simpa using h.size, h.col, fun b hb hn => ?_⟩
  have hne : b ≠ a.block := fun e => by subst e; exact hn (ha hb)
  rw [Below.heap_setCell _ _ _ _ hne]
  exact h.blk b hb hn
theorem To.grown {S κ κ' w w1 w2} (h : To S κ κ' w w1) {row : Option Nat} (g : w1.grownBy w2 row) (hr : ∀ k, row = some k → k < w.heap.size → S (κ k)) : To S κ κ' w w2 :=
  ⟨g.os.trans h.os, g.tape.trans h.tape, g.output.trans h.output, Nat.le_trans h.size g.size, h.col, fun b hb hn => (g.block b (Nat.lt_of_lt_of_le hb h.size) (fun e => hn (hr b e.symm hb))).trans (h.blk b hb hn)⟩
theorem To.alloc {S κ κ' w w1} (h : To S κ κ' w w1) (o : Obj) : To S κ κ' w (w1.alloc o) :=
  ⟨h.os, h.tape, h.output, Nat.le_trans h.size (by simp), h.col, fun b hb hn => (Below.heap_alloc w1 o b (Nat.lt_of_lt_of_le hb h.size)).trans (h.blk b hb hn)⟩
theorem To.drew {S κ κ' w w1} (h : To S κ κ' w w1) : To S κ κ' w w1.drew := ⟨h.os, h.tape, h.output, h.size, h.col, h.blk⟩
theorem setCells_os (b : Nat) : ∀ (vs : List Value) (o : Nat) (w : World), (w.setCells b o vs).os = w.os ∧ (w.setCells b o vs).tape = w.tape ∧ (w.setCells b o vs).output = w.output ∧ (w.setCells b o vs).heap.size = w.heap.size
  | [], _, _ => ⟨rfl, rfl, rfl, rfl⟩
  | v :: r, o, w => by
    obtain ⟨h1, h2, h3, h4⟩ := setCells_os b r (o + 1) (w.setCell ⟨b, o, none⟩ v)
    exact ⟨h1.trans rfl, h2.trans rfl, h3.trans rfl, h4.trans (by simp)⟩
theorem setCells_blk (b : Nat) : ∀ (vs : List Value) (o : Nat) (w : World) (k : Nat), k ≠ b → (w.setCells b o vs).heap[k]? = w.heap[k]?
  | [], _, _, _, _ => rfl
  | v :: r, o, w, k, h => by
    rw [World.setCells, setCells_blk b r (o + 1) _ k h]
    exact Below.heap_setCell _ _ _ _ h
/-- Cells stored within a list of cells. -/
def putL {α : Type} (xs : List α) (o : Nat) (vs : List α) : List α := xs.take o ++ vs ++ xs.drop (o + vs.length)
theorem putL_cons (xs : List Value) (o : Nat) (v : Value) (vs : List Value) (h : o < xs.length) : putL (xs.set o v) (o + 1) vs = putL xs o (v :: vs) := by
  unfold putL
  rw [List.length_cons, List.drop_set_of_lt (by omega), show o + 1 + vs.length = o + (vs.length + 1) by omega]
  congr 1
  rw [List.take_set, List.take_succ_eq_append_getElem h, List.set_append_right _ _ (by simp only [List.length_take]; omega)]
  have : (xs.take o).length = o := by simp; omega
  simp [this]
theorem setCells_row (b : Nat) (ty : TypeId) (fr : Nat × Nat) : ∀ (vs : List Value) (o : Nat) (w : World) (xs : List Value), o + vs.length ≤ xs.length → w.heap[b]? = some (.cells xs.toArray ty fr) → (w.setCells b o vs).heap[b]? = some (.cells (putL xs o vs).toArray ty fr)
  | [], o, w, xs, _, h => by simpa [World.setCells, putL] using h
  | v :: r, o, w, xs, hl, h => by
    rw [List.length_cons] at hl
    rw [World.setCells, ← putL_cons xs o v r (by omega)]
    refine setCells_row b ty fr r (o + 1) _ _ (by rw [List.length_set]; omega) ?_
    have e := setCell_eq_setRow w b o xs.toArray ty fr v h
    rw [e, setRow_heap _ _ _ _ _ _ h, List.setIfInBounds_toArray]
theorem To.setCells {S κ κ' w w1} (h : To S κ κ' w w1) (b o : Nat) (vs : List Value) (ha : b < w.heap.size → S (κ b)) : To S κ κ' w (w1.setCells b o vs) := by
  obtain ⟨h1, h2, h3, h4⟩ := setCells_os b vs o w1
  refine ⟨h1.trans h.os, h2.trans h.tape, h3.trans h.output, by rw [h4]; exact h.size, h.col, fun k hb hn => ?_⟩
  have hne : k ≠ b := fun e => by subst e; exact hn (ha hb)
  rw [setCells_blk b vs o w1 k hne]
  exact h.blk k hb hn
/-- An own row of the colour k. -/
def Row (κ : Nat → Nat) (k : Nat) (w : World) (e : TypeId) (size : Nat) (v : Value) (n : Nat) (xs : List Value) : Prop :=
  w.ownsRow 0 e size v n xs ∧ ∀ b, v.ownBlock = some b → κ b = k
theorem Row.to {S κ κ' w w' k e size v n xs} (h : Row κ k w e size v n xs) (t : To S κ κ' w w') (hS : ¬ S k) : Row κ' k w' e size v n xs := by
  obtain ⟨h1, h2⟩ := h
  have hb : ∀ b, v.ownBlock = some b → b < w.heap.size := fun b hb => (h1.lt b hb).2
  refine ⟨⟨h1.1, ?_⟩, fun b hb' => (t.col b (hb b hb') (by rw [h2 b hb']; exact hS)).trans (h2 b hb')⟩
  rcases h1.2 with ⟨r1, r2⟩ | ⟨g, cap, cur, rfl, r1, r2, r3⟩
  · exact .inl ⟨r1, r2⟩
  · refine .inr ⟨g, cap, cur, rfl, r1, ?_, r3⟩
    rw [t.blk g (hb g rfl) (by rw [h2 g rfl]; exact hS)]; exact r2
theorem Row.recol {κ κ' w k e size v n xs} (h : Row κ k w e size v n xs) (hk : ∀ b, b < w.heap.size → κ b = k → κ' b = k) : Row κ' k w e size v n xs :=
  ⟨h.1, fun b hb => hk b (h.1.lt b hb).2 (h.2 b hb)⟩
def secsC (l : List (List UInt8)) : List Value := l.flatMap byC
def looC (l : List (Nat × List UInt8)) : List Value := l.flatMap fun x => Value.int .i64 (x.1 : Int) :: byC x.2
def fuseV : Option Nat → Value
  | none => .int .i64 (-1)
  | some k => .int .i64 (k : Int)
/-- The drum in memory: its struct, its rows. -/
structure DrumB (κ : Nat → Nat) (c : Nat) (w : World) (a s sc n nc : Nat) (lv : Value) (d : Vm.Drum) : Prop where
  col : κ a = c
  blk : w.heap[a]? = some (.cells #[.slice (some ⟨s, 0, none⟩) d.now.length sc, .slice (some ⟨n, 0, none⟩) d.now.length nc, lv, .int .i64 (wrap64 (d.steps : Int)), fuseV d.fuse, .bool d.down] 106 (0, 0))
  safe : Row κ (c + 1) w 108 64 (.slice (some ⟨s, 0, none⟩) d.now.length sc) d.now.length (secsC d.safe)
  now : Row κ (c + 2) w 108 64 (.slice (some ⟨n, 0, none⟩) d.now.length nc) d.now.length (secsC d.now)
  loose : Row κ (c + 3) w 110 65 lv d.loose.length (looC d.loose)
structure DrumOk (d : Vm.Drum) : Prop where
  len : d.safe.length = d.now.length
  pos : 1 ≤ d.now.length
  le : d.now.length ≤ 16384
  ws : ∀ p ∈ d.safe, p.length = 64
  wn : ∀ p ∈ d.now, p.length = 64
  wl : ∀ x ∈ d.loose, x.1 < d.now.length ∧ x.2.length = 64
  fu : ∀ k, d.fuse = some k → k ≤ 1000000
def DrumAt (κ : Nat → Nat) (c : Nat) (w : World) (a : Nat) (d : Vm.Drum) : Prop := DrumOk d ∧ ∃ s sc n nc lv, DrumB κ c w a s sc n nc lv d
def Dc (c : Nat) : Nat → Prop := fun k => c ≤ k ∧ k < c + 4
theorem DrumB.to {S κ κ' c w w' a s sc n nc lv d} (h : DrumB κ c w a s sc n nc lv d) (t : To S κ κ' w w') (hS : ∀ k, Dc c k → ¬ S k) : DrumB κ' c w' a s sc n nc lv d := by
  have ha : a < w.heap.size := (Array.getElem?_eq_some_iff.1 h.blk).1
  have e0 : ¬ S c := hS c ⟨Nat.le_refl _, by omega⟩
  have e1 : ¬ S (κ a) := by rw [h.col]; exact e0
  exact ⟨(t.col a ha e1).trans h.col, (t.blk a ha e1).trans h.blk, h.safe.to t (hS _ ⟨by omega, by omega⟩), h.now.to t (hS _ ⟨by omega, by omega⟩), h.loose.to t (hS _ ⟨by omega, by omega⟩)⟩
theorem DrumAt.to {S κ κ' c w w' a d} (h : DrumAt κ c w a d) (t : To S κ κ' w w') (hS : ∀ k, Dc c k → ¬ S k) : DrumAt κ' c w' a d := by
  obtain ⟨h0, s, sc, n, nc, lv, h⟩ := h
  exact ⟨h0, s, sc, n, nc, lv, h.to t hS⟩
theorem DrumAt.recol {κ κ' c w a d} (h : DrumAt κ c w a d) (hk : ∀ b, b < w.heap.size → Dc c (κ b) → κ' b = κ b) : DrumAt κ' c w a d := by
  obtain ⟨h0, s, sc, n, nc, lv, h⟩ := h
  have ha : a < w.heap.size := (Array.getElem?_eq_some_iff.1 h.blk).1
  have r : ∀ j, j < 4 → ∀ b, b < w.heap.size → κ b = c + j → κ' b = c + j := fun j hj b hb e => (hk b hb ⟨by omega, by omega⟩).trans e
  exact ⟨h0, s, sc, n, nc, lv, ⟨r 0 (by omega) a ha h.col, h.blk, h.safe.recol (r 1 (by omega)), h.now.recol (r 2 (by omega)), h.loose.recol (r 3 (by omega))⟩⟩
end Go.Proofs.YtoacaikopcdkmaaGreat
