/- The drum: a step; what reads one cell. slices.Clone at bytes, sectors, writes. The drum's sectors as cells; Read. No condition. -/
import Derived.Test.YtoacaikopcdkmaaGreatZ04
set_option linter.unusedSimpArgs false
set_option linter.unusedVariables false
namespace Go.Proofs.YtoacaikopcdkmaaGreat
open Go.RowKit Go.Sort
theorem Hid.mk {p : Prop} (h : p) : Hid p := h
theorem pair_ex {α β : Type} (x : α × β) : ∃ a b, Hid (x = (a, b)) := ⟨x.1, x.2, rfl⟩
theorem trip_ex {α β γ : Type} (x : α × β × γ) : ∃ a b c, Hid (x = (a, b, c)) := ⟨x.1, x.2.1, x.2.2, rfl⟩
theorem heap_setCell_at {w : World} {g i : Nat} {cur : Array Value} {t : TypeId} {fr : Nat × Nat} (v : Value) (h : w.heap[g]? = some (.cells cur t fr)) : (w.setCell ⟨g, i, none⟩ v).heap[g]? = some (.cells (cur.setIfInBounds i v) t fr) := by
  rw [setCell_eq_setRow w g i cur t fr v h, setRow_heap _ _ _ _ _ _ h]
theorem cell_at {w : World} {g i : Nat} {cur : Array Value} {t : TypeId} {fr : Nat × Nat} {v : Value} (h : w.heap[g]? = some (.cells cur t fr)) (hv : cur[i]? = some v) : w.cell? ⟨g, i, none⟩ = some v := by
  rw [cell_of_row w g i cur t fr h]; exact hv
theorem frozen_at {w : World} {g i : Nat} {cur : Array Value} {t : TypeId} (h : w.heap[g]? = some (.cells cur t (0, 0))) : w.frozen? ⟨g, i, none⟩ = false := frozen_of_row w g i cur t h
theorem DrumB.upd {κ c w w' a s sc n nc lv} {d d' : Vm.Drum} (h : DrumB κ c w a s sc n nc lv d) (t : To (fun k => k = c) κ κ w w') (e1 : d'.now = d.now) (e2 : d'.safe = d.safe) (e3 : d'.loose = d.loose)
    (hb : w'.heap[a]? = some (.cells #[.slice (some ⟨s, 0, none⟩) d.now.length sc, .slice (some ⟨n, 0, none⟩) d.now.length nc, lv, .int .i64 (wrap64 (d'.steps : Int)), fuseV d'.fuse, .bool d'.down] 106 (0, 0))) :
    DrumB κ c w' a s sc n nc lv d' := by
  refine ⟨h.col, by rw [e1]; exact hb, ?_, ?_, ?_⟩
  · rw [e1, e2]; exact h.safe.to t (by omega)
  · rw [e1]; exact h.now.to t (by omega)
  · rw [e3]; exact h.loose.to t (by omega)
theorem wrap_succ (n : Nat) : wrap64 (wrap64 (n : Int) + 1) = wrap64 ((n + 1 : Nat) : Int) := by
  unfold wrap64
  omega
theorem step_none {d : Vm.Drum} (hd : d.down = false) (hf : d.fuse = none) : d.step = (0, { d with steps := d.steps + 1 }) := by
  unfold Vm.Drum.step; simp [hd, hf]
theorem step_zero {d : Vm.Drum} (hf : d.fuse = some 0) : d.step = (9, { d with down := true }) := by
  unfold Vm.Drum.step; simp [hf]
theorem step_succ {d : Vm.Drum} {k : Nat} (hd : d.down = false) (hf : d.fuse = some (k + 1)) : d.step = (0, { d with steps := d.steps + 1, fuse := some k }) := by
  unfold Vm.Drum.step; simp [hd, hf]
theorem step_down {d : Vm.Drum} (hd : d.down = true) (hf : d.fuse ≠ some 0) : d.step = (9, d) := by
  unfold Vm.Drum.step; simp [hd, hf]
set_option maxRecDepth 100000 in
set_option maxHeartbeats 1600000 in
theorem c_step (κ : Nat → Nat) (c a s sc n nc : Nat) (lv : Value) (d : Vm.Drum) (w : World) (h0 : DrumOk d) (hB : DrumB κ c w a s sc n nc lv d) :
    Calls Tryz.prog 57 #[.pointer (some ⟨a, 0, none⟩)] w fun e w' => e = .returned (.int .i64 (d.step.1 : Int)) ∧ DrumOk d.step.2 ∧ DrumB κ c w' a s sc n nc lv d.step.2 ∧ To (fun k => k = c) κ κ w w' := by
  obtain ⟨F, hF⟩ : ∃ F, Hid (F = fuseV d.fuse) := ⟨_, rfl⟩
  obtain ⟨S, hS⟩ : ∃ S : Int, Hid (S = wrap64 (d.steps : Int)) := ⟨_, rfl⟩
  obtain ⟨D, hD⟩ : ∃ D, Hid (D = d.down) := ⟨_, rfl⟩
  have hb := hB.blk
  rw [← hF.out, ← hS.out, ← hD.out] at hb
  have c3 : w.cell? ⟨a, 3, none⟩ = some (.int .i64 S) := cell_at hb rfl
  have c4 : w.cell? ⟨a, 4, none⟩ = some F := cell_at hb rfl
  have c5 : w.cell? ⟨a, 5, none⟩ = some (.bool D) := cell_at hb rfl
  have f3 : w.frozen? ⟨a, 3, none⟩ = false := frozen_at hb
  have f4 : w.frozen? ⟨a, 4, none⟩ = false := frozen_at hb
  have f5 : w.frozen? ⟨a, 5, none⟩ = false := frozen_at hb
  have hb' : Hid (w.heap[a]? = _) := hb
  have hT : Hid (To (fun k => k = c) κ κ w w) := .refl _ _ _
  have hk : Hid (κ a = c) := hB.col
  have hB' : Hid _ := hB
  have h0' : Hid _ := h0
  clear hB h0 hb
  have dn : D = true → d.fuse ≠ some 0 → d.step = (9, d) := fun h1 h2 => step_down (by rw [← hD.out]; exact h1) h2
  have fin1 : ∀ (d' : Vm.Drum) (C : Array Value) (w' : World), To (fun k => k = c) κ κ w w' → d'.now = d.now → d'.safe = d.safe → d'.loose = d.loose → (∀ k, d'.fuse = some k → k ≤ 1000000) → w'.heap[a]? = some (.cells C 106 (0, 0)) →
      C = #[.slice (some ⟨s, 0, none⟩) d.now.length sc, .slice (some ⟨n, 0, none⟩) d.now.length nc, lv, .int .i64 (wrap64 (d'.steps : Int)), fuseV d'.fuse, .bool d'.down] → DrumOk d' ∧ DrumB κ c w' a s sc n nc lv d' ∧ To (fun k => k = c) κ κ w w' := by
    intro d' C w' t e1 e2 e3 e4 hb hC
    refine ⟨⟨?_, ?_, ?_, ?_, ?_, ?_, e4⟩, hB'.out.upd t e1 e2 e3 (hC ▸ hb), t⟩
    · rw [e1, e2]; exact h0'.out.len
    · rw [e1]; exact h0'.out.pos
    · rw [e1]; exact h0'.out.le
    · rw [e2]; exact h0'.out.ws
    · rw [e1]; exact h0'.out.wn
    · rw [e1, e3]; exact h0'.out.wl
  have fin := Hid.mk fin1
  have dn' := Hid.mk dn
  clear fin1 dn
  have tS : ∀ w1 (o : Nat) (v : Value), To (fun k => k = c) κ κ w w1 → To (fun k => k = c) κ κ w (w1.setCell ⟨a, o, none⟩ v) := fun _ o v h => h.setCell v (fun _ => hk.out)
  have tS' := Hid.mk tS
  clear tS
  have eF := hF.out
  rcases hf : d.fuse with _ | _ | k
  · rw [hf] at eF
    have e : F = .int .i64 (-1) := eF
    subst e
    have hf' := Hid.mk hf
    clear hf eF hF
    cases D
    · have hd' := Hid.mk hD.out.symm
      clear hD
      go_enter Tryz.func57, Tryz.ntmps57
      go_wp2
      go_ret
      rw [step_none hd'.out hf'.out]
      refine ⟨rfl, fin.out _ _ _ (tS'.out _ _ _ hT.out) rfl rfl rfl h0'.out.fu (heap_setCell_at _ hb'.out) ?_⟩
      rw [← wrap_succ, ← hS.out, hf'.out, hd'.out]; rfl
    · have hd' := Hid.mk hD.out.symm
      clear hD
      go_enter Tryz.func57, Tryz.ntmps57
      go_wp2
      go_ret
      rw [dn'.out (by simp) (by rw [hf'.out]; simp)]
      exact ⟨rfl, h0'.out, hB'.out, hT.out⟩
  · rw [hf] at eF
    have e : F = .int .i64 0 := eF
    subst e
    have hf' := Hid.mk hf
    clear hf eF hF
    go_enter Tryz.func57, Tryz.ntmps57
    go_wp2
    go_ret
    rw [step_zero hf'.out]
    refine ⟨rfl, fin.out _ _ _ (tS'.out _ _ _ hT.out) rfl rfl rfl h0'.out.fu (heap_setCell_at _ hb'.out) ?_⟩
    rw [← hS.out, hf'.out]; rfl
  · rw [hf] at eF
    have e : F = .int .i64 ((k + 1 : Nat) : Int) := eF
    subst e
    have hk1 : k + 1 ≤ 1000000 := h0'.out.fu _ hf
    have hf' := Hid.mk hf
    clear hf eF hF
    cases D
    · have hd' := Hid.mk hD.out.symm
      clear hD
      go_enter Tryz.func57, Tryz.ntmps57
      go_wp2
      go_ret
      rw [step_succ hd'.out hf'.out]
      refine ⟨rfl, fin.out _ _ _ (tS'.out _ _ _ (tS'.out _ _ _ hT.out)) rfl rfl rfl (fun j hj => by cases hj; omega) (heap_setCell_at _ (heap_setCell_at _ hb'.out)) ?_⟩
      rw [← wrap_succ, ← hS.out, hd'.out]
      simp [fuseV]
    · have hd' := Hid.mk hD.out.symm
      clear hD
      go_enter Tryz.func57, Tryz.ntmps57
      go_wp2
      go_ret
      rw [dn'.out (by simp) (by rw [hf'.out]; simp)]
      exact ⟨rfl, h0'.out, hB'.out, hT.out⟩
end Go.Proofs.YtoacaikopcdkmaaGreat

namespace Go.Proofs.YtoacaikopcdkmaaGreat
open Go.RowKit Go.Sort
theorem info_sz {t size bytes zs : Nat} (h : (Tryz.prog.info? t).map (fun i => (i.size, i.bytes, i.zero.map fun z => z.cells.size)) = some (size, bytes, some zs)) :
    ∃ i z, Tryz.prog.info? t = some i ∧ i.zero = some z ∧ i.size = size ∧ i.bytes = bytes ∧ z.cells.size = zs := by
  cases hq : Tryz.prog.info? t with
  | none => rw [hq] at h; simp at h
  | some i =>
    rw [hq] at h
    simp only [Option.map_some, Option.some.injEq, Prod.mk.injEq] at h
    cases hz : i.zero with
    | none => rw [hz] at h; simp at h
    | some z => rw [hz] at h; simp at h; exact ⟨i, z, rfl, hz, h.1, h.2.1, h.2.2⟩
set_option maxRecDepth 100000 in
set_option maxHeartbeats 1600000 in
theorem c_clone1 (g o n cap : Nat) (xs : List Value) (w : World) (hn : 0 < n) (hl : xs.length = n * 1) (hx : w.rangeAt g o xs) (h1 : ∀ u ∈ xs, u.oneCell' = true) (hN : n ≤ 1000000000) :
    Calls Tryz.prog 63 #[.slice (some ⟨g, o, none⟩) n cap] w fun e w' => ∃ h c, e = .returned (.slice (some ⟨h, 0, none⟩) n c) ∧ w.heap.size ≤ h ∧ w'.ownsRow w.heap.size 5 1 (.slice (some ⟨h, 0, none⟩) n c) n xs ∧ Below w.heap.size w w' := by
  have hn' : ¬ (n = 0) := by omega
  have q1 : ∀ a l c W, (binOp .eql 22 (.slice a l c) (.slice none 0 0)).run Tryz.prog W = .ok (.bool a.isNone) W := fun a l c W => Lib.run_eql_slice_nil W 22 _ a l c 0 0 Tryz.underlying22
  have hx' := Hid.mk hx
  have hl' := Hid.mk hl
  clear hx hl
  obtain ⟨i0, z, hi, hz0, hz1, hz2, hz3⟩ := info_sz (t := 5) (size := 1) (bytes := 1) (zs := 1) (by kernel_rfl)
  go_enter Tryz.func63, Tryz.ntmps63
  go_wp2_with (at_builtin; refine wpList_append_lies _ rfl _ _ _ rfl w.heap.size 5 i0 z 1 1 Tryz.underlying22 hi hz0 hz1 hz2 hz3 (by omega) (.slice (some ⟨w.heap.size, 0, none⟩) 0 0) 0 [] rfl (World.ownsRow_made w #[] 0 (Nat.le_refl _) (by decide) rfl) ⟨g, o, none⟩ n cap xs rfl hl'.out (fun j u hj => by rw [Addr.add_mid]; exact World.rangeAt_alloc hx'.out _ j u hj) h1 hn (by simp only [maxLen]; omega) (by omega) (by simp) (w.heap.size + 1) (by simp) ?_; intro g1 cap1 w1 hown hgrow hat hlt)
  go_wp2
  go_ret
  rw [Nat.zero_add, List.nil_append] at hown
  have hB : Below w.heap.size w w1 := (Below.alloc (.refl _ _) (Nat.le_refl _) _).grown hgrow (by simp) (fun k hk => by cases hk; exact Nat.le_refl _)
  have hg : w.heap.size ≤ g1 := (hown.lt g1 rfl).1
  exact ⟨g1, cap1, rfl, hg, hown, hB⟩
set_option maxRecDepth 100000 in
set_option maxHeartbeats 1600000 in
theorem c_clone1_nil (w : World) :
    Calls Tryz.prog 63 #[.slice none 0 0] w fun e w' => e = .returned (.slice none 0 0) ∧ w' = w := by
  have q1 : ∀ a l c W, (binOp .eql 22 (.slice a l c) (.slice none 0 0)).run Tryz.prog W = .ok (.bool a.isNone) W := fun a l c W => Lib.run_eql_slice_nil W 22 _ a l c 0 0 Tryz.underlying22
  go_enter Tryz.func63, Tryz.ntmps63
  go_wp2
  go_ret
  exact ⟨rfl, rfl⟩
set_option maxRecDepth 100000 in
set_option maxHeartbeats 1600000 in
theorem c_clone64 (g o n cap : Nat) (xs : List Value) (w : World) (hn : 0 < n) (hl : xs.length = n * 64) (hx : w.rangeAt g o xs) (h1 : ∀ u ∈ xs, u.oneCell' = true) (hN : n ≤ 1000000000) :
    Calls Tryz.prog 78 #[.slice (some ⟨g, o, none⟩) n cap] w fun e w' => ∃ h c, e = .returned (.slice (some ⟨h, 0, none⟩) n c) ∧ w.heap.size ≤ h ∧ w'.ownsRow w.heap.size 108 64 (.slice (some ⟨h, 0, none⟩) n c) n xs ∧ Below w.heap.size w w' := by
  have hn' : ¬ (n = 0) := by omega
  have q1 : ∀ a l c W, (binOp .eql 103 (.slice a l c) (.slice none 0 0)).run Tryz.prog W = .ok (.bool a.isNone) W := fun a l c W => Lib.run_eql_slice_nil W 103 _ a l c 0 0 Tryz.underlying103
  have hx' := Hid.mk hx
  have hl' := Hid.mk hl
  clear hx hl
  obtain ⟨i0, z, hi, hz0, hz1, hz2, hz3⟩ := info_sz (t := 108) (size := 64) (bytes := 64) (zs := 64) (by kernel_rfl)
  go_enter Tryz.func78, Tryz.ntmps78
  go_wp2_with (at_builtin; refine wpList_append_lies _ rfl _ _ _ rfl w.heap.size 108 i0 z 64 64 Tryz.underlying103 hi hz0 hz1 hz2 hz3 (by omega) (.slice (some ⟨w.heap.size, 0, none⟩) 0 0) 0 [] rfl (World.ownsRow_made w #[] 0 (Nat.le_refl _) (by decide) rfl) ⟨g, o, none⟩ n cap xs rfl hl'.out (fun j u hj => by rw [Addr.add_mid]; exact World.rangeAt_alloc hx'.out _ j u hj) h1 hn (by simp only [maxLen]; omega) (by omega) (by simp) (w.heap.size + 1) (by simp) ?_; intro g1 cap1 w1 hown hgrow hat hlt)
  go_wp2
  go_ret
  rw [Nat.zero_add, List.nil_append] at hown
  have hB : Below w.heap.size w w1 := (Below.alloc (.refl _ _) (Nat.le_refl _) _).grown hgrow (by simp) (fun k hk => by cases hk; exact Nat.le_refl _)
  have hg : w.heap.size ≤ g1 := (hown.lt g1 rfl).1
  exact ⟨g1, cap1, rfl, hg, hown, hB⟩
set_option maxRecDepth 100000 in
set_option maxHeartbeats 1600000 in
theorem c_clone64_nil (w : World) :
    Calls Tryz.prog 78 #[.slice none 0 0] w fun e w' => e = .returned (.slice none 0 0) ∧ w' = w := by
  have q1 : ∀ a l c W, (binOp .eql 103 (.slice a l c) (.slice none 0 0)).run Tryz.prog W = .ok (.bool a.isNone) W := fun a l c W => Lib.run_eql_slice_nil W 103 _ a l c 0 0 Tryz.underlying103
  go_enter Tryz.func78, Tryz.ntmps78
  go_wp2
  go_ret
  exact ⟨rfl, rfl⟩
set_option maxRecDepth 100000 in
set_option maxHeartbeats 1600000 in
theorem c_clone65 (g o n cap : Nat) (xs : List Value) (w : World) (hn : 0 < n) (hl : xs.length = n * 65) (hx : w.rangeAt g o xs) (h1 : ∀ u ∈ xs, u.oneCell' = true) (hN : n ≤ 1000000000) :
    Calls Tryz.prog 99 #[.slice (some ⟨g, o, none⟩) n cap] w fun e w' => ∃ h c, e = .returned (.slice (some ⟨h, 0, none⟩) n c) ∧ w.heap.size ≤ h ∧ w'.ownsRow w.heap.size 110 65 (.slice (some ⟨h, 0, none⟩) n c) n xs ∧ Below w.heap.size w w' := by
  have hn' : ¬ (n = 0) := by omega
  have q1 : ∀ a l c W, (binOp .eql 104 (.slice a l c) (.slice none 0 0)).run Tryz.prog W = .ok (.bool a.isNone) W := fun a l c W => Lib.run_eql_slice_nil W 104 _ a l c 0 0 Tryz.underlying104
  have hx' := Hid.mk hx
  have hl' := Hid.mk hl
  clear hx hl
  obtain ⟨i0, z, hi, hz0, hz1, hz2, hz3⟩ := info_sz (t := 110) (size := 65) (bytes := 72) (zs := 65) (by kernel_rfl)
  go_enter Tryz.func99, Tryz.ntmps99
  go_wp2_with (at_builtin; refine wpList_append_lies _ rfl _ _ _ rfl w.heap.size 110 i0 z 65 72 Tryz.underlying104 hi hz0 hz1 hz2 hz3 (by omega) (.slice (some ⟨w.heap.size, 0, none⟩) 0 0) 0 [] rfl (World.ownsRow_made w #[] 0 (Nat.le_refl _) (by decide) rfl) ⟨g, o, none⟩ n cap xs rfl hl'.out (fun j u hj => by rw [Addr.add_mid]; exact World.rangeAt_alloc hx'.out _ j u hj) h1 hn (by simp only [maxLen]; omega) (by omega) (by simp) (w.heap.size + 1) (by simp) ?_; intro g1 cap1 w1 hown hgrow hat hlt)
  go_wp2
  go_ret
  rw [Nat.zero_add, List.nil_append] at hown
  have hB : Below w.heap.size w w1 := (Below.alloc (.refl _ _) (Nat.le_refl _) _).grown hgrow (by simp) (fun k hk => by cases hk; exact Nat.le_refl _)
  have hg : w.heap.size ≤ g1 := (hown.lt g1 rfl).1
  exact ⟨g1, cap1, rfl, hg, hown, hB⟩
set_option maxRecDepth 100000 in
set_option maxHeartbeats 1600000 in
theorem c_clone65_nil (w : World) :
    Calls Tryz.prog 99 #[.slice none 0 0] w fun e w' => e = .returned (.slice none 0 0) ∧ w' = w := by
  have q1 : ∀ a l c W, (binOp .eql 104 (.slice a l c) (.slice none 0 0)).run Tryz.prog W = .ok (.bool a.isNone) W := fun a l c W => Lib.run_eql_slice_nil W 104 _ a l c 0 0 Tryz.underlying104
  go_enter Tryz.func99, Tryz.ntmps99
  go_wp2
  go_ret
  exact ⟨rfl, rfl⟩
end Go.Proofs.YtoacaikopcdkmaaGreat

namespace Go.Proofs.YtoacaikopcdkmaaGreat
open Go.RowKit Go.Sort
theorem rangeAt_part {w : World} {b o : Nat} {xs : List Value} (h : w.rangeAt b o xs) (i m : Nat) : w.rangeAt b (o + i) ((xs.drop i).take m) := fun j v hv => by
  rw [List.getElem?_take] at hv
  split at hv
  · rw [List.getElem?_drop] at hv
    rw [Nat.add_assoc]; exact h _ _ hv
  · cases hv
theorem own_range {w : World} {base e size g n m cap : Nat} {xs : List Value} (h : w.ownsRow base e size (.slice (some ⟨g, 0, none⟩) m cap) n xs) : w.rangeAt g 0 xs := fun j v hv => by
  have := h.cells (g := g) rfl j v hv
  rwa [Addr.add_mid] at this
theorem own_there {w : World} {base e size g n cap : Nat} {xs : List Value} (h : w.ownsRow base e size (.slice (some ⟨g, 0, none⟩) n cap) n xs) (o m : Nat) (hm : o + m ≤ n * size) : w.there g o m := fun j hj => by
  have h1 := h.frozenAt (o + j)
  have h2 := h.cellAt (o + j) (by omega)
  refine ⟨?_, h1⟩
  rw [h2, List.getElem?_eq_getElem (by rw [h.1]; omega)]; rfl
theorem secsC_len {l : List (List UInt8)} (h : ∀ p ∈ l, p.length = 64) : (secsC l).length = l.length * 64 := by
  induction l with
  | nil => rfl
  | cons p l ih =>
    unfold secsC at ih ⊢
    rw [List.flatMap_cons, List.length_append, ih fun q hq => h q (List.mem_cons_of_mem _ hq), byC_len, h p List.mem_cons_self, List.length_cons]
    omega
theorem secsC_get : ∀ {l : List (List UInt8)} (h : ∀ p ∈ l, p.length = 64) {n : Nat} (hn : n < l.length), ((secsC l).drop (n * 64)).take 64 = byC l[n]
  | p :: l, h, 0, _ => by
    unfold secsC
    rw [List.flatMap_cons, Nat.zero_mul, List.drop_zero, List.take_left' (by rw [byC_len, h p List.mem_cons_self])]
    rfl
  | p :: l, h, n + 1, hn => by
    have ih := secsC_get (fun q hq => h q (List.mem_cons_of_mem _ hq)) (n := n) (by simpa using hn)
    unfold secsC at ih ⊢
    have hp : (byC p).length = 64 := by rw [byC_len, h p List.mem_cons_self]
    rw [List.flatMap_cons, List.drop_append, List.drop_of_length_le (by omega), List.nil_append, hp, show (n + 1) * 64 - 64 = n * 64 by omega, ih]
    rfl
theorem secsC_set : ∀ {l : List (List UInt8)} (h : ∀ p ∈ l, p.length = 64) {n : Nat} (hn : n < l.length) (q : List UInt8) (hq : q.length = 64), putL (secsC l) (n * 64) (byC q) = secsC (l.set n q)
  | p :: l, h, 0, _, q, hq => by
    have hp : (byC p).length = 64 := by rw [byC_len, h p List.mem_cons_self]
    unfold putL secsC
    rw [List.flatMap_cons, Nat.zero_mul, List.take_zero, List.nil_append, byC_len, hq, Nat.zero_add, List.drop_left' hp]
    rfl
  | p :: l, h, n + 1, hn, q, hq => by
    have ih := secsC_set (fun q hq => h q (List.mem_cons_of_mem _ hq)) (n := n) (by simpa using hn) q hq
    have hp : (byC p).length = 64 := by rw [byC_len, h p List.mem_cons_self]
    unfold putL secsC at ih ⊢
    rw [byC_len] at ih
    rw [List.flatMap_cons, byC_len, List.take_append, List.take_of_length_le (by omega), List.drop_append, List.drop_of_length_le (by omega), List.nil_append, hp, List.append_assoc, List.append_assoc]
    rw [show (n + 1) * 64 - 64 = n * 64 by omega, show (n + 1) * 64 + q.length - 64 = n * 64 + q.length by omega, ← List.append_assoc ((List.flatMap byC l).take _), ih]
    rfl
theorem getD_at {l : List (List UInt8)} {n : Nat} (hn : n < l.length) : l.getD n [] = l[n] := by simp [List.getD_eq_getElem?_getD, hn]
theorem drum_sec {κ c w a s sc n nc lv} {d : Vm.Drum} (h0 : DrumOk d) (h : DrumB κ c w a s sc n nc lv d) {k : Nat} (hk : k < d.now.length) : w.rangeAt n (k * 64) (byC (d.now.getD k [])) := by
  have := rangeAt_part (own_range h.now.1) (k * 64) 64
  rw [secsC_get h0.wn hk, Nat.zero_add] at this
  rw [getD_at hk]; exact this
theorem step_same (d : Vm.Drum) : d.step.2.now = d.now ∧ d.step.2.safe = d.safe ∧ d.step.2.loose = d.loose ∧ (d.step.1 = 0 ∨ d.step.1 = 9) := by
  unfold Vm.Drum.step
  split <;> simp only <;> split <;> simp
theorem read_eq {d : Vm.Drum} {k : Nat} (hk : k < d.now.length) {er : Nat} {d1 : Vm.Drum} (h : d.step = (er, d1)) : d.read k = if er = 0 then (0, d.now.getD k [], d1) else (er, [], d1) := by
  have hs := step_same d
  rw [h] at hs
  unfold Vm.Drum.read
  rw [if_pos hk, h]
  rcases hs.2.2.2 with e | e <;> simp only at e <;> subst e
  · simp only [if_pos]; rw [hs.1]
  · rfl
theorem own_base {w : World} {base base' e size : Nat} {v : Value} {n : Nat} {xs : List Value} (h : w.ownsRow base e size v n xs) (hb : base' ≤ base) : w.ownsRow base' e size v n xs := by
  refine ⟨h.1, ?_⟩
  rcases h.2 with h | ⟨g, cap, cur, e1, e2, h⟩
  · exact .inl h
  · exact .inr ⟨g, cap, cur, e1, Nat.le_trans hb e2, h⟩
theorem To.one {κ κ' c w w'} (h : To (fun k => k = c) κ κ' w w') : To (Dc c) κ κ' w w' := h.mono fun k e => by subst e; exact ⟨Nat.le_refl _, by omega⟩
set_option maxRecDepth 100000 in
set_option maxHeartbeats 1600000 in
theorem c_read (κ : Nat → Nat) (c a : Nat) (k : Nat) (d : Vm.Drum) (w : World) (hD : DrumAt κ c w a d) :
    Calls Tryz.prog 97 #[.pointer (some ⟨a, 0, none⟩), .int .i64 k] w fun e w' => ∃ v, e = .returned (.tuple #[v, .int .i64 ((d.read k).1 : Int)]) ∧
      w'.ownsRow w.heap.size 5 1 v (d.read k).2.1.length (byC (d.read k).2.1) ∧ DrumAt κ c w' a (d.read k).2.2 ∧ To (Dc c) κ κ w w' := by
  obtain ⟨h0, s, sc, n, nc, lv, hB⟩ := hD
  have h0' := Hid.mk h0
  have hB' := Hid.mk hB
  have hb := hB.blk
  obtain ⟨N, hN⟩ : ∃ N, Hid (N = d.now.length) := ⟨_, rfl⟩
  rw [← hN.out] at hb
  have c1 : w.cell? ⟨a, 1, none⟩ = some (.slice (some ⟨n, 0, none⟩) N nc) := cell_at hb rfl
  have hn1 : N ≤ nc := by
    rcases hB.now.1.2 with h | ⟨g, cp, cur, h, _, _, h2, _⟩
    · exact absurd h.1 (by simp)
    · cases h; rw [hN.out]; exact h2
  have hN2 : N ≤ 16384 := by rw [hN.out]; exact h0.le
  clear h0 hB hb
  by_cases hk : k < N
  · obtain ⟨er, d1, hst⟩ := pair_ex d.step
    have hr := Hid.mk (read_eq (by rw [← hN.out]; exact hk) hst.out)
    have hs := Hid.mk (step_same d)
    have cS : Calls Tryz.prog 57 #[.pointer (some ⟨a, 0, none⟩)] w fun e w' => e = .returned (.int .i64 (er : Int)) ∧ DrumOk d1 ∧ w'.cell? ⟨a, 1, none⟩ = some (.slice (some ⟨n, 0, none⟩) N nc) ∧ Hid (w'.rangeAt n (k * 64) (byC (d.now.getD k []))) ∧ Hid ((byC (d.now.getD k [])).length = 64 * 1) ∧ DrumB κ c w' a s sc n nc lv d1 ∧ To (fun k => k = c) κ κ w w' := by
      refine (c_step κ c a s sc n nc lv d w h0'.out hB'.out).mono ?_
      rintro e w1 ⟨rfl, hO, hS, hT⟩
      have h1 := hS.blk
      rw [hs.out.1, ← hN.out] at h1
      rw [hst.out] at hO hS ⊢
      have h2 := drum_sec hO hS (k := k) (by rw [show d1.now = d.now from by have := hs.out.1; rw [hst.out] at this; exact this, ← hN.out]; exact hk)
      rw [show d1.now = d.now from by have := hs.out.1; rw [hst.out] at this; exact this] at h2
      refine ⟨rfl, hO, cell_at h1 rfl, h2, ?_, hS, hT⟩
      show _ = _
      rw [byC_len, getD_at (by rw [← hN.out]; exact hk)]
      exact h0'.out.wn _ (List.getElem_mem _)
    by_cases he : (er : Int) = 0
    · go_enter Tryz.func97, Tryz.ntmps97
      go_wp2_with (first | (go_at_call 57; refine cS.mono ?_; rintro e w1 ⟨rfl, hO, c1, hR, hl, hS, hT⟩) | (go_at_call 63; refine (c_clone1 n (k * 64) 64 64 (byC (d.now.getD k [])) w1 (by omega) hl.out hR.out (byC_one _) (by omega)).mono ?_; rintro e w2 ⟨g, cp, rfl, hg, hown, hbel⟩))
      go_ret2
      rw [hr.out, if_pos (by omega)]
      have hl' : (d.now.getD k []).length = 64 := by have := hl.out; rw [byC_len] at this; omega
      refine ⟨_, rfl, ?_, DrumAt.to ⟨hO, s, sc, n, nc, lv, hS⟩ (To.of_below No κ hbel) (fun _ _ h => h), hT.one.below hbel hT.size⟩
      rw [hl']
      exact own_base hown hT.size
    · go_enter Tryz.func97, Tryz.ntmps97
      go_wp2_with (go_at_call 57; refine cS.mono ?_; rintro e w1 ⟨rfl, hO, c1, hR, hl, hS, hT⟩)
      go_ret2
      rw [hr.out, if_neg (by omega)]
      refine ⟨_, rfl, ?_, ⟨hO, s, sc, n, nc, lv, hS⟩, hT.one⟩
      exact World.ownsRow_nil _ _ _ _
  · have hr : d.read k = (1, [], d) := by unfold Vm.Drum.read; rw [if_neg (by rw [← hN.out]; exact hk)]
    have hr' := Hid.mk hr
    clear hr
    go_enter Tryz.func97, Tryz.ntmps97
    go_wp2
    go_ret2
    rw [hr'.out]
    exact ⟨_, rfl, World.ownsRow_nil _ _ _ _, ⟨h0'.out, s, sc, n, nc, lv, hB'.out⟩, .refl _ _ _⟩
end Go.Proofs.YtoacaikopcdkmaaGreat
