/- The drum: Flush. The drum: Sectors, Steps, Loose, Fuse; Crash. The drum: Crash. The drum: New. num.Put: in place, as lists; onto whatever the call owns. num.Of, tape.Sum over lists of bytes. Rows of bytes that are filled from the front. sheet.Lay. No condition. -/
import Derived.Test.YtoacaikopcdkmaaGreatZ07
set_option linter.unusedSimpArgs false
set_option linter.unusedVariables false
namespace Go.Proofs.YtoacaikopcdkmaaGreat
open Go.RowKit Go.Sort
theorem looC_get : ∀ {l : List (Nat × List UInt8)} (h : ∀ x ∈ l, x.2.length = 64) {n : Nat} (hn : n < l.length), ((looC l).drop (n * 65)).take 65 = Value.int .i64 (l[n].1 : Int) :: byC l[n].2
  | x :: l, h, 0, _ => by
    unfold looC
    rw [List.flatMap_cons, Nat.zero_mul, List.drop_zero, List.take_left' (by rw [List.length_cons, byC_len, h x List.mem_cons_self])]
    rfl
  | x :: l, h, n + 1, hn => by
    have ih := looC_get (fun q hq => h q (List.mem_cons_of_mem _ hq)) (n := n) (by simpa using hn)
    unfold looC at ih ⊢
    have hp : (Value.int .i64 (x.1 : Int) :: byC x.2).length = 65 := by rw [List.length_cons, byC_len, h x List.mem_cons_self]
    rw [List.flatMap_cons, List.drop_append, List.drop_of_length_le (by omega), List.nil_append, hp, show (n + 1) * 65 - 65 = n * 65 by omega, ih]
    rfl
theorem there110 (w : World) {m : Nat} (h : m = 65) : (w.alloc (.cells Tryz.zeroCells110 110)).there w.heap.size 0 m := fun j hj => by
  have hz : Tryz.zeroCells110.size = 65 := by kernel_rfl
  have hb : (w.alloc (.cells Tryz.zeroCells110 110)).heap[w.heap.size]? = some (.cells Tryz.zeroCells110 110 (0, 0)) := heap_alloc_new w _
  generalize Tryz.zeroCells110 = Z at *
  refine ⟨?_, frozen_at hb⟩
  rw [cell_of_row _ _ _ _ _ _ hb, Array.getElem?_eq_getElem (by omega)]; rfl
theorem fl_step {κ c w1 wr s sc N S k p} (t : To (fun k => k = c + 1) κ κ w1 wr) (row : Row κ (c + 1) wr 108 64 (.slice (some ⟨s, 0, none⟩) N sc) N (secsC S)) (hw : ∀ q ∈ S, q.length = 64) (hk : k < S.length) (hN : S.length = N) (hp : p.length = 64)
    (w2 : World) (t2 : To (fun k => k = c + 1) κ κ wr w2) (b2 : Below wr.heap.size wr w2) :
    To (fun k => k = c + 1) κ κ w1 (w2.drew.setCells s (k * 64) (byC p)) ∧ Row κ (c + 1) (w2.drew.setCells s (k * 64) (byC p)) 108 64 (.slice (some ⟨s, 0, none⟩) N sc) N (secsC (S.set k p)) := by
  refine ⟨t.trans (t2.drew.setCells _ _ _ (fun _ => row.2 s rfl)), ?_⟩
  rw [← secsC_set hw hk p hp]
  have r2 := row.to (To.of_below No κ b2) (fun h => h)
  exact ⟨own_put (own_drew r2.1) _ _ (by rw [byC_len, hp]; have := Nat.mul_le_mul_right 64 (Nat.succ_le_of_lt hk); omega), r2.2⟩
theorem cell_setCells_far {w : World} {b o : Nat} {vs : List Value} {x : Addr} {v : Value} (h : w.cell? x = some v) (hne : x.block ≠ b) : (w.setCells b o vs).cell? x = some v := by
  rw [World.cell?_of_block (setCells_blk b vs o w x.block hne)]; exact h
theorem setW_len : ∀ (l : List (Nat × List UInt8)) (s : List (List UInt8)), (l.foldl (fun s w => s.set w.1 w.2) s).length = s.length
  | [], s => rfl
  | x :: l, s => by rw [List.foldl_cons, setW_len l]; simp
theorem setW_wid : ∀ (l : List (Nat × List UInt8)) (s : List (List UInt8)), (∀ x ∈ l, x.2.length = 64) → (∀ q ∈ s, q.length = 64) → ∀ q ∈ l.foldl (fun s w => s.set w.1 w.2) s, q.length = 64
  | [], s, _, h => h
  | x :: l, s, hl, h => by
    rw [List.foldl_cons]
    refine setW_wid l _ (fun y hy => hl y (List.mem_cons_of_mem _ hy)) fun q hq => ?_
    rcases List.mem_or_eq_of_mem_set hq with h1 | h1
    · exact h q h1
    · rw [h1]; exact hl x List.mem_cons_self
theorem DrumB.down {κ c w a s sc n nc lv} {d : Vm.Drum} (h : DrumB κ c w a s sc n nc lv d) : a < w.heap.size := (Array.getElem?_eq_some_iff.1 h.blk).1
theorem flush_eq {d : Vm.Drum} {er : Nat} {d1 : Vm.Drum} (h : d.step = (er, d1)) : d.flush = if er = 0 then (0, { d1 with safe := d1.loose.foldl (fun s w => s.set w.1 w.2) d1.safe, loose := [] }) else (er, d1) := by
  have hs := step_same d
  rw [h] at hs
  unfold Vm.Drum.flush
  rw [h]
  rcases hs.2.2.2 with e | e <;> simp only at e <;> subst e <;> rfl
theorem flush_end {κ c w w1 wr a s sc n nc lv} {d1 : Vm.Drum} (hT : To (fun k => k = c) κ κ w w1) (hO : DrumOk d1) (hS : DrumB κ c w1 a s sc n nc lv d1)
    (t : To (fun k => k = c + 1) κ κ w1 wr) (row : Row κ (c + 1) wr 108 64 (.slice (some ⟨s, 0, none⟩) d1.now.length sc) d1.now.length (secsC (d1.loose.foldl (fun s w => s.set w.1 w.2) d1.safe))) :
    DrumAt κ c (wr.setCell ⟨a, 2, none⟩ (.slice none 0 0)) a { d1 with safe := d1.loose.foldl (fun s w => s.set w.1 w.2) d1.safe, loose := [] } ∧ To (Dc c) κ κ w (wr.setCell ⟨a, 2, none⟩ (.slice none 0 0)) := by
  have haC : κ a = c := hS.col
  have tS : To (fun j => j = c) κ κ wr (wr.setCell ⟨a, 2, none⟩ (.slice none 0 0)) := (To.refl _ κ wr).setCell _ (fun _ => haC)
  refine ⟨⟨⟨by simpa [setW_len] using hO.len, hO.pos, hO.le, setW_wid _ _ (fun x hx => (hO.wl x hx).2) hO.ws, hO.wn, fun _ hx => absurd hx List.not_mem_nil, hO.fu⟩, s, sc, n, nc, .slice none 0 0, ?_⟩, ?_⟩
  · refine ⟨haC, ?_, row.to tS (by omega), (hS.now.to t (by omega)).to tS (by omega), ⟨World.ownsRow_nil _ _ _ _, fun b hb => by cases hb⟩⟩
    exact heap_setCell_at (i := 2) _ ((t.blk a hS.down (by omega)).trans hS.blk)
  · exact hT.one.trans ((t.mono fun j e => ⟨by omega, by omega⟩).trans (tS.mono fun j e => ⟨by omega, by omega⟩))
def setW (s : List (List UInt8)) (l : List (Nat × List UInt8)) : List (List UInt8) := l.foldl (fun s w => s.set w.1 w.2) s
/-- The first j writes stand. -/
structure FlI (κ : Nat → Nat) (c : Nat) (w1 wr : World) (s sc N : Nat) (d1 : Vm.Drum) (j : Nat) : Prop where
  t : To (fun k => k = c + 1) κ κ w1 wr
  row : Row κ (c + 1) wr 108 64 (.slice (some ⟨s, 0, none⟩) N sc) N (secsC (setW d1.safe (d1.loose.take j)))
set_option maxRecDepth 100000 in
set_option maxHeartbeats 800000 in
theorem c_flush (κ : Nat → Nat) (c a : Nat) (d : Vm.Drum) (w : World) (hD : DrumAt κ c w a d) :
    Calls Tryz.prog 115 #[.pointer (some ⟨a, 0, none⟩)] w fun e w' => e = .returned (.int .i64 (d.flush.1 : Int)) ∧ DrumAt κ c w' a d.flush.2 ∧ To (Dc c) κ κ w w' := by
  obtain ⟨h0, s, sc, n, nc, lv, hB⟩ := hD
  have h0' := Hid.mk h0
  have hB' := Hid.mk hB
  clear h0 hB
  obtain ⟨er, d1, hst⟩ := pair_ex d.step
  obtain ⟨N, hN⟩ : ∃ N, Hid (N = d1.now.length) := ⟨_, rfl⟩
  obtain ⟨L, hL⟩ : ∃ L, Hid (L = d1.loose.length) := ⟨_, rfl⟩
  have cS : Calls Tryz.prog 57 #[.pointer (some ⟨a, 0, none⟩)] w fun e w' => e = .returned (.int .i64 (er : Int)) ∧ DrumOk d1 ∧ w'.cell? ⟨a, 0, none⟩ = some (.slice (some ⟨s, 0, none⟩) N sc) ∧ w'.cell? ⟨a, 2, none⟩ = some lv ∧ Hid (d1.now = d.now ∧ d1.safe = d.safe ∧ d1.loose = d.loose) ∧ DrumB κ c w' a s sc n nc lv d1 ∧ To (fun k => k = c) κ κ w w' := by
    refine (c_step κ c a s sc n nc lv d w h0'.out hB'.out).mono ?_
    rintro e w1 ⟨rfl, hO, hS, hT⟩
    have h1 := hS.blk
    rw [hst.out] at hO hS h1 ⊢
    simp only at h1
    rw [← hN.out] at h1
    have hsd : Hid (d1.now = d.now ∧ d1.safe = d.safe ∧ d1.loose = d.loose) := by
      have := step_same d; rw [hst.out] at this; exact ⟨this.1, this.2.1, this.2.2.1⟩
    exact ⟨rfl, hO, cell_at h1 rfl, cell_at h1 rfl, hsd, hS, hT⟩
  by_cases he : (er : Int) = 0
  · rcases hB'.out.loose.1.2 with ⟨e1, e2⟩ | ⟨lb, cap, cur, e1, e2⟩
    · subst e1
      have e2' := Hid.mk e2
      clear e2
      go_enter Tryz.func115, Tryz.ntmps115
      go_wp2_with (go_at_call 57; refine cS.mono ?_; rintro e w1 ⟨rfl, hO, c1, c2, hsd, hS, hT⟩)
      go_loopw [18] (fun i wr => i = .int .i64 0 ∧ wr = w1) (fun i _ => 0)
      case atStart => exact ⟨rfl, rfl⟩
      case round =>
        obtain ⟨rfl, rfl⟩ := hrel
        have f2 : wr.frozen? ⟨a, 2, none⟩ = false := frozen_at hS.blk
        go_wp2
        go_ret
        rw [flush_eq hst.out, if_pos (by omega)]
        have hl0 : d1.loose = [] := by rw [hsd.out.2.2]; exact List.eq_nil_of_length_eq_zero e2'.out
        refine ⟨rfl, flush_end hT hO hS (.refl _ _ _) ?_⟩
        rw [hl0]; exact hS.safe
    · subst e1
      have hLm : d.loose.length ≤ 9223372036854775807 := Nat.le_trans e2.2.2.1 e2.2.2.2.1
      go_enter Tryz.func115, Tryz.ntmps115
      go_wp2_with (go_at_call 57; refine cS.mono ?_; rintro e w1 ⟨rfl, hO, c1, c2, hsd, hS, hT⟩)
      have hw1 := hT.size
      go_loopw [18] (fun i wr => ∃ j : Nat, j ≤ d.loose.length ∧ i = .int .i64 (j : Int) ∧ FlI κ c w1 wr s sc N d1 j) (fun i _ => d.loose.length - (intOf i).toNat)
      case atStart => exact ⟨0, Nat.zero_le _, rfl, ⟨.refl _ _ _, by rw [hN.out]; exact hS.safe⟩⟩
      case round =>
        obtain ⟨j, hj, rfl, hI⟩ := hrel
        by_cases hlt : j < d.loose.length
        · have hjL : j < d1.loose.length := by rw [hsd.out.2.2]; exact hlt
          obtain ⟨k, hk⟩ : ∃ k, Hid (k = d1.loose[j].1) := ⟨_, Hid.mk rfl⟩
          obtain ⟨cs, hcs⟩ : ∃ cs, Hid (cs = byC d1.loose[j].2) := ⟨_, Hid.mk rfl⟩
          have hcl : cs.length = 64 := by rw [hcs.out, byC_len]; exact (hO.wl _ (List.getElem_mem hjL)).2
          have hkN : k < N := by rw [hk.out, hN.out]; exact (hO.wl _ (List.getElem_mem hjL)).1
          have hr65 : Hid (wr.rangeAt lb (j * 65) (Value.int .i64 (k : Int) :: cs)) := by
            have h1 := rangeAt_part (own_range (hS.loose.to hI.t (by omega)).1) (j * 65) 65
            rw [looC_get (fun x hx => (hO.wl x hx).2) hjL, Nat.zero_add, ← hk.out, ← hcs.out] at h1
            exact h1
          have h65 : Hid ((Tryz.prog.info? 110).map (·.size) = some (Value.int .i64 (k : Int) :: cs).length) := by
            show _ = _
            rw [List.length_cons, hcl]; kernel_rfl
          have hc1 : Hid (∀ v ∈ (Value.int .i64 (k : Int) :: cs), v.oneCell' = true) := fun u hu => by
            rcases List.mem_cons.1 hu with h | h
            · rw [h]; rfl
            · rw [hcs.out] at h; exact byC_one _ u h
          have h65' : Hid ((Tryz.prog.info? 110).map (·.size) = some (Value.int .i64 (k : Int) :: cs).toArray.size) := by
            show _ = _
            rw [List.size_toArray, List.length_cons, hcl]; kernel_rfl
          have hth : Hid ((wr.alloc (.cells Tryz.zeroCells110 110)).there wr.heap.size 0 (Value.int .i64 (k : Int) :: cs).toArray.size) := there110 wr (by rw [List.size_toArray, List.length_cons, hcl])
          have hc1' := Hid.mk (all_oneCell_toArray hc1.out)
          have hcl' := Hid.mk hcl
          clear hcl
          go_wp2_with (first
            | (with_reducible refine wpList_load_mid (op := ⟨some 21, _, _, _, _, _⟩) rfl 110 (.tmp 20) rfl lb (j * 65) rfl (Value.int .i64 (k : Int) :: cs) _ hr65.out Tryz.underlying110 rfl h65.out ?_)
            | (with_reducible refine wpList_store_mid (op := ⟨none, .store 110 (.tmp 5) (.tmp 21), _, _, _, _⟩) rfl 110 (.tmp 5) (.tmp 21) rfl wr.heap.size 0 (Value.int .i64 (k : Int) :: cs).toArray rfl rfl hth.out h65'.out hc1'.out ?_))
          obtain ⟨w2, hw2⟩ : ∃ w2, Hid (w2 = (wr.alloc (.cells Tryz.zeroCells110 110)).setCells wr.heap.size 0 (Value.int .i64 (k : Int) :: cs)) := ⟨_, Hid.mk rfl⟩
          rw [← hw2.out]
          have t2 : To (fun j => j = c + 1) κ κ wr w2 := by rw [hw2.out]; exact ((To.refl _ κ wr).alloc _).setCells _ _ _ (fun h => absurd h (by omega))
          have b2 : Below wr.heap.size wr w2 := by
            have t0 : To No κ κ wr w2 := by rw [hw2.out]; exact ((To.refl _ κ wr).alloc _).setCells _ _ _ (fun h => absurd h (by omega))
            exact ⟨t0.os, t0.tape, t0.output, t0.size, fun b hb => t0.blk b hb (fun h => h)⟩
          have hr2 : w2.rangeAt wr.heap.size 0 (Value.int .i64 (k : Int) :: cs) := by
            rw [hw2.out]
            exact World.rangeAt_setCells_same _ _ _ _ (there110 wr (by rw [List.length_cons, hcl'.out]))
          have hH0 : w2.cell? ⟨wr.heap.size, 0, none⟩ = some (.int .i64 (k : Int)) := hr2 0 _ rfl
          have hH1 : w2.rangeAt wr.heap.size 1 cs := fun i v hv => by
            have := hr2 (i + 1) v hv
            rwa [Nat.zero_add, Nat.add_comm] at this
          have ha1 : a < w1.heap.size := (Array.getElem?_eq_some_iff.1 hS.blk).1
          have hsr : s < wr.heap.size := (hI.row.1.lt s rfl).2
          have har : a < wr.heap.size := Nat.lt_of_lt_of_le ha1 hI.t.size
          have c12 : w2.cell? ⟨a, 0, none⟩ = some (.slice (some ⟨s, 0, none⟩) N sc) := by
            rw [World.cell?_of_block (b2.block a har), World.cell?_of_block (hI.t.blk a ha1 (by rw [hS.col]; omega))]; exact c1
          have hth2 : w2.there s (k * 64) 64 := fun i hi => by
            have := own_there hI.row.1 (k * 64) 64 (by have := Nat.mul_le_mul_right 64 (Nat.succ_le_of_lt hkN); omega) i hi
            rw [b2.cell (p := ⟨s, k * 64 + i, none⟩) hsr, b2.frozen (p := ⟨s, k * 64 + i, none⟩) hsr]
            exact this
          have has : a ≠ s := fun e => by
            have h1 := hS.col
            have h2 := hS.safe.2 s rfl
            rw [e] at h1; omega
          have hHs : wr.heap.size ≠ s := by omega
          have hcl := hcl'.out
          have hu := Tryz.underlying108
          have hi : (Tryz.prog.info? 108).map (·.size) = some cs.length := by rw [hcl]; kernel_rfl
          have hone : ∀ v ∈ cs, v.oneCell' = true := fun v hv => hc1.out v (List.mem_cons_of_mem _ hv)
          have hk0 : (0 : Int) ≤ (k : Int) := Int.natCast_nonneg _
          have hkN' : (k : Int) < (N : Int) := by omega
          clear hr2 c1 c2
          go_region_held3 (fun w' => w'.cell? ⟨a, 0, none⟩ = some (.slice (some ⟨s, 0, none⟩) N sc) ∧ w'.cell? ⟨wr.heap.size, 0, none⟩ = some (.int .i64 (k : Int)) ∧ w'.rangeAt wr.heap.size 1 cs ∧ w'.there s (k * 64) 64) (first | go_keep | go_keep_ranges | (go_split_ands; exact ⟨cell_setCells_far (by first | assumption | (simp only [World.cell?_drew]; assumption)) has, cell_setCells_far (by first | assumption | (simp only [World.cell?_drew]; assumption)) hHs, World.rangeAt_setCells_apart (by first | assumption | (simp only [World.rangeAt_drew]; assumption)) _ _ _ (by left; omega), World.there_setCells (by first | assumption | (simp only [World.there_drew]; assumption)) _ _ _⟩)) (fail)
          go_wp2
          go_roundw
          case rel =>
            have hSl : (setW d1.safe (d1.loose.take j)).length = N := by unfold setW; rw [setW_len, hO.len, hN.out]
            have hst1 := fl_step hI.t hI.row (setW_wid _ _ (fun x hx => (hO.wl x (List.mem_of_mem_take hx)).2) hO.ws) (k := k) (p := d1.loose[j].2) (by omega) hSl (hO.wl _ (List.getElem_mem hjL)).2 w2 t2 b2
            rw [← hcs.out] at hst1
            refine ⟨j + 1, hlt, by go_num, hst1.1, ?_⟩
            rw [List.take_succ_eq_append_getElem hjL]
            unfold setW
            rw [List.foldl_append]
            simp only [List.foldl_cons, List.foldl_nil, ← hk.out]
            exact hst1.2
          case measure => simp [intOf]; omega
        · have hjE : j = d.loose.length := by omega
          have hI' := Hid.mk hI
          have ha1 : a < w1.heap.size := (Array.getElem?_eq_some_iff.1 hS.blk).1
          have hbr : wr.heap[a]? = w1.heap[a]? := hI.t.blk a ha1 (by rw [hS.col]; omega)
          have hbr' := Hid.mk (hbr.trans hS.blk)
          have cr2 : wr.cell? ⟨a, 2, none⟩ = some (.slice (some ⟨lb, 0, none⟩) d.loose.length cap) := (World.cell?_of_block hbr).trans c2
          have fr2 : wr.frozen? ⟨a, 2, none⟩ = false := (World.frozen?_of_block hbr).trans (frozen_at hS.blk)
          have hjE' := Hid.mk hjE
          clear hI hbr hjE c1 c2
          go_wp2
          go_ret
          rw [flush_eq hst.out, if_pos (by omega)]
          have hr := hI'.out.row
          rw [List.take_of_length_le (by rw [hsd.out.2.2, hjE'.out]; omega), hN.out] at hr
          exact ⟨rfl, flush_end hT hO hS hI'.out.t hr⟩
  · go_enter Tryz.func115, Tryz.ntmps115
    go_wp2_with (go_at_call 57; refine cS.mono ?_; rintro e w1 ⟨rfl, hO, c1, c2, hsd, hS, hT⟩)
    go_ret
    rw [flush_eq hst.out, if_neg (by omega)]
    exact ⟨rfl, ⟨hO, s, sc, n, nc, lv, hS⟩, hT.one⟩
end Go.Proofs.YtoacaikopcdkmaaGreat

namespace Go.Proofs.YtoacaikopcdkmaaGreat
open Go.RowKit Go.Sort
theorem c_sectors (κ : Nat → Nat) (c a : Nat) (d : Vm.Drum) (w : World) (hD : DrumAt κ c w a d) :
    Calls Tryz.prog 51 #[.pointer (some ⟨a, 0, none⟩)] w fun e w' => e = .returned (.int .i64 (d.now.length : Int)) ∧ w' = w := by
  obtain ⟨h0, s, sc, n, nc, lv, hB⟩ := hD
  have c1 : w.cell? ⟨a, 1, none⟩ = some (.slice (some ⟨n, 0, none⟩) d.now.length nc) := cell_at hB.blk rfl
  clear h0 hB
  go_enter Tryz.func51, Tryz.ntmps51
  go_wp2
  go_ret
  exact ⟨rfl, rfl⟩
theorem c_steps (κ : Nat → Nat) (c a : Nat) (d : Vm.Drum) (w : World) (hD : DrumAt κ c w a d) :
    Calls Tryz.prog 14 #[.pointer (some ⟨a, 0, none⟩)] w fun e w' => e = .returned (.int .i64 (wrap64 (d.steps : Int))) ∧ w' = w := by
  obtain ⟨h0, s, sc, n, nc, lv, hB⟩ := hD
  have c1 : w.cell? ⟨a, 3, none⟩ = some (.int .i64 (wrap64 (d.steps : Int))) := cell_at hB.blk rfl
  clear h0 hB
  go_enter Tryz.func14, Tryz.ntmps14
  go_wp2
  go_ret
  exact ⟨rfl, rfl⟩
theorem c_loose (κ : Nat → Nat) (c a : Nat) (d : Vm.Drum) (w : World) (hD : DrumAt κ c w a d) :
    Calls Tryz.prog 35 #[.pointer (some ⟨a, 0, none⟩)] w fun e w' => e = .returned (.int .i64 (d.loose.length : Int)) ∧ w' = w := by
  obtain ⟨h0, s, sc, n, nc, lv, hB⟩ := hD
  have c1 : w.cell? ⟨a, 2, none⟩ = some lv := cell_at hB.blk rfl
  rcases hB.loose.1.2 with ⟨rfl, e2⟩ | ⟨lb, cap, cur, rfl, e2⟩
  · have e2' := Hid.mk e2
    clear h0 hB e2
    go_enter Tryz.func35, Tryz.ntmps35
    go_wp2
    go_ret
    exact ⟨by rw [e2'.out]; rfl, rfl⟩
  · clear h0 hB e2
    go_enter Tryz.func35, Tryz.ntmps35
    go_wp2
    go_ret
    exact ⟨rfl, rfl⟩
theorem c_fuse (κ : Nat → Nat) (c a k : Nat) (hk : k ≤ 1000000) (d : Vm.Drum) (w : World) (hD : DrumAt κ c w a d) :
    Calls Tryz.prog 48 #[.pointer (some ⟨a, 0, none⟩), .int .i64 (k : Int)] w fun e w' => e = .returned (.int .i64 0) ∧ DrumAt κ c w' a { d with fuse := some k } ∧ To (Dc c) κ κ w w' := by
  obtain ⟨h0, s, sc, n, nc, lv, hB⟩ := hD
  have c1 : w.cell? ⟨a, 4, none⟩ = some (fuseV d.fuse) := cell_at hB.blk rfl
  have f1 : w.frozen? ⟨a, 4, none⟩ = false := frozen_at hB.blk
  generalize fuseV d.fuse = F at c1
  have hB' := Hid.mk hB
  have h0' := Hid.mk h0
  clear h0 hB
  go_enter Tryz.func48, Tryz.ntmps48
  go_wp2
  go_ret
  have t : To (fun j => j = c) κ κ w (w.setCell ⟨a, 4, none⟩ (.int .i64 (k : Int))) := (To.refl _ κ w).setCell _ (fun _ => hB'.out.col)
  refine ⟨rfl, ⟨⟨h0'.out.len, h0'.out.pos, h0'.out.le, h0'.out.ws, h0'.out.wn, h0'.out.wl, fun j hj => by cases hj; exact hk⟩, s, sc, n, nc, lv, ?_⟩, t.one⟩
  exact hB'.out.upd t rfl rfl rfl (heap_setCell_at (i := 4) _ hB'.out.blk)
/-- What a crash keeps. -/
def keptW (keep : List Bool) (s : List (List UInt8)) (l : List (Nat × List UInt8)) (i : Nat) : List (List UInt8) := (l.zipIdx i).foldl (fun s w => if keep.getD w.2 false then s.set w.1.1 w.1.2 else s) s
theorem keptW_snoc (keep : List Bool) (s : List (List UInt8)) (l : List (Nat × List UInt8)) (j : Nat) (h : j < l.length) : keptW keep s (l.take (j + 1)) 0 = if keep.getD j false then (keptW keep s (l.take j) 0).set l[j].1 l[j].2 else keptW keep s (l.take j) 0 := by
  unfold keptW
  rw [List.take_succ_eq_append_getElem h, List.zipIdx_append, List.foldl_append]
  simp only [List.zipIdx_cons, List.zipIdx_nil, List.foldl_cons, List.foldl_nil, List.length_take, Nat.zero_add]
  rw [Nat.min_eq_left (by omega)]
theorem keptW_len (keep : List Bool) : ∀ (l : List (Nat × List UInt8)) (s : List (List UInt8)) (i : Nat), (keptW keep s l i).length = s.length
  | [], s, i => rfl
  | x :: l, s, i => by
    have ih := fun s' => keptW_len keep l s' (i + 1)
    unfold keptW at ih ⊢
    rw [List.zipIdx_cons, List.foldl_cons, ih]
    split <;> simp
theorem keptW_wid (keep : List Bool) : ∀ (l : List (Nat × List UInt8)) (s : List (List UInt8)) (i : Nat), (∀ x ∈ l, x.2.length = 64) → (∀ q ∈ s, q.length = 64) → ∀ q ∈ keptW keep s l i, q.length = 64
  | [], s, _, _, h => h
  | x :: l, s, i, hl, h => by
    have ih := fun s' => keptW_wid keep l s' (i + 1) (fun y hy => hl y (List.mem_cons_of_mem _ hy))
    unfold keptW at ih ⊢
    rw [List.zipIdx_cons, List.foldl_cons]
    refine ih _ fun q hq => ?_
    split at hq
    · rcases List.mem_or_eq_of_mem_set hq with h1 | h1
      · exact h q h1
      · rw [h1]; exact hl x List.mem_cons_self
    · exact h q hq
/-- Flags that a call is handed. -/
def BoolsAt (κ : Nat → Nat) (w : World) (ka : Option Addr) (keep : List Bool) : Prop := 0 < keep.length → ∃ g o, ka = some ⟨g, o, none⟩ ∧ w.rangeAt g o (keep.map .bool) ∧ κ g = 0
end Go.Proofs.YtoacaikopcdkmaaGreat

namespace Go.Proofs.YtoacaikopcdkmaaGreat
open Go.RowKit Go.Sort
theorem crash_eq (d : Vm.Drum) (keep : List Bool) : d.crash keep = { d with safe := keptW keep d.safe d.loose 0, now := keptW keep d.safe d.loose 0, loose := [], fuse := none, down := false } := rfl
/-- The first j writes stand, if they are kept. -/
structure CrI (κ : Nat → Nat) (c : Nat) (w wr : World) (s sc N : Nat) (d : Vm.Drum) (keep : List Bool) (j : Nat) : Prop where
  t : To (fun k => k = c + 1) κ κ w wr
  row : Row κ (c + 1) wr 108 64 (.slice (some ⟨s, 0, none⟩) N sc) N (secsC (keptW keep d.safe (d.loose.take j) 0))
theorem crash_end {κ c w wr w2 a s sc n nc lv h hc} {d : Vm.Drum} {keep : List Bool} (hz : Cz κ w) (hO : DrumOk d) (hS : DrumB κ c w a s sc n nc lv d)
    (hI : CrI κ c w wr s sc d.now.length d keep d.loose.length) (hh : wr.heap.size ≤ h) (hown : w2.ownsRow wr.heap.size 108 64 (.slice (some ⟨h, 0, none⟩) d.now.length hc) d.now.length (secsC (keptW keep d.safe d.loose 0))) (hbel : Below wr.heap.size wr w2)
    (w5 : World) (hw5 : w5 = ((((w2.setCell ⟨a, 1, none⟩ (.slice (some ⟨h, 0, none⟩) d.now.length hc)).setCell ⟨a, 2, none⟩ (.slice none 0 0)).setCell ⟨a, 4, none⟩ (.int .i64 (-1))).setCell ⟨a, 5, none⟩ (.bool false))) :
    ∃ κ', DrumAt κ' c w5 a (d.crash keep) ∧ To (Dc c) κ κ' w w5 ∧ Cz κ' w5 := by
  obtain ⟨t, row⟩ := hI
  rw [List.take_length] at row
  have haC : κ a = c := hS.col
  obtain ⟨κ', hκ⟩ : ∃ κ' : Nat → Nat, κ' = fun b => if b = h then c + 2 else κ b := ⟨_, rfl⟩
  have k1 : ∀ b, b ≠ h → κ' b = κ b := fun b e => by rw [hκ]; exact if_neg e
  have k2 : κ' h = c + 2 := by rw [hκ]; exact if_pos rfl
  have ha : a < w.heap.size := hS.down
  have hs3 : s < wr.heap.size := (row.1.lt s rfl).2
  have tsz := t.size
  have t2 : To No κ κ wr w2 := To.of_below _ _ hbel
  have t5 : To (fun j => j = c) κ κ w2 w5 := by
    rw [hw5]
    exact ((((To.refl _ κ w2).setCell _ (fun _ => haC)).setCell _ (fun _ => haC)).setCell _ (fun _ => haC)).setCell _ (fun _ => haC)
  have hlt : h < w2.heap.size := (hown.lt h rfl).2
  have hl : (keptW keep d.safe d.loose 0).length = d.now.length := by rw [keptW_len, hO.len]
  have hW := keptW_wid keep d.loose d.safe 0 (fun x hx => (hO.wl x hx).2) hO.ws
  have bb : w5.heap[a]? = some (.cells #[.slice (some ⟨s, 0, none⟩) d.now.length sc, .slice (some ⟨h, 0, none⟩) d.now.length hc, .slice none 0 0, .int .i64 (wrap64 (d.steps : Int)), .int .i64 (-1), .bool false] 106 (0, 0)) := by
    rw [hw5]
    exact heap_setCell_at (i := 5) _ (heap_setCell_at (i := 4) _ (heap_setCell_at (i := 2) _ (heap_setCell_at (i := 1) _ ((hbel.block a (by omega)).trans ((t.blk a ha (by omega)).trans hS.blk)))))
  have tt : To (Dc c) κ κ w w5 := ((t.mono fun j e => ⟨by omega, by omega⟩).trans (t2.mono fun j e => e.elim)).trans (t5.mono fun j e => ⟨by omega, by omega⟩)
  rw [crash_eq]
  refine ⟨κ', ⟨⟨rfl, ?_, ?_, hW, hW, fun _ hx => absurd hx List.not_mem_nil, fun k hk => by cases hk⟩, s, sc, h, hc, .slice none 0 0, ?_, ?_, ?_, ?_, ⟨World.ownsRow_nil _ _ _ _, fun b hb => by cases hb⟩⟩, ?_, ?_⟩
  · rw [hl]; exact hO.pos
  · rw [hl]; exact hO.le
  · rw [k1 a (by omega)]; exact haC
  · simp only [hl]; exact bb
  · simp only [hl]
    have r := (row.to t2 (fun e => e)).to t5 (by omega)
    exact r.recol fun b hb e => by
      by_cases hbh : b = h
      · subst hbh; have := (t.cz hz) b hh; omega
      · rw [k1 b hbh]; exact e
  · simp only [hl]
    have r : Row κ' (c + 2) w2 108 64 (.slice (some ⟨h, 0, none⟩) d.now.length hc) d.now.length (secsC (keptW keep d.safe d.loose 0)) := ⟨own_base hown (Nat.zero_le _), fun b hb => by cases hb; exact k2⟩
    have t5' : To (fun j => j = c) κ' κ' w2 w5 := by
      have e : κ' a = c := by rw [k1 a (by omega)]; exact haC
      rw [hw5]
      exact ((((To.refl _ κ' w2).setCell _ (fun _ => e)).setCell _ (fun _ => e)).setCell _ (fun _ => e)).setCell _ (fun _ => e)
    exact r.to t5' (by omega)
  · refine ⟨tt.os, tt.tape, tt.output, tt.size, fun b hb hn => k1 b (by omega), tt.blk⟩
  · intro b hb
    have := t5.size
    rw [k1 b (by omega)]
    exact tt.cz hz b hb
set_option maxRecDepth 100000 in
set_option maxHeartbeats 800000 in
theorem c_crash (κ : Nat → Nat) (c a : Nat) (d : Vm.Drum) (w : World) (hD : DrumAt κ c w a d) (hz : Cz κ w) (hc0 : 1 ≤ c) (ka : Option Addr) (keep : List Bool) (kc : Nat) (hK : BoolsAt κ w ka keep) (hkc : keep.length ≤ kc) (hkm : keep.length ≤ 9223372036854775807) :
    Calls Tryz.prog 30 #[.pointer (some ⟨a, 0, none⟩), .slice ka keep.length kc] w fun e w' => e = .returned (.int .i64 0) ∧ ∃ κ', DrumAt κ' c w' a (d.crash keep) ∧ To (Dc c) κ κ' w w' ∧ Cz κ' w' := by
  obtain ⟨h0, s, sc, n, nc, lv, hB⟩ := hD
  have hO := Hid.mk h0
  have hS := Hid.mk hB
  have hz' := Hid.mk hz
  have hK' := Hid.mk hK
  clear hz hK
  obtain ⟨N, hN⟩ : ∃ N, Hid (N = d.now.length) := ⟨_, rfl⟩
  have hb := hB.blk
  rw [← hN.out] at hb
  have c0 : w.cell? ⟨a, 0, none⟩ = some (.slice (some ⟨s, 0, none⟩) N sc) := cell_at hb rfl
  have c2 : w.cell? ⟨a, 2, none⟩ = some lv := cell_at hb rfl
  have ha1 : a < w.heap.size := hB.down
  have hN1 : N ≤ 16384 := by rw [hN.out]; exact h0.le
  have hN0 : 0 < N := by rw [hN.out]; exact h0.pos
  clear hb h0 hB
  have haC : Hid (κ a = c) := hS.out.col
  have hlv : ∃ la lc, lv = .slice la d.loose.length lc ∧ d.loose.length ≤ 9223372036854775807 ∧ d.loose.length ≤ lc ∧ (0 < d.loose.length → ∃ lb, la = some ⟨lb, 0, none⟩) := by
    rcases hS.out.loose.1.2 with ⟨e1, e2⟩ | ⟨lb, cap, cur, e1, e2, e3, e4, e5, e6⟩
    · exact ⟨none, 0, by rw [e1, e2], by omega, by omega, fun h => by omega⟩
    · exact ⟨some ⟨lb, 0, none⟩, cap, e1, Nat.le_trans e4 e5, e4, fun _ => ⟨lb, rfl⟩⟩
  obtain ⟨la, lc, rfl, hLm, hLc, hla⟩ := hlv
  obtain ⟨L, hL⟩ : ∃ L, Hid (L = d.loose.length) := ⟨_, Hid.mk rfl⟩
  obtain ⟨Kn, hKn⟩ : ∃ Kn, Hid (Kn = keep.length) := ⟨_, Hid.mk rfl⟩
  rw [← hL.out] at c2 hLm hLc hla
  rw [← hKn.out] at hkc hkm ⊢
  have hla' := Hid.mk hla
  clear hla
  go_enter Tryz.func30, Tryz.ntmps30
  go_wp2
  go_loopw [14] (fun i wr => ∃ j : Nat, j ≤ L ∧ i = .int .i64 (j : Int) ∧ CrI κ c w wr s sc N d keep j) (fun i _ => L - (intOf i).toNat)
  case atStart => exact ⟨0, Nat.zero_le _, rfl, ⟨.refl _ _ _, by rw [hN.out]; exact hS.out.safe⟩⟩
  case round =>
    obtain ⟨j, hj, rfl, hI⟩ := hrel
    by_cases hlt : j < L
    · obtain ⟨lb, rfl⟩ := hla'.out (by omega)
      have hjL : j < d.loose.length := by rw [← hL.out]; exact hlt
      obtain ⟨k, hk⟩ : ∃ k, Hid (k = d.loose[j].1) := ⟨_, Hid.mk rfl⟩
      obtain ⟨cs, hcs⟩ : ∃ cs, Hid (cs = byC d.loose[j].2) := ⟨_, Hid.mk rfl⟩
      have hcl : cs.length = 64 := by rw [hcs.out, byC_len]; exact (hO.out.wl _ (List.getElem_mem hjL)).2
      have hkN : k < N := by rw [hk.out, hN.out]; exact (hO.out.wl _ (List.getElem_mem hjL)).1
      have hr65 : Hid (wr.rangeAt lb (j * 65) (Value.int .i64 (k : Int) :: cs)) := by
        have h1 := rangeAt_part (own_range (hS.out.loose.to hI.t (by omega)).1) (j * 65) 65
        rw [looC_get (fun x hx => (hO.out.wl x hx).2) hjL, Nat.zero_add, ← hk.out, ← hcs.out] at h1
        exact h1
      have h65 : Hid ((Tryz.prog.info? 110).map (·.size) = some (Value.int .i64 (k : Int) :: cs).length) := by
        show _ = _
        rw [List.length_cons, hcl]; kernel_rfl
      have hc1 : Hid (∀ v ∈ (Value.int .i64 (k : Int) :: cs), v.oneCell' = true) := fun u hu => by
        rcases List.mem_cons.1 hu with h | h
        · rw [h]; rfl
        · rw [hcs.out] at h; exact byC_one _ u h
      have h65' : Hid ((Tryz.prog.info? 110).map (·.size) = some (Value.int .i64 (k : Int) :: cs).toArray.size) := by
        show _ = _
        rw [List.size_toArray, List.length_cons, hcl]; kernel_rfl
      have hth : Hid ((wr.alloc (.cells Tryz.zeroCells110 110)).there wr.heap.size 0 (Value.int .i64 (k : Int) :: cs).toArray.size) := there110 wr (by rw [List.size_toArray, List.length_cons, hcl])
      have hc1' := Hid.mk (all_oneCell_toArray hc1.out)
      have hcl' := Hid.mk hcl
      clear hcl
      -- the flag
      obtain ⟨kb, hkb⟩ : ∃ kb, Hid (kb = keep.getD j false) := ⟨_, Hid.mk rfl⟩
      have hfl : Kn ≤ j ∧ kb = false ∨ j < Kn ∧ ∃ g o, ka = some ⟨g, o, none⟩ ∧ ∀ (w' : World), To (fun k => k = c + 1) κ κ w w' → w'.cell? ⟨g, o + j, none⟩ = some (.bool kb) := by
        by_cases h : j < Kn
        · refine .inr ⟨h, ?_⟩
          rw [hKn.out] at h
          obtain ⟨g, o, e1, e2, e3⟩ := hK'.out (by omega)
          refine ⟨g, o, e1, fun w' t => ?_⟩
          have h1 := e2 j (.bool keep[j]) (by rw [List.getElem?_map, List.getElem?_eq_getElem h]; rfl)
          rw [World.cell?_of_block (t.blk g (World.block_lt_of_cell? w _ h1) (by omega)), h1, hkb.out, List.getD_eq_getElem?_getD, List.getElem?_eq_getElem h]
          rfl
        · refine .inl ⟨by omega, ?_⟩
          rw [hkb.out, List.getD_eq_getElem?_getD, List.getElem?_eq_none (by rw [← hKn.out]; omega)]; rfl
      have hhead : ∀ w2 : World, w2 = (wr.alloc (.cells Tryz.zeroCells110 110)).setCells wr.heap.size 0 (Value.int .i64 (k : Int) :: cs) → To (fun k => k = c + 1) κ κ wr w2 ∧ Below wr.heap.size wr w2 := fun w2 hw2 => by
        refine ⟨by rw [hw2]; exact ((To.refl _ κ wr).alloc _).setCells _ _ _ (fun h => absurd h (by omega)), ?_⟩
        have t0 : To No κ κ wr w2 := by rw [hw2]; exact ((To.refl _ κ wr).alloc _).setCells _ _ _ (fun h => absurd h (by omega))
        exact ⟨t0.os, t0.tape, t0.output, t0.size, fun b hb => t0.blk b hb (fun h => h)⟩
      have hhead' := Hid.mk hhead
      clear hhead
      rcases hfl with ⟨hge, rfl⟩ | ⟨hlt2, g, o, rfl, hfc⟩
      · have hge' : ¬ ((j : Int) < (Kn : Int)) := by omega
        go_wp2_with (first
          | (with_reducible refine wpList_load_mid (op := ⟨some 18, _, _, _, _, _⟩) rfl 110 (.tmp 17) rfl lb (j * 65) rfl (Value.int .i64 (k : Int) :: cs) _ hr65.out Tryz.underlying110 rfl h65.out ?_)
          | (with_reducible refine wpList_store_mid (op := ⟨none, .store 110 (.tmp 6) (.tmp 18), _, _, _, _⟩) rfl 110 (.tmp 6) (.tmp 18) rfl wr.heap.size 0 (Value.int .i64 (k : Int) :: cs).toArray rfl rfl hth.out h65'.out hc1'.out ?_))
        go_roundw
        case rel =>
          obtain ⟨t2, b2⟩ := hhead'.out _ rfl
          refine ⟨j + 1, hlt, by go_num, hI.t.trans t2, ?_⟩
          rw [keptW_snoc _ _ _ _ hjL, ← hkb.out]
          exact hI.row.to (To.of_below No κ b2) (fun h => h)
        case measure => simp [intOf]; omega
      · have hlt3 : (j : Int) < (Kn : Int) := by omega
        have hcell := hfc ((wr.alloc (.cells Tryz.zeroCells110 110)).setCells wr.heap.size 0 (Value.int .i64 (k : Int) :: cs)) (hI.t.trans (hhead'.out _ rfl).1)
        have hfc' := Hid.mk hfc
        clear hfc
        cases kb
        · go_wp2_with (first
            | (with_reducible refine wpList_load_mid (op := ⟨some 18, _, _, _, _, _⟩) rfl 110 (.tmp 17) rfl lb (j * 65) rfl (Value.int .i64 (k : Int) :: cs) _ hr65.out Tryz.underlying110 rfl h65.out ?_)
            | (with_reducible refine wpList_store_mid (op := ⟨none, .store 110 (.tmp 6) (.tmp 18), _, _, _, _⟩) rfl 110 (.tmp 6) (.tmp 18) rfl wr.heap.size 0 (Value.int .i64 (k : Int) :: cs).toArray rfl rfl hth.out h65'.out hc1'.out ?_))
          go_roundw
          case rel =>
            obtain ⟨t2, b2⟩ := hhead'.out _ rfl
            refine ⟨j + 1, hlt, by go_num, hI.t.trans t2, ?_⟩
            rw [keptW_snoc _ _ _ _ hjL, ← hkb.out]
            exact hI.row.to (To.of_below No κ b2) (fun h => h)
          case measure => simp [intOf]; omega
        · go_wp2_with (first
            | (with_reducible refine wpList_load_mid (op := ⟨some 18, _, _, _, _, _⟩) rfl 110 (.tmp 17) rfl lb (j * 65) rfl (Value.int .i64 (k : Int) :: cs) _ hr65.out Tryz.underlying110 rfl h65.out ?_)
            | (with_reducible refine wpList_store_mid (op := ⟨none, .store 110 (.tmp 6) (.tmp 18), _, _, _, _⟩) rfl 110 (.tmp 6) (.tmp 18) rfl wr.heap.size 0 (Value.int .i64 (k : Int) :: cs).toArray rfl rfl hth.out h65'.out hc1'.out ?_))
          clear hcell
          obtain ⟨w2, hw2⟩ : ∃ w2, Hid (w2 = (wr.alloc (.cells Tryz.zeroCells110 110)).setCells wr.heap.size 0 (Value.int .i64 (k : Int) :: cs)) := ⟨_, Hid.mk rfl⟩
          rw [← hw2.out]
          obtain ⟨t2, b2⟩ := hhead'.out _ hw2.out
          have hr2 : w2.rangeAt wr.heap.size 0 (Value.int .i64 (k : Int) :: cs) := by
            rw [hw2.out]
            exact World.rangeAt_setCells_same _ _ _ _ (there110 wr (by rw [List.length_cons, hcl'.out]))
          have hH0 : w2.cell? ⟨wr.heap.size, 0, none⟩ = some (.int .i64 (k : Int)) := hr2 0 _ rfl
          have hH1 : w2.rangeAt wr.heap.size 1 cs := fun i v hv => by
            have := hr2 (i + 1) v hv
            rwa [Nat.zero_add, Nat.add_comm] at this
          have hsr : s < wr.heap.size := (hI.row.1.lt s rfl).2
          have har : a < wr.heap.size := Nat.lt_of_lt_of_le ha1 hI.t.size
          have c12 : w2.cell? ⟨a, 0, none⟩ = some (.slice (some ⟨s, 0, none⟩) N sc) := by
            rw [World.cell?_of_block (b2.block a har), World.cell?_of_block (hI.t.blk a ha1 (by rw [haC.out]; omega))]; exact c0
          have hth2 : w2.there s (k * 64) 64 := fun i hi => by
            have := own_there hI.row.1 (k * 64) 64 (by have := Nat.mul_le_mul_right 64 (Nat.succ_le_of_lt hkN); omega) i hi
            rw [b2.cell (p := ⟨s, k * 64 + i, none⟩) hsr, b2.frozen (p := ⟨s, k * 64 + i, none⟩) hsr]
            exact this
          have has : a ≠ s := fun e => by
            have h1 := haC.out
            have h2 := hS.out.safe.2 s rfl
            rw [e] at h1; omega
          have hHs : wr.heap.size ≠ s := by omega
          have hcl := hcl'.out
          have hu := Tryz.underlying108
          have hi : (Tryz.prog.info? 108).map (·.size) = some cs.length := by rw [hcl]; kernel_rfl
          have hone : ∀ v ∈ cs, v.oneCell' = true := fun v hv => hc1.out v (List.mem_cons_of_mem _ hv)
          have hk0 : (0 : Int) ≤ (k : Int) := Int.natCast_nonneg _
          have hkN' : (k : Int) < (N : Int) := by omega
          clear hr2
          go_region_held3 (fun w' => w'.cell? ⟨a, 0, none⟩ = some (.slice (some ⟨s, 0, none⟩) N sc) ∧ w'.cell? ⟨wr.heap.size, 0, none⟩ = some (.int .i64 (k : Int)) ∧ w'.rangeAt wr.heap.size 1 cs ∧ w'.there s (k * 64) 64) (first | go_keep | go_keep_ranges | (go_split_ands; exact ⟨cell_setCells_far (by first | assumption | (simp only [World.cell?_drew]; assumption)) has, cell_setCells_far (by first | assumption | (simp only [World.cell?_drew]; assumption)) hHs, World.rangeAt_setCells_apart (by first | assumption | (simp only [World.rangeAt_drew]; assumption)) _ _ _ (by left; omega), World.there_setCells (by first | assumption | (simp only [World.there_drew]; assumption)) _ _ _⟩)) (fail)
          go_wp2
          go_roundw
          case rel =>
            have hSl : (keptW keep d.safe (d.loose.take j) 0).length = N := by rw [keptW_len, hO.out.len, hN.out]
            have hst1 := fl_step hI.t hI.row (keptW_wid _ _ _ _ (fun x hx => (hO.out.wl x (List.mem_of_mem_take hx)).2) hO.out.ws) (k := k) (p := d.loose[j].2) (by omega) hSl (hO.out.wl _ (List.getElem_mem hjL)).2 w2 t2 b2
            rw [← hcs.out] at hst1
            refine ⟨j + 1, hlt, by go_num, hst1.1, ?_⟩
            rw [keptW_snoc _ _ _ _ hjL, ← hkb.out, if_pos rfl, ← hk.out]
            exact hst1.2
          case measure => simp [intOf]; omega
    · have hjE : Hid (j = d.loose.length) := by show _ = _; rw [← hL.out]; omega
      rw [hjE.out] at hI
      have hI' := Hid.mk hI
      have har : a < wr.heap.size := Nat.lt_of_lt_of_le ha1 hI.t.size
      have cr0 : wr.cell? ⟨a, 0, none⟩ = some (.slice (some ⟨s, 0, none⟩) N sc) := (World.cell?_of_block (hI.t.blk a ha1 (by rw [haC.out]; omega))).trans c0
      have br : Hid (wr.heap[a]? = w.heap[a]?) := hI.t.blk a ha1 (by rw [haC.out]; omega)
      have hSC : Hid (wr.rangeAt s 0 (secsC (keptW keep d.safe d.loose 0))) := by
        have := hI.row.1; rw [List.take_length] at this; exact own_range this
      have hSl : Hid ((secsC (keptW keep d.safe d.loose 0)).length = N * 64) := by
        show _ = _
        rw [secsC_len (keptW_wid keep d.loose d.safe 0 (fun x hx => (hO.out.wl x hx).2) hO.out.ws), keptW_len, hO.out.len, hN.out]
      have hS1 : Hid (∀ u ∈ secsC (keptW keep d.safe d.loose 0), u.oneCell' = true) := fun u hu => by
        obtain ⟨p, _, hp⟩ := List.mem_flatMap.1 hu
        exact byC_one p u hp
      clear hI c0 c2
      go_wp2_with (go_at_call 78; refine (c_clone64 s 0 N sc (secsC (keptW keep d.safe d.loose 0)) wr hN0 hSl.out hSC.out hS1.out (by omega)).mono ?_; rintro e w2 ⟨h, hc, rfl, hh, hown, hbel⟩; have hb2 := Hid.mk (((hbel.block a har).trans br.out).trans hS.out.blk); have d1 : w2.cell? ⟨a, 1, none⟩ = some _ := cell_at hb2.out rfl; have d2 : w2.cell? ⟨a, 2, none⟩ = some _ := cell_at hb2.out rfl; have d4 : w2.cell? ⟨a, 4, none⟩ = some _ := cell_at hb2.out rfl; have d5 : w2.cell? ⟨a, 5, none⟩ = some _ := cell_at hb2.out rfl; have q1 : w2.frozen? ⟨a, 1, none⟩ = false := frozen_at hb2.out; have q2 : w2.frozen? ⟨a, 2, none⟩ = false := frozen_at hb2.out; have q4 : w2.frozen? ⟨a, 4, none⟩ = false := frozen_at hb2.out; have q5 : w2.frozen? ⟨a, 5, none⟩ = false := frozen_at hb2.out)
      go_ret
      rw [hN.out] at hI' hown
      refine ⟨rfl, crash_end hz'.out hO.out hS.out hI'.out hh hown hbel _ ?_⟩
      rw [hN.out]
end Go.Proofs.YtoacaikopcdkmaaGreat

namespace Go.Proofs.YtoacaikopcdkmaaGreat
open Go.RowKit Go.Sort
theorem made_zero (z : Array Value) (n m : Nat) (h : ∀ i, i < z.size → z[i]? = some (Value.int .u8 0)) (hm : 0 < z.size) : madeCells z n = (List.replicate n (Value.int .u8 0)).toArray := by
  unfold madeCells
  apply Array.ext
  · simp
  · intro i h1 h2
    have h3 : i % z.size < z.size := Nat.mod_lt _ hm
    have h4 := h _ h3
    rw [Array.getElem?_eq_getElem h3] at h4
    simp only [Array.getElem_map, Array.getElem_range, List.getElem_toArray, List.getElem_replicate]
    rw [getElem!_pos z _ h3]
    exact Option.some.inj h4
theorem zero108 : ∃ i z, Tryz.prog.info? 108 = some i ∧ i.zero = some z ∧ i.size = 64 ∧ i.bytes = 64 ∧ z.cells = (List.replicate 64 (Value.int .u8 0)).toArray := by
  have h : (Tryz.prog.info? 108).map (fun i => (i.size, i.bytes, i.zero.map fun z => z.cells)) = some (64, 64, some (List.replicate 64 (Value.int .u8 0)).toArray) := by kernel_rfl
  cases hq : Tryz.prog.info? 108 with
  | none => rw [hq] at h; simp at h
  | some i =>
    rw [hq] at h
    simp only [Option.map_some, Option.some.injEq, Prod.mk.injEq] at h
    cases hz : i.zero with
    | none => rw [hz] at h; simp at h
    | some z => rw [hz] at h; exact ⟨i, z, rfl, hz, h.1, h.2.1, Option.some.inj h.2.2⟩
theorem secsC_zero : ∀ n : Nat, secsC (List.replicate n (List.replicate 64 0)) = List.replicate (n * 64) (Value.int .u8 0)
  | 0 => rfl
  | n + 1 => by
    have ih := secsC_zero n
    unfold secsC at ih ⊢
    rw [List.replicate_succ, List.flatMap_cons, ih]
    have e : byC (List.replicate 64 0) = List.replicate 64 (Value.int .u8 0) := by rfl
    rw [e, List.replicate_append_replicate, show 64 + n * 64 = (n + 1) * 64 by omega]
theorem new_end (κ : Nat → Nat) (c n : Nat) (h1 : 1 ≤ n) (h2 : n ≤ 16384) (w : World) (hz : Cz κ w) (Z : Array Value) (hZ : Z = (List.replicate (n * 64) (Value.int .u8 0)).toArray) (s m : Nat)
    (hsm : s = w.heap.size ∧ m = w.heap.size + 1 ∨ s = w.heap.size + 1 ∧ m = w.heap.size) (W : World)
    (hW : W = (((w.alloc (.cells Z 108)).alloc (.cells Z 108)).alloc (.cells #[.slice (some ⟨s, 0, none⟩) n n, .slice (some ⟨m, 0, none⟩) n n, .slice none 0 0, .int .i64 0, .int .i64 (-1), .bool false] 106)).drew) :
    ∃ κ', DrumAt κ' c W (w.heap.size + 1 + 1) (Vm.Drum.new n) ∧ To No κ κ' w W ∧ Cz κ' W := by
  obtain ⟨κ', hκ⟩ : ∃ κ' : Nat → Nat, κ' = fun b => if b = w.heap.size + 1 + 1 then c else if b = s then c + 1 else if b = m then c + 2 else κ b := ⟨_, rfl⟩
  have hS : W.heap.size = w.heap.size + 3 := by rw [hW]; simp
  have b0 : W.heap[w.heap.size]? = some (.cells Z 108 (0, 0)) := by
    rw [hW]
    show ((((w.alloc _).alloc _).alloc _).heap)[w.heap.size]? = _
    rw [Below.heap_alloc _ _ _ (by simp; omega), Below.heap_alloc _ _ _ (by simp)]
    exact heap_alloc_new w _
  have b1 : W.heap[w.heap.size + 1]? = some (.cells Z 108 (0, 0)) := by
    rw [hW]
    show ((((w.alloc _).alloc _).alloc _).heap)[w.heap.size + 1]? = _
    rw [Below.heap_alloc _ _ _ (by simp)]
    have := heap_alloc_new (w.alloc (.cells Z 108)) (.cells Z 108)
    simpa using this
  have b2 : W.heap[w.heap.size + 1 + 1]? = some (.cells #[.slice (some ⟨s, 0, none⟩) n n, .slice (some ⟨m, 0, none⟩) n n, .slice none 0 0, .int .i64 0, .int .i64 (-1), .bool false] 106 (0, 0)) := by
    rw [hW]
    have := heap_alloc_new ((w.alloc (.cells Z 108)).alloc (.cells Z 108)) (.cells #[.slice (some ⟨s, 0, none⟩) n n, .slice (some ⟨m, 0, none⟩) n n, .slice none 0 0, .int .i64 0, .int .i64 (-1), .bool false] 106)
    have e : ((w.alloc (.cells Z 108)).alloc (.cells Z 108)).heap.size = w.heap.size + 1 + 1 := by simp
    rw [e] at this
    exact this
  have t : To No κ κ w W := by rw [hW]; exact ((((To.refl _ κ w).alloc _).alloc _).alloc _).drew
  have hn : (Vm.Drum.new n).now.length = n := by simp [Vm.Drum.new]
  have row : ∀ g, W.heap[g]? = some (.cells Z 108 (0, 0)) → W.ownsRow 0 108 64 (.slice (some ⟨g, 0, none⟩) n n) n (secsC (List.replicate n (List.replicate 64 0))) := fun g hg => by
    rw [secsC_zero]
    refine ⟨by simp, .inr ⟨g, n, Z, rfl, Nat.zero_le _, hg, Nat.le_refl _, by simp only [maxLen]; omega, by rw [hZ]; simp, by rw [hZ, List.toList_toArray, List.take_of_length_le (by simp)]⟩⟩
  have hw64 : ∀ p ∈ List.replicate n (List.replicate 64 (0 : UInt8)), p.length = 64 := fun p hp => by rw [List.eq_of_mem_replicate hp]; simp
  refine ⟨κ', ⟨⟨by simp [Vm.Drum.new], by rw [hn]; exact h1, by rw [hn]; exact h2, hw64, hw64, fun _ hx => absurd hx List.not_mem_nil, fun k hk => by cases hk⟩, s, n, m, n, .slice none 0 0, ?_, ?_, ?_, ?_, ⟨World.ownsRow_nil _ _ _ _, fun b hb => by cases hb⟩⟩, ?_, ?_⟩
  · rw [hκ]; simp
  · rw [hn]
    have e0 : wrap64 ((Vm.Drum.new n).steps : Int) = 0 := by show wrap64 ((0 : Nat) : Int) = 0; unfold wrap64; omega
    rw [e0]
    exact b2
  · rw [hn]
    refine ⟨row s (by rcases hsm with ⟨e, _⟩ | ⟨e, _⟩ <;> rw [e] <;> assumption), fun b hb => ?_⟩
    cases hb
    rw [hκ]; show (if s = _ then c else if s = s then c + 1 else _) = _; rw [if_neg (by omega), if_pos rfl]
  · rw [hn]
    refine ⟨row m (by rcases hsm with ⟨_, e⟩ | ⟨_, e⟩ <;> rw [e] <;> assumption), fun b hb => ?_⟩
    cases hb
    rw [hκ]; show (if m = _ then c else if m = s then c + 1 else if m = m then c + 2 else _) = _; rw [if_neg (by omega), if_neg (by omega), if_pos rfl]
  · refine ⟨t.os, t.tape, t.output, t.size, fun b hb _ => ?_, t.blk⟩
    rw [hκ]; simp only; rw [if_neg (by omega), if_neg (by omega), if_neg (by omega)]
  · intro b hb
    rw [hκ]; simp only; rw [if_neg (by omega), if_neg (by omega), if_neg (by omega)]
    exact hz b (by omega)
set_option maxRecDepth 100000 in
set_option maxHeartbeats 800000 in
theorem c_new (κ : Nat → Nat) (c n : Nat) (h1 : 1 ≤ n) (h2 : n ≤ 16384) (w : World) (hz : Cz κ w) (hc0 : 1 ≤ c) :
    Calls Tryz.prog 12 #[.int .i64 (n : Int)] w fun e w' => ∃ a, e = .returned (.tuple #[.pointer (some ⟨a, 0, none⟩), .int .i64 0]) ∧ ∃ κ', DrumAt κ' c w' a (Vm.Drum.new n) ∧ To No κ κ' w w' ∧ Cz κ' w' := by
  obtain ⟨i0, z0, e1, e2, e3, e4, e5⟩ := zero108
  obtain ⟨Z, hZ⟩ : ∃ Z, Hid (Z = madeCells z0.cells (n * i0.size)) := ⟨_, Hid.mk rfl⟩
  have hMk : ∀ W : World, (Instr.makeSlice 103 (.int .i64 (n : Int)) (.int .i64 (n : Int))).run Tryz.prog W = .ok (.slice (some ⟨W.heap.size, 0, none⟩) n n) (W.alloc (.cells Z 108)) := fun W => by
    rw [run_make (P := Tryz.prog) W 103 108 i0 z0 Tryz.underlying103 e1 e2 .i64 .i64 (n : Int) (n : Int) (by omega) (by omega) (by rw [e4]; omega) (by omega), Int.toNat_natCast, ← hZ.out]
  have hZ' : Hid (Z = (List.replicate (n * 64) (Value.int .u8 0)).toArray) := by
    show _ = _
    rw [hZ.out, e5, e3]
    exact made_zero _ _ 0 (fun i hi => by rw [List.size_toArray, List.length_replicate] at hi; rw [List.getElem?_toArray, List.getElem?_replicate, if_pos hi]) (by simp)
  clear e1 e2 e3 e4 e5 hZ
  go_enter Tryz.func12, Tryz.ntmps12
  go_wp2
  go_region_held3 (fun _ => True) (trivial) (fail)
  all_goals go_wp2
  all_goals go_ret2
  · exact ⟨_, rfl, new_end κ c n h1 h2 w hz Z hZ'.out w.heap.size (w.heap.size + 1) (.inl ⟨rfl, rfl⟩) _ rfl⟩
  · exact ⟨_, rfl, new_end κ c n h1 h2 w hz Z hZ'.out (w.heap.size + 1) w.heap.size (.inr ⟨rfl, rfl⟩) _ rfl⟩
end Go.Proofs.YtoacaikopcdkmaaGreat

namespace Go.Proofs.YtoacaikopcdkmaaGreat
open Go.RowKit Go.Sort
theorem vput_get (n : Nat) : ∀ k t, t < k → (Vm.put n k)[t]? = some (UInt8.ofNat (n / 256 ^ (k - 1 - t)))
  | 0, t, h => by omega
  | k + 1, 0, _ => by simp [Vm.put]
  | k + 1, t + 1, h => by
    rw [Vm.put, List.getElem?_cons_succ, vput_get n k t (by omega), show k + 1 - 1 - (t + 1) = k - 1 - t by omega]
theorem pb_eq (n k t : Nat) (h : t < k) : (byC (Vm.put n k))[t]? = some (pb (n : Int) k t) := by
  unfold byC pb
  rw [List.getElem?_map, vput_get n k t h, Option.map_some]
  congr 2
  rw [UInt8.toNat_ofNat', show (2 : Int) ^ (8 * (k - 1 - t)) = ((256 ^ (k - 1 - t) : Nat) : Int) by rw [show (256 : Nat) = 2 ^ 8 by rfl, ← Nat.pow_mul, Int.natCast_pow]; rfl]
  omega
theorem put_list (cur : List Value) (n k v : Nat) (cm : Array Value) (hs : cm.size = cur.length) (hn : n + k ≤ cur.length) (h1 : ∀ j, j < n ∨ n + k ≤ j → cm[j]? = cur[j]?) (h2 : ∀ t, t < k → cm[n + t]? = some (pb (v : Int) k t)) :
    cm.toList = putL cur n (byC (Vm.put v k)) := by
  have hl : (byC (Vm.put v k)).length = k := by rw [byC_len, Vm.put_len]
  apply List.ext_getElem?
  intro j
  rw [Array.getElem?_toList]
  unfold putL
  rw [hl]
  by_cases a : j < n
  · rw [h1 j (.inl a), List.append_assoc, List.getElem?_append_left (by rw [List.length_take]; omega), List.getElem?_take, if_pos a]
  · by_cases b : j < n + k
    · have := h2 (j - n) (by omega)
      rw [show n + (j - n) = j by omega] at this
      rw [this, List.append_assoc, List.getElem?_append_right (by rw [List.length_take]; omega), List.length_take, Nat.min_eq_left (by omega), List.getElem?_append_left (by omega), pb_eq _ _ _ (by omega)]
    · rw [h1 j (.inr (by omega)), List.getElem?_append_right (by rw [List.length_append, List.length_take, hl]; omega), List.length_append, List.length_take, hl, Nat.min_eq_left (by omega), List.getElem?_drop]
      congr 1; omega
/-- Put within a row that has room: the row as a list. -/
theorem c_putR (g n k v : Nat) (X : List Value) (w : World) (h1 : n + k ≤ X.length) (hk : k ≤ 8) (hg : w.heap[g]? = some (.cells X.toArray 5 (0, 0))) (hone : ∀ u ∈ X, u.oneCell' = true) :
    Calls Tryz.prog 67 #[.slice (some ⟨g, 0, none⟩) n X.length, .int .u64 (v : Int), .int .i64 (k : Int)] w fun e w' => e = .returned (.slice (some ⟨g, 0, none⟩) (n + k : Nat) X.length) ∧ w.grownBy w' (some g) ∧ w'.heap[g]? = some (.cells (putL X n (byC (Vm.put v k))).toArray 5 (0, 0)) := by
  refine (c_put g n X.length k (v : Int) w h1 hk X.toArray 5 (Array.getElem?_eq_some_iff.1 hg).1 hg rfl ?_).mono ?_
  · intro j u hu
    exact hone u (by rw [List.getElem?_toArray] at hu; exact List.mem_of_getElem? hu)
  · rintro e w' ⟨rfl, hR⟩
    obtain ⟨cm, r1, r2, r3, r4⟩ := hR.row
    refine ⟨rfl, hR.gr, ?_⟩
    rw [r1, ← put_list X n k v cm (by simpa using r2) h1 (fun j hj => by simpa using r3 j hj) r4]
theorem putL_one (xs : List Value) (o : Nat) (vs : List Value) (h1 : ∀ u ∈ xs, u.oneCell' = true) (h2 : ∀ u ∈ vs, u.oneCell' = true) : ∀ u ∈ putL xs o vs, u.oneCell' = true := fun u hu => by
  unfold putL at hu
  rcases List.mem_append.1 hu with h | h
  · rcases List.mem_append.1 h with h | h
    · exact h1 u (List.mem_of_mem_take h)
    · exact h2 u h
  · exact h1 u (List.mem_of_mem_drop h)
/-- The next byte of a number. -/
theorem put_take (n k m : Nat) (h : m < k) : byC ((Vm.put n k).take (m + 1)) = byC ((Vm.put n k).take m) ++ [pb (n : Int) k m] := by
  have h1 := pb_eq n k m h
  unfold byC at h1 ⊢
  rw [List.map_take, List.map_take, List.take_add_one, h1]; rfl
set_option maxRecDepth 100000 in
set_option maxHeartbeats 800000 in
theorem c_putG (base n k v : Nat) (V : Value) (xs : List Value) (w : World) (hk : k ≤ 8) (hv : v < 18446744073709551616) (hn : n ≤ 1000000000) (hb : base ≤ w.heap.size) (hown : w.ownsRow base 5 1 V n xs) :
    Calls Tryz.prog 67 #[V, .int .u64 (v : Int), .int .i64 (k : Int)] w fun e w' => ∃ V', e = .returned V' ∧ w'.ownsRow base 5 1 V' (n + k) (xs ++ byC (Vm.put v k)) ∧ w.grownBy w' V.ownBlock ∧ (V'.ownBlock = V.ownBlock ∨ ∃ b, V'.ownBlock = some b ∧ w.heap.size ≤ b) := by
  obtain ⟨i0, z0, hi, hz0, hz1, hz2, hz3⟩ := info_sz (t := 5) (size := 1) (bytes := 1) (zs := 1) (by kernel_rfl)
  have hown' := Hid.mk hown
  have hvl := Hid.mk hv
  clear hown hv
  go_enter Tryz.func67, Tryz.ntmps67
  go_wp2
  go_loopw [0, 7] (fun b i wr => ∃ (m : Nat) (U : Value), m ≤ k ∧ i = .int .i64 ((k : Int) - 1 - m) ∧ b = U ∧ Hid (wr.ownsRow base 5 1 U (n + m) (xs ++ byC ((Vm.put v k).take m))) ∧ Hid (w.grownBy wr V.ownBlock) ∧ Hid (U.ownBlock = V.ownBlock ∨ ∃ b, U.ownBlock = some b ∧ w.heap.size ≤ b)) (fun b i _ => (intOf i + 2).toNat)
  case atStart => exact ⟨0, V, Nat.zero_le _, by simp, rfl, (show World.ownsRow _ _ _ _ _ _ _ by simpa [byC] using hown'.out), ⟨rfl, rfl, rfl, Nat.le_refl _, fun _ _ _ => rfl⟩, .inl rfl⟩
  case round =>
    obtain ⟨m, U, hm, rfl, hbU, hU, hG, hB⟩ := hrel
    replace hbU := hbU.symm
    subst hbU
    by_cases hlt : m < k
    · have hge : (0 : Int) ≤ (k : Int) - 1 - m := by omega
      have hbr : base ≤ wr.heap.size := Nat.le_trans hb hG.out.size
      have hN : Hid (∀ x : Value, ∀ j u, [x][j]? = some u → (wr.alloc (.cells #[x] 5)).cell? ((⟨wr.heap.size, 0, none⟩ : Addr).add j) = some u) := fun x => cell_one_new wr x 5
      go_wp2_with (at_builtin; refine wpList_append_lies _ rfl (.tmp 14) (.tmp 20) 22 rfl base 5 i0 z0 1 1 Tryz.underlying22 hi hz0 hz1 hz2 hz3 (by omega) _ (n + m) _ rfl (hU.out.alloc _) ⟨wr.heap.size, 0, none⟩ 1 1 [pb (v : Int) k m] rfl rfl (hN.out _) (by intro u hu; rw [List.mem_singleton.1 hu]; rfl) (by omega) (by simp only [maxLen]; omega) (by omega) (by simp; omega) (wr.heap.size + 1) (by simp) ?_; intro gg cap w4 hown1 hgrow hat hlt4)
      change (wr.alloc _).grownBy w4 U.ownBlock at hgrow
      change U.ownBlock = some gg ∨ gg = wr.heap.size + 1 at hat
      have hws := hG.out.size
      refine ⟨⟨m + 1, _, by omega, by congr 1; omega, rfl, ?_, ?_, ?_⟩, ?_⟩
      · show World.ownsRow _ _ _ _ _ _ _
        rw [put_take _ _ _ hlt, ← List.append_assoc]
        exact hown1
      · refine ⟨hgrow.os.trans hG.out.os, hgrow.tape.trans hG.out.tape, hgrow.output.trans hG.out.output, Nat.le_trans hws (by have := hgrow.size; simp at this; omega), fun b hb' hne => ?_⟩
        have hnu : some b ≠ U.ownBlock := fun e => by
          rcases hB.out with h | ⟨x, h, h2⟩
          · exact hne (e.trans h)
          · rw [h] at e; cases e; omega
        exact (hgrow.block b (by simp; omega) hnu).trans ((Below.heap_alloc wr _ b (by omega)).trans (hG.out.block b hb' hne))
      · show _ ∨ _
        rcases hat with h | h
        · rw [h] at hB; exact hB.out
        · exact .inr ⟨gg, rfl, by omega⟩
      · simp [intOf]; omega
    · have hmk : m = k := by omega
      subst hmk
      have hlt2 : ¬ ((0 : Int) ≤ (m : Int) - 1 - m) := by omega
      go_wp2
      go_ret
      have h1 := hU.out
      rw [List.take_of_length_le (by rw [Vm.put_len]; omega)] at h1
      exact ⟨_, rfl, h1, hG.out, hB.out⟩
end Go.Proofs.YtoacaikopcdkmaaGreat

namespace Go.Proofs.YtoacaikopcdkmaaGreat
open Go.RowKit Go.Sort
theorem numGo_snoc : ∀ (l : List UInt8) (c : UInt8) (n : Nat), Vm.numGo (l ++ [c]) n = Vm.numGo l n * 256 + c.toNat
  | [], c, n => by simp [Vm.numGo, Vm.strict_eq]
  | a :: l, c, n => by simp only [List.cons_append, Vm.numGo, Vm.strict_eq]; exact numGo_snoc l c _
theorem nv_num (p : List UInt8) : ∀ k, k ≤ p.length → nv (fun i => p.getD i 0) k = Vm.num (p.take k)
  | 0, _ => by simp [nv, Vm.num, Vm.numGo]
  | k + 1, h => by
    rw [nv, nv_num p k (by omega), List.take_succ_eq_append_getElem (by omega)]
    unfold Vm.num
    rw [numGo_snoc, List.getD_eq_getElem?_getD, List.getElem?_eq_getElem (by omega)]; rfl
theorem crcI_front (c : Nat) : ∀ j, crcI (crcBit c) j = crcI c (j + 1)
  | 0 => rfl
  | j + 1 => by rw [crcI, crcI_front c j]; rfl
theorem bits_crcI : ∀ (k c : Nat), Vm.bits k c = crcI c k
  | 0, _ => rfl
  | k + 1, c => by
    rw [Vm.bits, Vm.strict_eq, bits_crcI k]
    exact crcI_front c k
theorem sumGo_snoc : ∀ (l : List UInt8) (b : UInt8) (c : Nat), ∃ r, Vm.sumGo l c = r ^^^ 0xffffffff ∧ Vm.sumGo (l ++ [b]) c = crcI (r ^^^ b.toNat) 8 ^^^ 0xffffffff
  | [], b, c => ⟨c, rfl, by simp only [List.nil_append, Vm.sumGo, Vm.strict_eq, bits_crcI]⟩
  | a :: l, b, c => by
    obtain ⟨r, h1, h2⟩ := sumGo_snoc l b (Vm.bits 8 (c ^^^ a.toNat))
    exact ⟨r, by rw [Vm.sumGo, Vm.strict_eq, h1], by rw [List.cons_append, Vm.sumGo, Vm.strict_eq, h2]⟩
theorem xor_inj {a b m : Nat} (h : a ^^^ m = b ^^^ m) : a = b := by
  have := congrArg (· ^^^ m) h
  simpa [Nat.xor_assoc] using this
theorem crcS_sum (p : List UInt8) : ∀ k, k ≤ p.length → crcS (fun i => p.getD i 0) k ^^^ 0xffffffff = Vm.sum (p.take k)
  | 0, _ => by simp [crcS, Vm.sum, Vm.sumGo]
  | k + 1, h => by
    have ih := crcS_sum p k (by omega)
    rw [List.take_succ_eq_append_getElem (by omega)]
    unfold Vm.sum at ih ⊢
    obtain ⟨r, h1, h2⟩ := sumGo_snoc (p.take k) p[k] 0xffffffff
    rw [h2, crcS]
    have e : crcS (fun i => p.getD i 0) k = r := xor_inj (ih.trans h1)
    rw [e, show p.getD k 0 = p[k] by rw [List.getD_eq_getElem?_getD, List.getElem?_eq_getElem (by omega)]; rfl]
theorem range_byte {w : World} {g o : Nat} {p : List UInt8} (h : w.rangeAt g o (byC p)) (i : Nat) (hi : i < p.length) : w.cell? ⟨g, o + i, none⟩ = some (.int .u8 ((p.getD i 0).toNat : Int)) := by
  refine h i _ ?_
  unfold byC
  rw [List.getElem?_map, List.getD_eq_getElem?_getD, List.getElem?_eq_getElem hi]; rfl
theorem c_ofL (g o n cap k : Nat) (p : List UInt8) (w : World) (hk : k ≤ 8) (hkn : k ≤ n) (hn : n ≤ cap) (hp : k ≤ p.length) (hr : w.rangeAt g o (byC p)) :
    Calls Tryz.prog 104 #[.slice (some ⟨g, o, none⟩) n cap, .int .i64 (k : Int)] w fun e w' => e = .returned (.int .u64 (Vm.num (p.take k) : Int)) ∧ w' = w := by
  rw [← nv_num p k hp]
  exact c_of g o n cap k _ w (by omega) hn hk fun i hi => range_byte hr i (by omega)
theorem c_sumL (g o n cap : Nat) (p : List UInt8) (w : World) (hn : n ≤ cap) (hp : p.length = n) (hN : n ≤ 1000000000) (hr : w.rangeAt g o (byC p)) :
    Calls Tryz.prog 135 #[.slice (some ⟨g, o, none⟩) n cap] w fun e w' => e = .returned (.int .u32 (Vm.sum p : Int)) ∧ w' = w := by
  have e := crcS_sum p n (by omega)
  rw [List.take_of_length_le (by omega)] at e
  rw [← e]
  exact c_sum g o n cap _ w hn hN fun i hi => range_byte hr i (by omega)
end Go.Proofs.YtoacaikopcdkmaaGreat

namespace Go.Proofs.YtoacaikopcdkmaaGreat
open Go.RowKit Go.Sort
theorem byC_putL (B : List UInt8) (o : Nat) (q : List UInt8) : byC (putL B o q) = putL (byC B) o (byC q) := by
  unfold putL; rw [byC_app, byC_app, byC_take, byC_drop, byC_len]
theorem putL_zero (l q : List UInt8) (m : Nat) (h : q.length ≤ m) : putL (l ++ List.replicate m 0) l.length q = (l ++ q) ++ List.replicate (m - q.length) 0 := by
  unfold putL
  rw [List.take_left, List.drop_append, List.drop_of_length_le (by omega), List.nil_append, show l.length + q.length - l.length = q.length by omega, List.drop_replicate]
theorem putL_head (z r s : List UInt8) (h : s.length = z.length) : putL (z ++ r) 0 s = s ++ r := by
  unfold putL
  rw [List.take_zero, List.nil_append, Nat.zero_add, List.drop_left' h.symm]
/-- A row of N bytes of the call's own; l stands in front, then zeros. -/
structure Bz (w0 w : World) (g : Nat) (l : List UInt8) (N : Nat) : Prop where
  low : Below w0.heap.size w0 w
  ge : w0.heap.size ≤ g
  row : w.heap[g]? = some (.cells (byC (l ++ List.replicate (N - l.length) 0)).toArray 5 (0, 0))
  le : l.length ≤ N
theorem Bz.grown {w0 w w' g l l' N} (h : Bz w0 w g l N) (gr : w.grownBy w' (some g)) (r : w'.heap[g]? = some (.cells (byC (l' ++ List.replicate (N - l'.length) 0)).toArray 5 (0, 0))) (hl : l'.length ≤ N) : Bz w0 w' g l' N :=
  ⟨h.low.grown gr h.low.size (fun k hk => by cases hk; exact h.ge), h.ge, r, hl⟩
theorem Bz.below {w0 w w' g l N B} (h : Bz w0 w g l N) (b : Below B w w') (hg : g < B) (hB : w0.heap.size ≤ B) : Bz w0 w' g l N :=
  ⟨h.low.trans (b.mono hB), h.ge, (b.block g hg).trans h.row, h.le⟩
theorem Bz.lt {w0 w g l N} (h : Bz w0 w g l N) : g < w.heap.size := (Array.getElem?_eq_some_iff.1 h.row).1
theorem Bz.len {w0 w g l N} (h : Bz w0 w g l N) : (byC (l ++ List.replicate (N - l.length) 0)).length = N := by
  rw [byC_len, List.length_append, List.length_replicate]; have := h.le; omega
theorem Bz.range {w0 w g l N} (h : Bz w0 w g l N) : w.rangeAt g 0 (byC (l ++ List.replicate (N - l.length) 0)) := fun j v hv => by
  rw [Nat.zero_add, cell_of_row w g j _ _ _ h.row]; simpa using hv
theorem c_putZ (w0 w : World) (g n N k v : Nat) (l : List UInt8) (H : Bz w0 w g l N) (hn : l.length = n) (hk : k ≤ 8) (hN : n + k ≤ N) :
    Calls Tryz.prog 67 #[.slice (some ⟨g, 0, none⟩) n N, .int .u64 (v : Int), .int .i64 (k : Int)] w fun e w' => e = .returned (.slice (some ⟨g, 0, none⟩) (n + k : Nat) N) ∧ Bz w0 w' g (l ++ Vm.put v k) N ∧ w.grownBy w' (some g) := by
  have hl := H.len
  have := c_putR g n k v (byC (l ++ List.replicate (N - l.length) 0)) w (by omega) hk H.row (byC_one _)
  rw [hl] at this
  refine this.mono ?_
  rintro e w' ⟨rfl, gr, r⟩
  refine ⟨rfl, H.grown gr ?_ (by rw [List.length_append, Vm.put_len]; omega), gr⟩
  rw [r, ← byC_putL, ← hn, putL_zero _ _ _ (by rw [Vm.put_len]; omega), List.length_append, Vm.put_len, show N - l.length - k = N - (l.length + k) by omega]
/-- append within the room. -/
theorem wpList_app_Z {w0 w : World} {ops : Array Oper} {rest : List Oper} {o : Oper} {a : Act} {Q : Exit → Act → World → Prop} (hgd : o.guard = none) (s x : Operand)
    (ho : o.op = .call { callee := .builtin .append, args := #[s, x], argTypes := #[22, 22] })
    (g n N : Nat) (l : List UInt8) (H : Bz w0 w g l N) (hn : l.length = n) (hs : a.eval s = .slice (some ⟨g, 0, none⟩) n N)
    (b off m c : Nat) (q : List UInt8) (hx : a.eval x = .slice (some ⟨b, off, none⟩) m c) (hm : q.length = m) (hq : w.rangeAt b off (byC q)) (hN : n + m ≤ N)
    (h : ∀ w', Bz w0 w' g (l ++ q) N → wpList Tryz.prog ops Q rest (a.put o.dst (.slice (some ⟨g, 0, none⟩) (n + m) N)) w') : wpList Tryz.prog ops Q (o :: rest) a w := by
  refine wpList_plain hgd fun K hK => ?_
  obtain ⟨i0, z0, hi, hz0, hz1, hz2, hz3⟩ := info_sz (t := 5) (size := 1) (bytes := 1) (zs := 1) (by kernel_rfl)
  have hl := H.len
  have hr := run_append_room (P := Tryz.prog) w 22 o.type 5 i0 Tryz.underlying22 hi g n N _ H.row ⟨b, off, none⟩ m c (byC q) (by rw [byC_len, hz1, hm, Nat.mul_one]) (fun j u hj => by rw [Addr.add_mid]; exact hq j u hj) (byC_one q) hN (by rw [hz1, byC_len, List.size_toArray, hl]; omega)
  unfold Oper.wp execOp
  simp only [ho, resolve, invoke, builtin, Sem.run_bind, Sem.run_pure, Result.andThen_ok, List.map_toArray, List.map_cons, List.map_nil, hs, hx, hr]
  refine hK _ _ (h _ ?_)
  have hR := setRow_heap w g _ (putL (byC (l ++ List.replicate (N - l.length) 0)) n (byC q)).toArray 5 (0, 0) H.row
  refine H.grown ⟨rfl, rfl, rfl, by simp [World.setRow], fun k _ hk => setRow_other w g k _ (fun e => hk (by rw [e]))⟩ ?_ (by rw [List.length_append]; omega)
  have e : (byC (l ++ q ++ List.replicate (N - (l ++ q).length) 0)) = putL (byC (l ++ List.replicate (N - l.length) 0)) n (byC q) := by
    rw [← byC_putL, ← hn, putL_zero _ _ _ (by omega), List.length_append, show N - l.length - q.length = N - (l.length + q.length) by omega]
  rw [e, ← hR]
  simp only [hz1, Nat.mul_one]
  rfl
end Go.Proofs.YtoacaikopcdkmaaGreat

namespace Go.Proofs.YtoacaikopcdkmaaGreat
open Go.RowKit Go.Sort
theorem c_put0 (v : Nat) (hv : v < 18446744073709551616) (w : World) :
    Calls Tryz.prog 67 #[.slice none 0 0, .int .u64 (v : Int), .int .i64 4] w fun e w' => ∃ h c, e = .returned (.slice (some ⟨h, 0, none⟩) 4 c) ∧ w.heap.size ≤ h ∧ w'.rangeAt h 0 (byC (Vm.put v 4)) ∧ Below w.heap.size w w' := by
  refine (c_putG w.heap.size 0 4 v (.slice none 0 0) [] w (by omega) hv (by omega) (Nat.le_refl _) (World.ownsRow_nil _ _ _ _)).mono ?_
  rintro e w' ⟨V', rfl, h1, h2, _⟩
  rw [List.nil_append, Nat.zero_add] at h1
  have hB : Below w.heap.size w w' := (Below.refl _ _).grown h2 (Nat.le_refl _) (fun k hk => by cases hk)
  rcases h1.2 with ⟨_, h⟩ | ⟨g, cap, cur, rfl, hb, _⟩
  · omega
  · exact ⟨g, cap, rfl, hb, own_range h1, hB⟩
theorem rangeAt_below {w w' : World} {B b o : Nat} {cs : List Value} (h : w.rangeAt b o cs) (t : Below B w w') (hb : b < B) : w'.rangeAt b o cs := fun j v hv => by
  rw [t.cell (p := ⟨b, o + j, none⟩) hb]; exact h j v hv
theorem src_mid {w : World} {h o : Nat} {cs : List Value} (hr : w.rangeAt h o cs) : ∀ j u, cs[j]? = some u → w.cell? ((⟨h, o, none⟩ : Addr).add j) = some u := fun j u hj => by
  rw [Addr.add_mid]; exact hr j u hj
/-- makeSlice of bytes, four long, with room. -/
theorem make4 (N : Nat) (hN : 4 ≤ N) (h2 : N ≤ 1000000) : ∃ Z : Array Value, Z = (byC ((List.replicate 4 0) ++ List.replicate (N - (List.replicate 4 (0 : UInt8)).length) 0)).toArray ∧ ∀ W : World, (Instr.makeSlice 22 (.int .i64 4) (.int .i64 (N : Int))).run Tryz.prog W = .ok (.slice (some ⟨W.heap.size, 0, none⟩) 4 N) (W.alloc (.cells Z 5)) := by
  have hI : (Tryz.prog.info? 5).map (fun i => (i.zero, i.size, i.bytes)) = some (some (.int .u8 0), 1, 1) := by kernel_rfl
  obtain ⟨i0, hi, hz0, hz1, hz2⟩ := info_parts hI
  refine ⟨_, rfl, fun W => ?_⟩
  rw [run_make (P := Tryz.prog) W 22 5 i0 (.int .u8 0) Tryz.underlying22 hi hz0 .i64 .i64 4 (N : Int) (by omega) (by omega) (by rw [hz2]; omega) (by omega), Int.toNat_natCast, hz1]
  have e : (byC ((List.replicate 4 0) ++ List.replicate (N - (List.replicate 4 (0 : UInt8)).length) 0)).toArray = madeCells (Value.int .u8 0).cells (N * 1) := by
    have h1 : ∀ i, i < (Value.int IntKind.u8 0).cells.size → (Value.int IntKind.u8 0).cells[i]? = some (Value.int .u8 0) := fun i hi => by
      have h0 : i < 1 := hi
      have : i = 0 := by omega
      subst this; rfl
    rw [made_zero _ (N * 1) 0 h1 (by decide), List.length_replicate, List.replicate_append_replicate, Nat.mul_one, show 4 + (N - 4) = N by omega]
    simp [byC]
  rw [e]
  rfl
theorem Bz.made {w : World} {Z : Array Value} {N : Nat} (hN : 4 ≤ N) (hZ : Z = (byC ((List.replicate 4 0) ++ List.replicate (N - (List.replicate 4 (0 : UInt8)).length) 0)).toArray) : Bz w (w.alloc (.cells Z 5)) w.heap.size (List.replicate 4 0) N :=
  ⟨(Below.refl _ _).alloc (Nat.le_refl _) _, Nat.le_refl _, by rw [← hZ]; exact heap_alloc_new w _, by simpa using hN⟩
/-- The sum is written in front. -/
theorem Bz.front {w0 w w' g N} {r : List UInt8} (h : Bz w0 w g (List.replicate 4 0 ++ r) N) (hr : 4 + r.length ≤ N) (hN9 : N ≤ 1000000) (hb : Below w0.heap.size w0 w') (s : List UInt8) (hs : s.length = 4) (hw : w'.heap[g]? = some (.cells (splice (byC ((List.replicate 4 0 ++ r) ++ List.replicate (N - (List.replicate 4 0 ++ r).length) 0)) 0 (byC s)).toArray 5 (0, 0))) :
    w'.ownsRow w0.heap.size 5 1 (.slice (some ⟨g, 0, none⟩) N N) N (byC (s ++ (r ++ List.replicate (N - 4 - r.length) 0))) := by
  have e : splice (byC ((List.replicate 4 0 ++ r) ++ List.replicate (N - (List.replicate 4 0 ++ r).length) 0)) 0 (byC s) = byC (s ++ (r ++ List.replicate (N - 4 - r.length) 0)) := by
    have e1 : ∀ (L C : List Value), splice L 0 C = putL L 0 C := fun L C => by unfold splice putL; rw [List.append_assoc]
    rw [e1, ← byC_putL, List.append_assoc, putL_head _ _ _ (by rw [hs]; simp), List.length_append, List.length_replicate, show N - (4 + r.length) = N - 4 - r.length by omega]
  have hl : (byC (s ++ (r ++ List.replicate (N - 4 - r.length) 0))).length = N := by
    rw [byC_len, List.length_append, List.length_append, List.length_replicate]; omega
  have h1 := hw
  rw [e] at h1
  refine ⟨by rw [hl, Nat.mul_one], .inr ⟨g, N, _, rfl, h.ge, h1, Nat.le_refl _, by simp only [maxLen]; omega, by rw [List.size_toArray, hl, Nat.mul_one], by rw [List.toList_toArray, List.take_of_length_le (by omega)]⟩⟩
set_option maxRecDepth 100000 in
set_option maxHeartbeats 800000 in
theorem c_lay (n st pg po cp : Nat) (hn : n ≤ 4294967295) (hst : st < 18446744073709551616) (p : List UInt8) (L : Nat) (hL : L ≤ 496) (hl : p.length = L) (w : World) (hr : w.rangeAt pg po (byC p)) (hpg : pg < w.heap.size) :
    Calls Tryz.prog 118 #[.int .i64 (n : Int), .int .u64 (st : Int), .slice (some ⟨pg, po, none⟩) L cp] w fun e w' => ∃ g, e = .returned (.tuple #[.slice (some ⟨g, 0, none⟩) 512 512, .int .i64 0]) ∧ w'.ownsRow w.heap.size 5 1 (.slice (some ⟨g, 0, none⟩) 512 512) 512 (byC (Vm.lay n st p)) ∧ Below w.heap.size w w' := by
  obtain ⟨Z, hZ, hMk⟩ := make4 512 (by decide) (by decide)
  have hZ' := Hid.mk hZ
  have hl' := Hid.mk hl
  have hr' := Hid.mk hr
  have hi5 : Hid ((Tryz.prog.info? 5).map (·.size) = some 1) := by show _ = _; kernel_rfl
  clear hZ hl hr
  have hMk' : ∀ W : World, (Instr.makeSlice 22 (.int .i64 4) (.int .i64 512)).run Tryz.prog W = .ok (.slice (some ⟨W.heap.size, 0, none⟩) 4 512) (W.alloc (.cells Z 5)) := hMk
  clear hMk
  go_enter Tryz.func118, Tryz.ntmps118
  go_wp2_with fail
  refine (c_putZ w _ w.heap.size 4 512 4 n _ (Bz.made (by decide) hZ'.out) rfl (by decide) (by decide)).mono ?_
  rintro e w1 ⟨rfl, H1, gr1⟩
  go_wp2_with fail
  refine (c_putZ w w1 w.heap.size 8 512 8 st _ H1 (by simp [Vm.put_len]) (by decide) (by decide)).mono ?_
  rintro e w2 ⟨rfl, H2, gr2⟩
  have hr2 := Hid.mk (rangeAt_below hr'.out H2.low hpg)
  go_wp2_with (at_builtin; refine wpList_app_Z rfl (.tmp 28) (.tmp 29) rfl w.heap.size 16 512 _ H2 (by simp [Vm.put_len]) rfl pg po L cp p rfl hl'.out hr2.out (by omega) ?_; intro w3 H3)
  obtain ⟨r, hr⟩ : ∃ r, Hid (r = Vm.fill 508 (Vm.put n 4 ++ Vm.put st 8 ++ p)) := ⟨_, Hid.mk rfl⟩
  have hrl : r.length = 508 := by rw [hr.out]; unfold Vm.fill; simp only [List.length_append, List.length_replicate, Vm.put_len, hl'.out]; omega
  have hs4 : w3.rangeAt w.heap.size 4 (byC r) := by
    have := rangeAt_part H3.range 4 508
    rw [Nat.zero_add, byC_drop, byC_take] at this
    have e : List.take 508 (List.drop 4 ((List.replicate 4 0 ++ Vm.put n 4 ++ Vm.put st 8 ++ p) ++ List.replicate (512 - (List.replicate 4 (0 : UInt8) ++ Vm.put n 4 ++ Vm.put st 8 ++ p).length) 0)) = r := by
      rw [hr.out]; unfold Vm.fill
      simp only [List.append_assoc]
      rw [List.drop_left' (by simp), List.take_of_length_le]
      · simp only [List.length_append, List.length_replicate, Vm.put_len, hl'.out]
        rw [show 512 - (4 + (4 + (8 + L))) = 508 - (4 + (8 + L)) by omega]
      · simp only [List.length_append, List.length_replicate, Vm.put_len, hl'.out]; omega
    rw [e] at this
    exact this
  have hs4' := Hid.mk hs4
  have hrl' := Hid.mk hrl
  clear hs4 hrl
  have hsum : (Vm.sum r : Int) < 4294967296 := by have := Vm.sum_lt r; omega
  go_wp2_with fail
  refine (c_sumL w.heap.size 4 508 508 r w3 (by omega) hrl'.out (by omega) hs4'.out).mono ?_
  rintro e w' ⟨rfl, rfl⟩
  go_wp2_with fail
  have hsN : Hid (Vm.sum r < 18446744073709551616) := by have := Vm.sum_lt r; show _ < _; omega
  refine (c_put0 (Vm.sum r) hsN.out w').mono ?_
  rintro e w4 ⟨h, c, rfl, hh, hr4, hb4⟩
  have H4 := Hid.mk (H3.below hb4 H3.lt H3.low.size)
  have hr4' := Hid.mk (src_mid hr4)
  clear hr4
  go_wp2_with (refine wpList_copy_splice (o := ⟨some 38, _, _, _, _, _⟩) rfl (.tmp 32) (.tmp 37) 22 22 rfl 5 Tryz.underlying22 hi5.out (some ⟨w.heap.size, 0, none⟩) (some ⟨h, 0, none⟩) 512 512 4 c rfl rfl w.heap.size 0 _ 5 H4.out.row (byC (Vm.put (Vm.sum r) 4)) (by rw [byC_len, Vm.put_len]; rfl) (fun _ => ⟨rfl, ⟨h, 0, none⟩, rfl, hr4'.out⟩) (by rw [byC_len, Vm.put_len, H4.out.len]; decide) (byC_one _) w.heap.size w H4.out.low (Nat.le_refl _) ?_; intro w5 hw5 hb5)
  go_ret2
  refine ⟨_, rfl, ?_, hb5⟩
  have := Bz.front (r := Vm.put n 4 ++ Vm.put st 8 ++ p) (by simpa only [List.append_assoc] using H4.out) (by simp only [List.length_append, Vm.put_len, hl'.out]; omega) (by decide) hb5 (Vm.put (Vm.sum r) 4) (Vm.put_len _ _) (by simpa only [List.append_assoc] using hw5.out)
  have e : Vm.lay n st p = Vm.put (Vm.sum r) 4 ++ r := by rw [hr.out]; rfl
  rw [e, hr.out]
  unfold Vm.fill
  rw [hr.out] at this
  unfold Vm.fill at this
  exact this
end Go.Proofs.YtoacaikopcdkmaaGreat
