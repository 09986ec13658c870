/- sheet.PutHead. sheet.GetHead. The tape in memory: Flush, Groups, Free. tape.Append. No condition. -/
import Derived.Test.YtoacaikopcdkmaaGreatZ12
set_option linter.unusedSimpArgs false
set_option linter.unusedVariables false
namespace Go.Proofs.YtoacaikopcdkmaaGreat
open Go.RowKit Go.Sort
theorem plan_pos {n : Nat} {pl : Vm.Plan} (h : Vm.draft n = some pl) : 0 < pl.pages := by
  obtain ⟨h1, h2, h3, h4, h5⟩ := draft_some h
  rw [h5]; omega
set_option maxRecDepth 100000 in
set_option maxHeartbeats 800000 in
theorem c_phead (κ : Nat → Nat) (c a gn st : Nat) (d : Vm.Drum) (pl : Vm.Plan) (w : World) (hD : DrumAt κ c w a d) (hz : Cz κ w) (hc0 : 1 ≤ c) (hp : Vm.draft d.now.length = some pl) (hg1 : 1 ≤ gn) (hg2 : gn ≤ 4294967295) (hst : st < 18446744073709551616) (hL : d.loose.length ≤ 500000) :
    Calls Tryz.prog 140 #[.pointer (some ⟨a, 0, none⟩), .agg #[.int .i64 (gn : Int), .int .u64 (st : Int)]] w fun e w' => e = .returned (.int .i64 ((d.write (gn % 2) (Vm.layHead ⟨gn, st⟩)).1 : Int)) ∧ DAt κ c w w' a (d.write (gn % 2) (Vm.layHead ⟨gn, st⟩)).2 := by
  obtain ⟨q, hq⟩ : ∃ q, Hid (q = Vm.layHead ⟨gn, st⟩) := ⟨_, Hid.mk rfl⟩
  have hql : Hid (q.length = 64) := by
    show _ = _
    rw [hq.out, Vm.layHead_eq]
    simp [Vm.put_len]
  obtain ⟨h1, h2, h3, h4, h5⟩ := draft_some hp
  obtain ⟨S, hS⟩ : ∃ S, Hid (S = w.alloc (.cells #[.int .i64 (gn : Int), .int .u64 (st : Int)] 94)) := ⟨_, Hid.mk rfl⟩
  have hSb : Hid (Below w.heap.size w S) := by rw [hS.out]; exact (Below.refl _ _).alloc (Nat.le_refl _) _
  have hSr : Hid (S.heap[w.heap.size]? = some (.cells #[.int .i64 (gn : Int), .int .u64 (st : Int)] 94 (0, 0))) := by show _ = _; rw [hS.out]; exact heap_alloc_new w _
  have cw := Hid.mk (c_where κ c a 0 d pl S (hD.to (To.of_below No κ hSb.out) (fun _ _ h => h)) hp (plan_pos hp))
  obtain ⟨B, hB⟩ : ∃ B, Hid (B = pl.base + 0 * 8) := ⟨_, Hid.mk rfl⟩
  rw [← hB.out] at cw
  have hG1 : ∀ V : World, Calls Tryz.prog 136 #[.agg #[.int .i64 (gn : Int), .int .u64 (st : Int)]] V fun e w' => ∃ h, e = .returned (.tuple #[.slice (some ⟨h, 0, none⟩) 64 64, .int .i64 0]) ∧ w'.ownsRow V.heap.size 5 1 (.slice (some ⟨h, 0, none⟩) 64 64) 64 (byC q) ∧ Below V.heap.size V w' := fun V => by
    rw [hq.out]; exact c_layHead gn st hg1 hg2 hst V
  have hG1' := Hid.mk hG1
  rw [← hq.out]
  obtain ⟨er, d2, hwr⟩ := pair_ex (d.write (gn % 2) q)
  rw [hwr.out]
  have cW : ∀ κ w1 h, DrumAt κ c w1 a d → Cz κ w1 → w1.rangeAt h 0 (byC q) → ¬ Dc c (κ h) → Calls Tryz.prog 16 #[.pointer (some ⟨a, 0, none⟩), .int .i64 ((gn : Int) % 2), .slice (some ⟨h, 0, none⟩) 64 64] w1 fun e w' => e = .returned (.int .i64 (er : Int)) ∧ DAt κ c w1 w' a d2 := fun κ w1 h hD1 hz1 hr hc => by
    have := c_write κ c a (gn % 2) h 0 64 q d w1 hD1 hz1 hql.out hr hc (by omega)
    rw [hwr.out] at this
    rw [show (gn : Int) % 2 = ((gn % 2 : Nat) : Int) by omega]
    exact this
  have cW' := Hid.mk cW
  have hD' := Hid.mk hD
  have hz' := Hid.mk hz
  have hsz : w.heap.size < S.heap.size := (Array.getElem?_eq_some_iff.1 hSr.out).1
  clear hG1 cW hD hz hp h3 h4 h5 hst
  rw [hS.out] at cw
  go_enter Tryz.func140, Tryz.ntmps140
  go_wp2_with (first
    | (go_at_call 100; refine cw.out.mono ?_; rintro e w1 ⟨rfl, hb1⟩; rw [← hS.out] at hb1; have h1r := Hid.mk ((hb1.block _ hsz).trans hSr.out); have c0 : w1.cell? ⟨w.heap.size, 0, none⟩ = some (.int .i64 (gn : Int)) := cell_at h1r.out rfl; have c1 : w1.cell? ⟨w.heap.size, 1, none⟩ = some (.int .u64 (st : Int)) := cell_at h1r.out rfl)
    | (go_at_call 136; refine (hG1'.out w1).mono ?_; rintro e w2 ⟨h, rfl, hown, hb2⟩; have h2r := Hid.mk ((hb2.block _ (Nat.lt_of_lt_of_le hsz hb1.size)).trans h1r.out); have d0 : w2.cell? ⟨w.heap.size, 0, none⟩ = some (.int .i64 (gn : Int)) := cell_at h2r.out rfl)
    | (go_at_call 16; have hbA := Hid.mk (hSb.out.trans ((hb1.trans (hb2.mono hb1.size)).mono hSb.out.size)); refine (cW'.out κ w2 h (hD'.out.to (To.of_below No κ hbA.out) (fun _ _ h => h)) (fun b hb => hz'.out b (Nat.le_trans hbA.out.size hb)) (own_range hown) (fun hc => by have h0 := hz'.out h (Nat.le_trans hSb.out.size (Nat.le_trans hb1.size (hown.lt h rfl).1)); rw [h0] at hc; have := hc.1; omega)).mono ?_; rintro e w3 ⟨rfl, hd3⟩))
  go_ret
  refine ⟨rfl, ?_⟩
  obtain ⟨κ3, hD3, hT3, hz3⟩ := hd3
  exact ⟨κ3, hD3, (To.of_below (Dc c) κ hbA.out).trans hT3, hz3⟩
end Go.Proofs.YtoacaikopcdkmaaGreat

namespace Go.Proofs.YtoacaikopcdkmaaGreat
open Go.RowKit Go.Sort
def bUpd (best : Vm.Head) : Option Vm.Head → Vm.Head
  | some h => if best.gen < h.gen then h else best
  | none => best
/-- The best of the first k heads. -/
def bf (d : Vm.Drum) : Nat → Nat × Vm.Head × Vm.Drum
  | 0 => (0, ⟨0, 0⟩, d)
  | k + 1 => if (bf d k).1 = 0 then (match (bf d k).2.2.read k with | (0, b, d') => (0, bUpd (bf d k).2.1 (Vm.takeHead b), d') | (e, _, d') => (e, ⟨0, 0⟩, d')) else bf d k
theorem head_pos {b : List UInt8} {h : Vm.Head} (e : Vm.takeHead b = some h) : 1 ≤ h.gen ∧ h.gen ≤ 4294967295 := by
  unfold Vm.takeHead at e
  split at e
  · cases e
  · simp only at e
    split at e
    · rename_i h1; cases e; exact ⟨h1.1, h1.2.1⟩
    · cases e
theorem getHead_bf (d : Vm.Drum) : Vm.getHead d = if (bf d 2).1 = 0 then (if (bf d 2).2.1.gen = 0 then (11, ⟨0, 0⟩, (bf d 2).2.2) else (0, (bf d 2).2.1, (bf d 2).2.2)) else ((bf d 2).1, ⟨0, 0⟩, (bf d 2).2.2) := by
  unfold Vm.getHead
  simp only [bf, if_pos]
  obtain ⟨e0, b0, d0, h0⟩ := trip_ex (d.read 0)
  rw [h0.out]
  rcases e0 with _ | e0
  · simp only [if_pos]
    obtain ⟨e1, b1, d1, h1⟩ := trip_ex (d0.read 1)
    rw [h1.out]
    rcases e1 with _ | e1
    · simp only [if_pos]
      have hb : bUpd ⟨0, 0⟩ (Vm.takeHead b0) = (match Vm.takeHead b0 with | some h => h | none => ⟨0, 0⟩) := by
        cases ht : Vm.takeHead b0 with
        | none => rfl
        | some h => unfold bUpd; simp only; rw [if_pos (show 0 < h.gen from (head_pos ht).1)]
      rw [hb]
      rfl
    · simp
  · simp
theorem bf_stop {d : Vm.Drum} {i : Nat} (h : (bf d i).1 ≠ 0) : ∀ j, bf d (i + j) = bf d i
  | 0 => rfl
  | j + 1 => by rw [← Nat.add_assoc, bf, bf_stop h j, if_neg h]
/-- What GetHead answers. -/
def GHAns (κ : Nat → Nat) (c : Nat) (w : World) (a : Nat) (R : Nat × Vm.Head × Vm.Drum) (e : Ending) (w' : World) : Prop :=
  e = .returned (.tuple #[.agg #[.int .i64 (R.2.1.gen : Int), .int .u64 (R.2.1.stamp : Int)], .int .i64 (R.1 : Int)]) ∧ DrumAt κ c w' a R.2.2 ∧ To (Dc c) κ κ w w'
set_option maxRecDepth 100000 in
set_option maxHeartbeats 1600000 in
theorem c_ghead (κ : Nat → Nat) (c a : Nat) (d : Vm.Drum) (pl : Vm.Plan) (w : World) (hD : DrumAt κ c w a d) (hz : Cz κ w) (hc0 : 1 ≤ c) (hp : Vm.draft d.now.length = some pl) :
    Calls Tryz.prog 53 #[.pointer (some ⟨a, 0, none⟩)] w (GHAns κ c w a (Vm.getHead d)) := by
  obtain ⟨R, hR⟩ : ∃ R, Hid (R = Vm.getHead d) := ⟨_, Hid.mk rfl⟩
  have hRb := Hid.mk (getHead_bf d)
  rw [← hR.out] at hRb ⊢
  obtain ⟨S, hS⟩ : ∃ S, Hid (S = w.alloc (.cells #[.int .i64 0, .int .u64 0] 94)) := ⟨_, Hid.mk rfl⟩
  have hSb : Hid (Below w.heap.size w S) := by rw [hS.out]; exact (Below.refl _ _).alloc (Nat.le_refl _) _
  have hSr : Hid (S.heap[w.heap.size]? = some (.cells #[.int .i64 0, .int .u64 0] 94 (0, 0))) := by show _ = _; rw [hS.out]; exact heap_alloc_new w _
  have cw := Hid.mk (c_where κ c a 0 d pl S (hD.to (To.of_below No κ hSb.out) (fun _ _ h => h)) hp (plan_pos hp))
  obtain ⟨B, hB⟩ : ∃ B, Hid (B = pl.base + 0 * 8) := ⟨_, Hid.mk rfl⟩
  rw [← hB.out, hS.out] at cw
  have hD' := Hid.mk hD
  have hz' := Hid.mk hz
  have hsz : w.heap.size < S.heap.size := (Array.getElem?_eq_some_iff.1 hSr.out).1
  clear hD hz hp
  go_enter Tryz.func53, Tryz.ntmps53
  go_wp2_with (go_at_call 100; refine cw.out.mono ?_; rintro e w1 ⟨rfl, hb1⟩; rw [← hS.out] at hb1)
  have hbA : Hid (Below w.heap.size w w1) := hSb.out.trans (hb1.mono hSb.out.size)
  have h1s : Hid (w.heap.size < w1.heap.size) := Nat.lt_of_lt_of_le hsz hb1.size
  go_loopw [21] (fun i wr => ∃ (k : Nat), k ≤ 2 ∧ i = .int .i64 (k : Int) ∧ Hid ((bf d k).1 = 0) ∧ DrumAt κ c wr a (bf d k).2.2 ∧ To (Dc c) κ κ w wr ∧ Hid (w1.heap.size < wr.heap.size) ∧
      Hid (wr.heap[w.heap.size]? = some (.cells #[.int .i64 0, .int .u64 0] 94 (0, 0))) ∧ Hid (wr.heap[w1.heap.size]? = some (.cells #[.int .i64 ((bf d k).2.1.gen : Int), .int .u64 ((bf d k).2.1.stamp : Int)] 94 (0, 0)))) (fun i _ => 2 - (intOf i).toNat)
  case atStart =>
    refine ⟨0, by omega, rfl, rfl, ?_, ?_, ?_, ?_, heap_alloc_new w1 _⟩
    · exact (hD'.out.to (To.of_below No κ hbA.out) (fun _ _ h => h)).to ((To.refl No κ w1).alloc _) (fun _ _ h => h)
    · exact (To.of_below (Dc c) κ hbA.out).alloc _
    · show _ < _; simp
    · exact (Below.heap_alloc w1 _ _ h1s.out).trans ((hb1.block _ hsz).trans hSr.out)
  case round =>
    obtain ⟨k, hk, rfl, hok, hDr, hTr, hws, hH0, hH6⟩ := hrel
    obtain ⟨bg, hbg⟩ : ∃ x, Hid (x = (bf d k).2.1.gen) := ⟨_, Hid.mk rfl⟩
    obtain ⟨bs, hbs⟩ : ∃ x, Hid (x = (bf d k).2.1.stamp) := ⟨_, Hid.mk rfl⟩
    rw [← hbg.out, ← hbs.out] at hH6
    by_cases hlt : k < 2
    · obtain ⟨e2, s2, d2, hrd⟩ := trip_ex ((bf d k).2.2.read k)
      have hk0 : Hid (κ w1.heap.size = 0) := hz'.out _ hbA.out.size
      by_cases he : e2 = 0
      · subst he
        have cR := Hid.mk (c_read0 κ c a k _ wr hDr hrd.out)
        have hsl := Hid.mk (read_wid hDr.1 hrd.out)
        have hbk : Hid (bf d (k + 1) = (0, bUpd (bf d k).2.1 (Vm.takeHead s2), d2)) := by show _ = _; rw [bf, if_pos hok.out, hrd.out]; rfl
        have hst : ∀ w3 w4, To (Dc c) κ κ wr w3 → DrumAt κ c w3 a d2 → Below w3.heap.size w3 w4 → To (Dc c) κ κ w w4 ∧ DrumAt κ c w4 a d2 ∧ w1.heap.size < w4.heap.size ∧ w4.heap[w.heap.size]? = some (.cells #[.int .i64 0, .int .u64 0] 94 (0, 0)) ∧ w4.heap[w1.heap.size]? = some (.cells #[.int .i64 (bg : Int), .int .u64 (bs : Int)] 94 (0, 0)) := fun w3 w4 t hd hb => by
          have hwr := hws.out
          have n1 : ¬ Dc c (κ w1.heap.size) := fun h => by rw [hk0.out] at h; have := h.1; omega
          have n0 : ¬ Dc c (κ w.heap.size) := fun h => by rw [hz'.out _ (Nat.le_refl _)] at h; have := h.1; omega
          have s3 := t.size
          have h1s' := h1s.out
          refine ⟨(hTr.trans t).below hb (hTr.trans t).size, hd.to (To.of_below No κ hb) (fun _ _ h => h), Nat.lt_of_lt_of_le (Nat.lt_of_lt_of_le hwr s3) hb.size, ?_, ?_⟩
          · rw [hb.block _ (by omega), t.blk _ (by omega) n0]; exact hH0.out
          · rw [hb.block _ (by omega), t.blk _ (by omega) n1]; exact hH6.out
        have hst' := Hid.mk hst
        clear hst hDr
        have hLt : Hid (∀ w4 : World, w1.heap.size < w4.heap.size → ∀ X k, k ≤ w1.heap.size → (w4.alloc X).heap[k]? = w4.heap[k]?) := fun w4 h X k hk => Below.heap_alloc w4 X k (by omega)
        cases hth : Vm.takeHead s2 with
        | none =>
          have cH : Hid (∀ g cp w3, 64 ≤ cp → w3.rangeAt g 0 (byC s2) → g < w3.heap.size → Calls Tryz.prog 101 #[.slice (some ⟨g, 0, none⟩) 64 cp] w3 fun e w' => ∃ gn st er : Nat, e = .returned (.tuple #[.agg #[.int .i64 (gn : Int), .int .u64 (st : Int)], .int .i64 (er : Int)]) ∧ 0 < er ∧ Below w3.heap.size w3 w') := fun g cp w3 h1 h2 h3 => by
            refine (c_takeHead g 0 cp s2 hsl.out h1 w3 h2 h3).mono ?_
            rintro e w' ⟨gn, st, er, h1, h2, h3 | h3⟩
            · rw [hth] at h3; cases h3.1
            · exact ⟨gn, st, er, h1, h3.2, h2⟩
          rw [hth] at hbk
          clear hth
          go_wp2_with (first
            | (go_at_call 97; refine cR.out.mono ?_; rintro e w3 ⟨g, cp, rfl, hg, hcp, hr3, hD3, hT3⟩; have hgl := Hid.mk (World.block_lt_of_cell? (a := ⟨g, 0 + 0, none⟩) w3 (hr3 0 _ (List.getElem?_eq_getElem (by rw [byC_len, hsl.out]; decide)))))
            | (go_at_call 101; refine (cH.out g cp w3 hcp hr3 hgl.out).mono ?_; rintro e w4 ⟨gn, st, er, rfl, her, hb4⟩; have her' : ((er : Int) == 0) = false := by (rw [beq_eq_false_iff_ne]; omega)))
          go_roundw
          case rel =>
            obtain ⟨a1, a2, a3, a4, a5⟩ := hst'.out w3 w4 hT3 hD3 hb4
            refine ⟨k + 1, by omega, by go_num, by rw [hbk.out]; rfl, ?_, a1.alloc _, ?_, ?_, ?_⟩
            · rw [hbk.out]; exact a2.to ((To.refl No κ w4).alloc _) (fun _ _ h => h)
            · show _ < _; simp; omega
            · exact (hLt.out w4 a3 _ _ (Nat.le_of_lt h1s.out)).trans a4
            · show _ = _
              rw [hbk.out, hLt.out w4 a3 _ _ (Nat.le_refl _)]
              unfold bUpd
              rw [← hbg.out, ← hbs.out]; exact a5
          case measure => simp [intOf]; omega
        | some hh =>
          obtain ⟨gn, st⟩ := hh
          have cH : Hid (∀ g cp w3, 64 ≤ cp → w3.rangeAt g 0 (byC s2) → g < w3.heap.size → Calls Tryz.prog 101 #[.slice (some ⟨g, 0, none⟩) 64 cp] w3 fun e w' => e = .returned (.tuple #[.agg #[.int .i64 (gn : Int), .int .u64 (st : Int)], .int .i64 0]) ∧ Below w3.heap.size w3 w') := fun g cp w3 h1 h2 h3 => by
            refine (c_takeHead g 0 cp s2 hsl.out h1 w3 h2 h3).mono ?_
            rintro e w' ⟨gn', st', er, h1, h2, h3 | h3⟩
            · rw [hth] at h3; have h5 := h3.1; cases h5; rw [h1, h3.2]; exact ⟨rfl, h2⟩
            · rw [hth] at h3; cases h3.1
          rw [hth] at hbk
          clear hth
          by_cases hgt : bg < gn
          · have hbk2 : Hid (bf d (k + 1) = (0, ⟨gn, st⟩, d2)) := by show _ = _; rw [hbk.out]; unfold bUpd; simp only; rw [if_pos (by rw [← hbg.out]; exact hgt)]
            go_wp2_with (first
              | (go_at_call 97; refine cR.out.mono ?_; rintro e w3 ⟨g, cp, rfl, hg, hcp, hr3, hD3, hT3⟩; have hgl := Hid.mk (World.block_lt_of_cell? (a := ⟨g, 0 + 0, none⟩) w3 (hr3 0 _ (List.getElem?_eq_getElem (by rw [byC_len, hsl.out]; decide)))))
              | (go_at_call 101; refine (cH.out g cp w3 hcp hr3 hgl.out).mono ?_; rintro e w4 ⟨rfl, hb4⟩; have q4 := Hid.mk (hst'.out w3 w4 hT3 hD3 hb4); have hlt4 := q4.out.2.2.1; have d0 : w4.cell? ⟨w1.heap.size, 0, none⟩ = some (.int .i64 (bg : Int)) := cell_at q4.out.2.2.2.2 rfl; have d1 : w4.cell? ⟨w1.heap.size, 1, none⟩ = some (.int .u64 (bs : Int)) := cell_at q4.out.2.2.2.2 rfl; have g0 : w4.frozen? ⟨w1.heap.size, 0, none⟩ = false := frozen_at q4.out.2.2.2.2; have g1 : w4.frozen? ⟨w1.heap.size, 1, none⟩ = false := frozen_at q4.out.2.2.2.2))
            go_roundw
            case rel =>
              obtain ⟨a1, a2, a3, a4, a5⟩ := q4.out
              have n1 : w1.heap.size < w.heap.size → Dc c (κ w1.heap.size) := fun h => absurd h1s.out (by omega)
              refine ⟨k + 1, by omega, by go_num, by rw [hbk2.out]; rfl, ?_, ((a1.setCell _ n1).setCell _ n1).alloc _, ?_, ?_, ?_⟩
              · rw [hbk2.out]
                refine a2.to (S := fun j => j = 0) ((((To.refl _ κ w4).setCell _ (fun _ => hk0.out)).setCell _ (fun _ => hk0.out)).alloc _) (fun k hk h => ?_)
                have := hk.1; omega
              · show _ < _; simp; omega
              · show _ = _
                have hne := Nat.ne_of_lt h1s.out
                rw [Below.heap_alloc _ _ _ (by simp; have := h1s.out; omega), Below.heap_setCell _ _ _ _ hne, Below.heap_setCell _ _ _ _ hne]; exact a4
              · show _ = _
                rw [hbk2.out, Below.heap_alloc _ _ _ (by simp; omega)]
                exact heap_setCell_at (i := 1) _ (heap_setCell_at (i := 0) _ a5)
            case measure => simp [intOf]; omega
          · have hbk2 : Hid (bf d (k + 1) = (0, (bf d k).2.1, d2)) := by show _ = _; rw [hbk.out]; unfold bUpd; simp only; rw [if_neg (by rw [← hbg.out]; exact hgt)]
            go_wp2_with (first
              | (go_at_call 97; refine cR.out.mono ?_; rintro e w3 ⟨g, cp, rfl, hg, hcp, hr3, hD3, hT3⟩; have hgl := Hid.mk (World.block_lt_of_cell? (a := ⟨g, 0 + 0, none⟩) w3 (hr3 0 _ (List.getElem?_eq_getElem (by rw [byC_len, hsl.out]; decide)))))
              | (go_at_call 101; refine (cH.out g cp w3 hcp hr3 hgl.out).mono ?_; rintro e w4 ⟨rfl, hb4⟩; have q4 := Hid.mk (hst'.out w3 w4 hT3 hD3 hb4); have hlt4 := q4.out.2.2.1; have d0 : w4.cell? ⟨w1.heap.size, 0, none⟩ = some (.int .i64 (bg : Int)) := cell_at q4.out.2.2.2.2 rfl))
            go_roundw
            case rel =>
              obtain ⟨a1, a2, a3, a4, a5⟩ := q4.out
              refine ⟨k + 1, by omega, by go_num, by rw [hbk2.out]; rfl, ?_, a1.alloc _, ?_, ?_, ?_⟩
              · rw [hbk2.out]; exact a2.to ((To.refl No κ w4).alloc _) (fun _ _ h => h)
              · show _ < _; simp; omega
              · exact (hLt.out w4 a3 _ _ (Nat.le_of_lt h1s.out)).trans a4
              · show _ = _
                rw [hbk2.out, hLt.out w4 a3 _ _ (Nat.le_refl _), ← hbg.out, ← hbs.out]; exact a5
            case measure => simp [intOf]; omega
      · have he' : ((e2 : Int) != 0) = true := by rw [bne_iff_ne]; omega
        have cR := Hid.mk (c_read1 κ c a k _ wr hDr hrd.out)
        have hbk : Hid (bf d (k + 1) = (e2, ⟨0, 0⟩, d2)) := by
          show _ = _
          rw [bf, if_pos hok.out, hrd.out]
          rcases e2 with _ | e2
          · exact absurd rfl he
          · rfl
        have hst : Hid (R = (e2, ⟨0, 0⟩, d2)) := by
          show _ = _
          have := bf_stop (d := d) (i := k + 1) (by rw [hbk.out]; exact he) (2 - (k + 1))
          rw [show k + 1 + (2 - (k + 1)) = 2 by omega, hbk.out] at this
          rw [hRb.out, this, if_neg he]
        have hk00 : Hid (κ w.heap.size = 0) := hz'.out _ (Nat.le_refl _)
        have n0 : Hid (¬ Dc c (κ w.heap.size)) := fun h => by rw [hk00.out] at h; have := h.1; omega
        have hs0 : Hid (w.heap.size < wr.heap.size) := (Array.getElem?_eq_some_iff.1 hH0.out).1
        clear he hDr
        go_wp2_with (go_at_call 97; refine cR.out.mono ?_; rintro e w3 ⟨v, rfl, hD3, hT3⟩; have h3 := Hid.mk ((hT3.blk _ hs0.out n0.out).trans hH0.out); have c0 : w3.cell? ⟨w.heap.size, 0, none⟩ = some (.int .i64 0) := cell_at h3.out rfl; have c1 : w3.cell? ⟨w.heap.size, 1, none⟩ = some (.int .u64 0) := cell_at h3.out rfl; have f0 : w3.frozen? ⟨w.heap.size, 0, none⟩ = false := frozen_at h3.out; have f1 : w3.frozen? ⟨w.heap.size, 1, none⟩ = false := frozen_at h3.out)
        refine bodyPost_ret (v := .tuple #[.agg #[.int .i64 0, .int .u64 0], .int .i64 (e2 : Int)]) (by simp [results, Tryz.results53, go_sem, c0, c1]) rfl ?_
        rw [hst.out]
        refine ⟨rfl, ?_, ((hTr.trans hT3).setCell _ (fun h => absurd h (Nat.lt_irrefl _))).setCell _ (fun h => absurd h (Nat.lt_irrefl _))⟩
        refine (hD3.to (S := fun j => j = 0) (((To.refl _ κ w3).setCell _ (fun _ => hk00.out)).setCell _ (fun _ => hk00.out)) (fun k hk h => ?_))
        have := hk.1; omega
    · have hk2 : k = 2 := by omega
      subst hk2
      rw [if_pos hok.out, ← hbg.out] at hRb
      have c0 : wr.cell? ⟨w.heap.size, 0, none⟩ = some (.int .i64 0) := cell_at hH0.out rfl
      have c1 : wr.cell? ⟨w.heap.size, 1, none⟩ = some (.int .u64 0) := cell_at hH0.out rfl
      have f0 : wr.frozen? ⟨w.heap.size, 0, none⟩ = false := frozen_at hH0.out
      have f1 : wr.frozen? ⟨w.heap.size, 1, none⟩ = false := frozen_at hH0.out
      have d0 : wr.cell? ⟨w1.heap.size, 0, none⟩ = some (.int .i64 (bg : Int)) := cell_at hH6.out rfl
      have d1 : wr.cell? ⟨w1.heap.size, 1, none⟩ = some (.int .u64 (bs : Int)) := cell_at hH6.out rfl
      have fin : ∀ (u v : Value) (R' : Nat × Vm.Head × Vm.Drum), R = R' → R'.2.2 = (bf d 2).2.2 → u = .int .i64 (R'.2.1.gen : Int) → v = .int .u64 (R'.2.1.stamp : Int) → GHAns κ c w a R (.returned (.tuple #[.agg #[u, v], .int .i64 (R'.1 : Int)])) ((wr.setCell ⟨w.heap.size, 0, none⟩ u).setCell ⟨w.heap.size, 1, none⟩ v) := fun u v R' e1 e2 e3 e4 => by
        rw [e1, e3, e4]
        refine ⟨rfl, ?_, (hTr.setCell _ (fun h => absurd h (Nat.lt_irrefl _))).setCell _ (fun h => absurd h (Nat.lt_irrefl _))⟩
        rw [e2]
        have hk0 : κ w.heap.size = 0 := hz'.out _ (Nat.le_refl _)
        refine (hDr.to (S := fun j => j = 0) (((To.refl _ κ wr).setCell _ (fun _ => hk0)).setCell _ (fun _ => hk0)) (fun k hk h => ?_))
        have := hk.1; omega
      have fin' := Hid.mk fin
      clear fin
      by_cases hg0 : bg = 0
      · rw [if_pos hg0] at hRb
        have hg0' : ((bg : Int) == 0) = true := by rw [hg0]; rfl
        have hR2 := Hid.mk hRb.out
        clear hRb hg0
        go_wp2
        refine bodyPost_ret (v := .tuple #[.agg #[.int .i64 0, .int .u64 0], .int .i64 11]) (by simp [results, Tryz.results53, go_sem, c0, c1]) rfl ?_
        exact fin'.out _ _ _ hR2.out rfl rfl rfl
      · rw [if_neg hg0] at hRb
        have hg0' : ((bg : Int) == 0) = false := by rw [beq_eq_false_iff_ne]; omega
        have hR2 := Hid.mk hRb.out
        clear hRb hg0
        go_wp2
        refine bodyPost_ret (v := .tuple #[.agg #[.int .i64 (bg : Int), .int .u64 (bs : Int)], .int .i64 0]) (by simp [results, Tryz.results53, go_sem, c0, c1]) rfl ?_
        exact fin'.out _ _ _ hR2.out rfl (by rw [hbg.out]) (by rw [hbs.out])
end Go.Proofs.YtoacaikopcdkmaaGreat

namespace Go.Proofs.YtoacaikopcdkmaaGreat
open Go.RowKit Go.Sort
/-- The tape's struct. -/
structure TapeB (κ : Nat → Nat) (k : Nat) (w : World) (t a : Nat) (T : Vm.Tape) : Prop where
  col : κ t = k
  blk : w.heap[t]? = some (.cells #[.pointer (some ⟨a, 0, none⟩), .int .i64 (T.lo : Int), .int .i64 (T.hi : Int), .int .i64 (T.gen : Int), .int .i64 (T.place : Int), .int .i64 (T.groups : Int), .bool T.down] 168 (0, 0))
structure TapeOk (T : Vm.Tape) : Prop where
  hi : T.hi ≤ 16384
  lo : T.lo + T.place ≤ T.hi
  gen : T.gen ≤ 4294967295
  grp : T.groups ≤ T.place
theorem TapeB.lt {κ k w t a T} (h : TapeB κ k w t a T) : t < w.heap.size := (Array.getElem?_eq_some_iff.1 h.blk).1
theorem TapeB.to {S κ κ' k w w' t a T} (h : TapeB κ k w t a T) (r : To S κ κ' w w') (hS : ¬ S k) : TapeB κ' k w' t a T :=
  ⟨(r.col t h.lt (by rw [h.col]; exact hS)).trans h.col, (r.blk t h.lt (by rw [h.col]; exact hS)).trans h.blk⟩
theorem c_groups (κ : Nat → Nat) (k t a : Nat) (T : Vm.Tape) (w : World) (h : TapeB κ k w t a T) :
    Calls Tryz.prog 79 #[.pointer (some ⟨t, 0, none⟩)] w fun e w' => e = .returned (.int .i64 (T.groups : Int)) ∧ w' = w := by
  have c1 : w.cell? ⟨t, 5, none⟩ = some (.int .i64 (T.groups : Int)) := cell_at h.blk rfl
  clear h
  go_enter Tryz.func79, Tryz.ntmps79
  go_wp2
  go_ret
  exact ⟨rfl, rfl⟩
set_option maxRecDepth 100000 in
theorem c_free (κ : Nat → Nat) (k t a : Nat) (T : Vm.Tape) (w : World) (h : TapeB κ k w t a T) (hT : TapeOk T) :
    Calls Tryz.prog 69 #[.pointer (some ⟨t, 0, none⟩)] w fun e w' => e = .returned (.int .i64 (T.free : Int)) ∧ Below w.heap.size w w' ∧ w'.heap = w.heap := by
  have c1 : w.cell? ⟨t, 1, none⟩ = some (.int .i64 (T.lo : Int)) := cell_at h.blk rfl
  have c2 : w.cell? ⟨t, 2, none⟩ = some (.int .i64 (T.hi : Int)) := cell_at h.blk rfl
  have c4 : w.cell? ⟨t, 4, none⟩ = some (.int .i64 (T.place : Int)) := cell_at h.blk rfl
  have h1 := hT.hi
  have h2 := hT.lo
  clear h hT
  obtain ⟨lo, hi, gen, place, groups, down⟩ := T
  simp only at c1 c2 c4 h1 h2
  go_enter Tryz.func69, Tryz.ntmps69
  go_wp2
  go_quiet (fail)
  go_wp2
  go_ret
  refine ⟨?_, ⟨rfl, rfl, rfl, Nat.le_refl _, fun _ _ => rfl⟩, rfl⟩
  show Ending.returned (.int .i64 ((hi : Int) - lo - place)) = _
  unfold Vm.Tape.free
  congr 2
  simp only
  omega
set_option maxRecDepth 100000 in
theorem c_tflush (κ : Nat → Nat) (c k t a : Nat) (T : Vm.Tape) (d : Vm.Drum) (w : World) (h : TapeB κ k w t a T) (hD : DrumAt κ c w a d) (hk : ¬ Dc c k) :
    Calls Tryz.prog 72 #[.pointer (some ⟨t, 0, none⟩)] w fun e w' => e = .returned (.int .i64 ((T.flush d).1 : Int)) ∧ TapeB κ k w' t a (T.flush d).2.1 ∧ DrumAt κ c w' a (T.flush d).2.2 ∧ To (fun j => Dc c j ∨ j = k) κ κ w w' := by
  have c0 : w.cell? ⟨t, 0, none⟩ = some (.pointer (some ⟨a, 0, none⟩)) := cell_at h.blk rfl
  have c6 : w.cell? ⟨t, 6, none⟩ = some (.bool T.down) := cell_at h.blk rfl
  have cF := Hid.mk (c_flush κ c a d w hD)
  have h' := Hid.mk h
  have hD' := Hid.mk hD
  clear h hD
  by_cases hd : T.down = true
  · rw [hd] at c6
    have hT : Hid (T.flush d = (9, T, d)) := by show _ = _; unfold Vm.Tape.flush; rw [if_pos hd]
    clear hd
    go_enter Tryz.func72, Tryz.ntmps72
    go_wp2
    go_ret
    rw [hT.out]
    exact ⟨rfl, h'.out, hD'.out, .refl _ _ _⟩
  · have hd0 : T.down = false := by simpa using hd
    rw [hd0] at c6
    obtain ⟨er, d2, hf⟩ := pair_ex d.flush
    have hT : Hid (T.flush d = (er, { T with down := decide (er = 9) }, d2)) := by show _ = _; unfold Vm.Tape.flush; rw [if_neg hd, hf.out]
    rw [hf.out] at cF
    have hd0' := Hid.mk hd0
    clear hd hd0
    go_enter Tryz.func72, Tryz.ntmps72
    go_wp2_with (go_at_call 115; refine cF.out.mono ?_; rintro e w2 ⟨rfl, hD2, hT2⟩; have h2 := Hid.mk (h'.out.to hT2 hk); have d6 : w2.cell? ⟨t, 6, none⟩ = some (.bool false) := (cell_at h2.out.blk rfl : w2.cell? ⟨t, 6, none⟩ = some (.bool T.down)).trans (by rw [hd0'.out]); have f6 : w2.frozen? ⟨t, 6, none⟩ = false := frozen_at h2.out.blk)
    all_goals go_ret
    rw [hT.out]
    have e9 : ((er : Int) == 9) = decide (er = 9) := by
      by_cases h : er = 9
      · subst h; rfl
      · rw [decide_eq_false h, beq_eq_false_iff_ne]; omega
    have tS : To (fun j => j = k) κ κ w2 (w2.setCell ⟨t, 6, none⟩ (.bool ((er : Int) == 9))) := (To.refl _ κ w2).setCell _ (fun _ => h2.out.col)
    refine ⟨rfl, ⟨h2.out.col, ?_⟩, hD2.to tS (fun j hj e => hk (e ▸ hj)), (hT2.mono fun j h => .inl h).trans (tS.mono fun j h => .inr h)⟩
    rw [e9]
    exact heap_setCell_at (i := 6) _ h2.out.blk
end Go.Proofs.YtoacaikopcdkmaaGreat

namespace Go.Proofs.YtoacaikopcdkmaaGreat
open Go.RowKit Go.Sort
theorem keepB {W w' : World} {B : Nat} (hb : Below B W w') (hB : W.heap.size ≤ B) {x : Addr} {v : Value} (h : W.cell? x = some v) : w'.cell? x = some v :=
  (hb.cell (Nat.lt_of_lt_of_le (World.block_lt_of_cell? W _ h) hB)).trans h
theorem keepT {S κ κ' W w'} (t : To S κ κ' W w') {x : Addr} (hx : ¬ S (κ x.block)) {v : Value} (h : W.cell? x = some v) : w'.cell? x = some v :=
  (World.cell?_of_block (t.blk _ (World.block_lt_of_cell? W _ h) hx)).trans h
theorem wrap_u16 (x : Int) (h0 : 0 ≤ x) (h1 : x < 65536) : IntKind.u16.wrap x = x := by
  unfold IntKind.wrap
  simp only [IntKind.bits, IntKind.signed, Bool.false_and, Bool.false_eq_true, if_false, Int.reducePow]
  omega
theorem wrap_u32 (x : Int) (h0 : 0 ≤ x) (h1 : x < 4294967296) : IntKind.u32.wrap x = x := by
  unfold IntKind.wrap
  simp only [IntKind.bits, IntKind.signed, Bool.false_and, Bool.false_eq_true, if_false, Int.reducePow]
  omega
theorem c_secs (n : Nat) (hn : n ≤ 1000000000) (w : World) : Calls Tryz.prog 116 #[.int .i64 (n : Int)] w fun e w' => e = .returned (.int .i64 (Vm.secs n : Int)) ∧ w' = w := by
  go_enter Tryz.func116, Tryz.ntmps116
  go_wp2
  go_ret
  refine ⟨?_, rfl⟩
  show Ending.returned (.int .i64 (max 1 (((n : Int) + 48 - 1) / 48))) = _
  unfold Vm.secs
  congr 2
  omega
set_option maxRecDepth 100000 in
set_option maxHeartbeats 1600000 in
theorem c_append (κ : Nat → Nat) (c k t a pg po cp L : Nat) (T : Vm.Tape) (d : Vm.Drum) (w : World) (h : TapeB κ k w t a T) (hT : TapeOk T) (hD : DrumAt κ c w a d) (hz : Cz κ w) (hc0 : 1 ≤ c) (hk : ¬ Dc c k) (hk0 : k ≠ 0) (p : List UInt8) (hl : p.length = L) (hL0 : 1 ≤ L) (hL : L ≤ 1000000) (hcp : L ≤ cp)
    (hr : w.rangeAt pg po (byC p)) (hpg : κ pg = 0) (hLo : d.loose.length ≤ 500000) :
    Calls Tryz.prog 71 #[.pointer (some ⟨t, 0, none⟩), .slice (some ⟨pg, po, none⟩) L cp] w fun e w' => e = .returned (.int .i64 ((T.append d p).1 : Int)) ∧ ∃ κ', TapeB κ' k w' t a (T.append d p).2.1 ∧ DrumAt κ' c w' a (T.append d p).2.2 ∧ To (fun j => Dc c j ∨ j = k) κ κ' w w' ∧ Cz κ' w' := by
  have c0 : w.cell? ⟨t, 0, none⟩ = some (.pointer (some ⟨a, 0, none⟩)) := cell_at h.blk rfl
  have c1 : w.cell? ⟨t, 1, none⟩ = some (.int .i64 (T.lo : Int)) := cell_at h.blk rfl
  have c2 : w.cell? ⟨t, 2, none⟩ = some (.int .i64 (T.hi : Int)) := cell_at h.blk rfl
  have c4 : w.cell? ⟨t, 4, none⟩ = some (.int .i64 (T.place : Int)) := cell_at h.blk rfl
  have c6 : w.cell? ⟨t, 6, none⟩ = some (.bool T.down) := cell_at h.blk rfl
  obtain ⟨n, hn⟩ : ∃ n, Hid (n = Vm.secs L) := ⟨_, Hid.mk rfl⟩
  have cS := Hid.mk (c_secs L (by omega) w)
  rw [← hn.out] at cS
  have hn1 : 1 ≤ n := by rw [hn.out]; unfold Vm.secs; omega
  have hnL : n * 48 < L + 48 := by rw [hn.out]; unfold Vm.secs; omega
  have hnL2 : L ≤ n * 48 := by rw [hn.out]; unfold Vm.secs; omega
  have t1 := hT.hi
  have t2 := hT.lo
  have t3 := hT.gen
  have t4 := hT.grp
  have h' := Hid.mk h
  have hT' := Hid.mk hT
  have hD' := Hid.mk hD
  have hz' := Hid.mk hz
  have hl' := Hid.mk hl
  have hr' := Hid.mk hr
  have hp' := Hid.mk hpg
  clear h hT hD hz hl hr hpg
  obtain ⟨lo, hi, gen, place, groups, down⟩ := T
  simp only at c1 c2 c4 c6 t1 t2 t3 t4
  by_cases hd : down = true
  · subst hd
    have hap : Hid (Vm.Tape.append ⟨lo, hi, gen, place, groups, true⟩ d p = (9, ⟨lo, hi, gen, place, groups, true⟩, d)) := by
      show _ = _
      unfold Vm.Tape.append
      simp only
      rw [if_pos trivial]
    go_enter Tryz.func71, Tryz.ntmps71
    go_wp2_with (go_at_call 116; refine cS.out.mono ?_; rintro e w' ⟨rfl, hw'⟩; replace hw' := hw'.symm; subst hw')
    go_ret
    rw [hap.out]
    exact ⟨rfl, κ, h'.out, hD'.out, .refl _ _ _, hz'.out⟩
  · have hd0 : down = false := by simpa using hd
    subst hd0
    by_cases hfull : hi - lo - place < n
    · have hfl : ((hi : Int) - lo - place < n) := by omega
      have hap : Hid (Vm.Tape.append ⟨lo, hi, gen, place, groups, false⟩ d p = (4, ⟨lo, hi, gen, place, groups, false⟩, d)) := by
        show _ = _
        unfold Vm.Tape.append
        rw [hl'.out, ← hn.out]
        simp only
        rw [if_neg (by simp), if_pos hfull]
      go_enter Tryz.func71, Tryz.ntmps71
      go_wp2_with (go_at_call 116; refine cS.out.mono ?_; rintro e w' ⟨rfl, hw'⟩; replace hw' := hw'.symm; subst hw')
      go_quiet (fail)
      go_wp2
      go_ret
      rw [hap.out]
      have hb : Below w.heap.size w (w.drewN nq) := ⟨rfl, rfl, rfl, Nat.le_refl _, fun _ _ => rfl⟩
      exact ⟨rfl, κ, ⟨h'.out.col, h'.out.blk⟩, hD'.out.to (To.of_below No κ hb) (fun _ _ h => h), To.of_below _ κ hb, hz'.out⟩
    · have hfl : ¬ ((hi : Int) - lo - place < n) := by omega
      go_enter Tryz.func71, Tryz.ntmps71
      go_wp2_with (go_at_call 116; refine cS.out.mono ?_; rintro e w' ⟨rfl, hw'⟩; replace hw' := hw'.symm; subst hw')
      go_quiet (fail)
      go_wp2
      rename_i nq
      go_loopw [38] (fun i wr => ∃ (j : Nat) (κr : Nat → Nat) (dj : Vm.Drum), j ≤ n ∧ i = .int .i64 (j : Int) ∧ Hid (Vm.Tape.writes ⟨lo, hi, gen, place, groups, false⟩ p n n d = Vm.Tape.writes ⟨lo, hi, gen, place, groups, false⟩ p n (n - j) dj) ∧ DrumAt κr c wr a dj ∧ To (Dc c) κ κr w wr ∧ Cz κr wr ∧ dj.loose.length ≤ d.loose.length + j) (fun i _ => n - (intOf i).toNat)
      case atStart => exact ⟨0, κ, d, by omega, rfl, rfl, hD'.out.to ((To.of_below No κ ⟨rfl, rfl, rfl, Nat.le_refl _, fun _ _ => rfl⟩)) (fun _ _ h => h), ⟨rfl, rfl, rfl, Nat.le_refl _, fun _ _ _ => rfl, fun _ _ _ => rfl⟩, hz'.out, by omega⟩
      case round =>
        obtain ⟨j, κr, dj, hj, rfl, hw, hDr, hTr, hzr, hlo⟩ := hrel
        have hB := Hid.mk (h'.out.to hTr hk)
        by_cases hlt : j < n
        · have d0 : wr.cell? ⟨t, 0, none⟩ = some (.pointer (some ⟨a, 0, none⟩)) := cell_at hB.out.blk rfl
          have d1 : wr.cell? ⟨t, 1, none⟩ = some (.int .i64 (lo : Int)) := cell_at hB.out.blk rfl
          have d3 : wr.cell? ⟨t, 3, none⟩ = some (.int .i64 (gen : Int)) := cell_at hB.out.blk rfl
          have d4 : wr.cell? ⟨t, 4, none⟩ = some (.int .i64 (place : Int)) := cell_at hB.out.blk rfl
          have d5 : wr.cell? ⟨t, 5, none⟩ = some (.int .i64 (groups : Int)) := cell_at hB.out.blk rfl
          have d6 : wr.cell? ⟨t, 6, none⟩ = some (.bool false) := cell_at hB.out.blk rfl
          have hjL : j * 48 < L := by omega
          have hcpj : ¬ (cp = j * 48) := by omega
          obtain ⟨q, hq⟩ : ∃ q, (min (L : Int) (((j : Int) + 1) * 48)).toNat - j * 48 = q := ⟨_, rfl⟩
          have hq1 : q ≤ 48 := by omega
          have hq2 : Hid (q = ((p.drop (j * 48)).take 48).length) := by
            show _ = _
            rw [List.length_take, List.length_drop, hl'.out, ← hq]; omega
          have x1 : IntKind.i64.wrap ((place : Int) + j) = place + j := by rw [IntKind.wrap_i64]; omega
          have x2 : IntKind.i64.wrap ((n : Int) - 1) = n - 1 := by rw [IntKind.wrap_i64]; omega
          have x3 : IntKind.i64.wrap ((n : Int) - 1 - j) = n - 1 - j := by rw [IntKind.wrap_i64]; omega
          have y1 : IntKind.u32.wrap (gen : Int) = gen := wrap_u32 _ (by omega) (by omega)
          have y2 : IntKind.u16.wrap ((place : Int) + j) = place + j := wrap_u16 _ (by omega) (by omega)
          have y3 : IntKind.u16.wrap (groups : Int) = groups := wrap_u16 _ (by omega) (by omega)
          have y4 : IntKind.u16.wrap ((n : Int) - 1 - j) = n - 1 - j := wrap_u16 _ (by omega) (by omega)
          have y5 : IntKind.u16.wrap (q : Int) = q := wrap_u16 _ (by omega) (by omega)
          go_wp2
          go_region_held3 (fun w' => w'.cell? ⟨t, 3, none⟩ = some (.int .i64 (gen : Int)) ∧ w'.cell? ⟨t, 4, none⟩ = some (.int .i64 (place : Int)) ∧ w'.cell? ⟨t, 5, none⟩ = some (.int .i64 (groups : Int))) (go_keep) (fail)
          go_wp2
          clear x1 x2 x3 y1 y2 y3 y4 y5
          obtain ⟨W, hW⟩ : ∃ W, Hid (W = (wr.alloc (.cells #[.int .u32 (gen : Int), .int .u16 ((place : Int) + j), .int .u16 (groups : Int), .int .u16 ((n : Int) - 1 - j), .int .u16 (q : Int)] 172)).drew) := ⟨_, Hid.mk rfl⟩
          have hWr : Hid (W.heap[wr.heap.size]? = some (.cells #[.int .u32 (gen : Int), .int .u16 ((place : Int) + j), .int .u16 (groups : Int), .int .u16 ((n : Int) - 1 - j), .int .u16 (q : Int)] 172 (0, 0))) := by show _ = _; rw [hW.out]; exact heap_alloc_new wr _
          have hbW : Below wr.heap.size wr W := by rw [hW.out]; exact ((Below.refl _ _).alloc (Nat.le_refl _) _).drew
          have l0 : W.cell? ⟨wr.heap.size, 0, none⟩ = some (.int .u32 (gen : Int)) := cell_at hWr.out rfl
          have l1 : W.cell? ⟨wr.heap.size, 1, none⟩ = some (.int .u16 ((place : Int) + j)) := cell_at hWr.out rfl
          have l2 : W.cell? ⟨wr.heap.size, 2, none⟩ = some (.int .u16 (groups : Int)) := cell_at hWr.out rfl
          have l3 : W.cell? ⟨wr.heap.size, 3, none⟩ = some (.int .u16 ((n : Int) - 1 - j)) := cell_at hWr.out rfl
          have l4 : W.cell? ⟨wr.heap.size, 4, none⟩ = some (.int .u16 (q : Int)) := cell_at hWr.out rfl
          have m0 := keepB hbW (Nat.le_refl _) d0
          have m1 := keepB hbW (Nat.le_refl _) d1
          have m4 := keepB hbW (Nat.le_refl _) d4
          have z1 : IntKind.i64.wrap ((lo : Int) + place) = lo + place := by rw [IntKind.wrap_i64]; omega
          have z2 : IntKind.i64.wrap ((lo : Int) + place + j) = lo + place + j := by rw [IntKind.wrap_i64]; omega
          obtain ⟨sc, hsc⟩ : ∃ sc, Hid (sc = Vm.Sec.lay ⟨gen, place + j, groups, n - 1 - j, q⟩ ((p.drop (j * 48)).take 48)) := ⟨_, Hid.mk rfl⟩
          have hscl : Hid (sc.length = 64) := by show _ = _; rw [hsc.out]; exact Vm.sec_len _ (by rw [List.length_take]; omega)
          obtain ⟨er, d2, hwr⟩ := pair_ex (dj.write (lo + place + j) sc)
          have hpr : Hid (wr.rangeAt pg (po + j * 48) (byC ((p.drop (j * 48)).take 48))) := by
            have h1 := rangeAt_part (rangeAt_to hr'.out hTr (fun h => by rw [hp'.out] at h; have := h.1; omega)) (j * 48) 48
            rw [byC_drop, byC_take] at h1; exact h1
          have hpl : Hid (pg < w.heap.size) := World.block_lt_of_cell? (a := ⟨pg, po + 0, none⟩) w (hr'.out 0 _ (List.getElem?_eq_getElem (by rw [byC_len, hl'.out]; omega)))
          have cL : ∀ V, Below wr.heap.size wr V → Calls Tryz.prog 117 #[.agg #[.int .u32 (gen : Int), .int .u16 ((place : Int) + j), .int .u16 (groups : Int), .int .u16 ((n : Int) - 1 - j), .int .u16 (q : Int)], .slice (some ⟨pg, po + j * 48, none⟩) q (cp - j * 48)] V fun e w' => ∃ g, e = .returned (.slice (some ⟨g, 0, none⟩) 64 64) ∧ V.heap.size ≤ g ∧ w'.rangeAt g 0 (byC sc) ∧ Below V.heap.size V w' := fun V hV => by
            have hpl2 := Nat.lt_of_lt_of_le hpl.out hTr.size
            have := c_laySec gen (place + j) groups (n - 1 - j) q pg (po + j * 48) (cp - j * 48) (by omega) (by omega) (by omega) (by omega) (by omega) ((p.drop (j * 48)).take 48) q hq1 hq2.out.symm V (rangeAt_below hpr.out hV hpl2) (Nat.lt_of_lt_of_le hpl2 hV.size)
            rw [show ((place + j : Nat) : Int) = (place : Int) + j by omega, show ((n - 1 - j : Nat) : Int) = (n : Int) - 1 - j by omega, ← hsc.out] at this
            refine this.mono ?_
            rintro e w' ⟨g, rfl, hown, hb⟩
            exact ⟨g, rfl, (hown.lt g rfl).1, own_range hown, hb⟩
          have cW : ∀ V g, Below wr.heap.size wr V → wr.heap.size ≤ g → V.rangeAt g 0 (byC sc) → Calls Tryz.prog 16 #[.pointer (some ⟨a, 0, none⟩), .int .i64 ((lo : Int) + place + j), .slice (some ⟨g, 0, none⟩) 64 64] V fun e w' => e = .returned (.int .i64 (er : Int)) ∧ ∃ κ', DrumAt κ' c w' a d2 ∧ To (Dc c) κr κ' V w' ∧ Cz κ' w' := fun V g hV hg hr => by
            have := c_write κr c a (lo + place + j) g 0 64 sc dj V (hDr.to (To.of_below No κr hV) (fun _ _ h => h)) (fun b hb => hzr b (Nat.le_trans hV.size hb)) hscl.out hr (fun h => by rw [hzr g hg] at h; have := h.1; omega) (by omega)
            rw [hwr.out] at this
            rw [show (lo : Int) + place + j = ((lo + place + j : Nat) : Int) by omega]
            exact this
          have hbWd : Below wr.heap.size wr W.drew := hbW.drew
          have cL' := Hid.mk cL
          have cW' := Hid.mk cW
          have hkt : Hid (¬ Dc c (κr t)) := by show ¬ _; rw [hB.out.col]; exact hk
          have hkH : Hid (¬ Dc c (κr wr.heap.size)) := fun h => by rw [hzr _ (Nat.le_refl _)] at h; have := h.1; omega
          clear cL cW d0 d1 d3 d4 d5 d6 c0 c1 c2 c4 c6
          rw [← hW.out]
          go_region_held3 (fun w' => w'.cell? ⟨t, 0, none⟩ = some (.pointer (some ⟨a, 0, none⟩)) ∧ w'.cell? ⟨t, 1, none⟩ = some (.int .i64 (lo : Int)) ∧ w'.cell? ⟨t, 4, none⟩ = some (.int .i64 (place : Int)) ∧ w'.cell? ⟨wr.heap.size, 0, none⟩ = some (.int .u32 (gen : Int)) ∧ w'.cell? ⟨wr.heap.size, 1, none⟩ = some (.int .u16 ((place : Int) + j)) ∧ w'.cell? ⟨wr.heap.size, 2, none⟩ = some (.int .u16 (groups : Int)) ∧ w'.cell? ⟨wr.heap.size, 3, none⟩ = some (.int .u16 ((n : Int) - 1 - j)) ∧ w'.cell? ⟨wr.heap.size, 4, none⟩ = some (.int .u16 (q : Int)))
            (first
              | (exact ⟨m0, m1, m4, l0, l1, l2, l3, l4⟩)
              | (go_split_ands; refine ⟨keepT hT3 hkt.out ?_, keepT hT3 hkt.out ?_, keepT hT3 hkt.out ?_, keepT hT3 hkH.out ?_, keepT hT3 hkH.out ?_, keepT hT3 hkH.out ?_, keepT hT3 hkH.out ?_, keepT hT3 hkH.out ?_⟩ <;> assumption)
              | (go_split_ands; refine ⟨keepB hbL (Nat.le_refl _) ?_, keepB hbL (Nat.le_refl _) ?_, keepB hbL (Nat.le_refl _) ?_, keepB hbL (Nat.le_refl _) ?_, keepB hbL (Nat.le_refl _) ?_, keepB hbL (Nat.le_refl _) ?_, keepB hbL (Nat.le_refl _) ?_, keepB hbL (Nat.le_refl _) ?_⟩ <;> assumption))
            (first
              | (go_at_call 117; refine (cL'.out W.drew hbWd).mono ?_; rintro e w2 ⟨g, rfl, hg, hrg, hbL⟩)
              | (go_at_call 16; refine (cW'.out w2 g (hbWd.trans (hbL.mono hbWd.size)) (Nat.le_trans hbWd.size hg) hrg).mono ?_; rintro e w3 ⟨rfl, κ3, hD3, hT3, hz3⟩))
          have hstep : Hid (Vm.Tape.writes ⟨lo, hi, gen, place, groups, false⟩ p n (n - j) dj = match (er, d2) with | (0, d) => Vm.Tape.writes ⟨lo, hi, gen, place, groups, false⟩ p n (n - (j + 1)) d | (e, d) => (e, d)) := by
            show _ = _
            obtain ⟨m, hm⟩ : ∃ m, n - j = m + 1 := ⟨n - j - 1, by omega⟩
            rw [hm, Vm.Tape.writes]
            simp only [show n - (m + 1) = j by omega, ← hq2.out, ← hsc.out, hwr.out, show n - (j + 1) = m by omega]
            rcases er with _ | er <;> rfl
          have hbA : Hid (Below wr.heap.size wr w2) := hbWd.trans (hbL.mono hbWd.size)
          have hTA : Hid (To (Dc c) κr κ3 wr w3) := (To.of_below _ κr hbA.out).trans hT3
          have hB3 := Hid.mk (hB.out.to hTA.out hk)
          by_cases he : er = 0
          · subst he
            go_wp2
            go_roundw
            case rel =>
              refine ⟨j + 1, κ3, d2, by omega, by go_num, ?_, hD3, hTr.trans hTA.out, hz3, ?_⟩
              · show _ = _
                rw [hw.out, hstep.out]; rfl
              · have := write_loose dj (lo + place + j) sc
                rw [hwr.out] at this
                simp only at this
                omega
            case measure => simp [intOf]; omega
          · have he' : ((er : Int) != 0) = true := by rw [bne_iff_ne]; omega
            have d6 : w3.cell? ⟨t, 6, none⟩ = some (.bool false) := cell_at hB3.out.blk rfl
            have f6 : w3.frozen? ⟨t, 6, none⟩ = false := frozen_at hB3.out.blk
            have hap : Hid (Vm.Tape.append ⟨lo, hi, gen, place, groups, false⟩ d p = (er, ⟨lo, hi, gen, place, groups, true⟩, d2)) := by
              show _ = _
              unfold Vm.Tape.append
              rw [hl'.out, ← hn.out]
              simp only
              rw [if_neg (by simp), if_neg hfull, hw.out, hstep.out]
              rcases er with _ | er
              · exact absurd rfl he
              · rfl
            clear he
            go_wp2
            go_ret
            rw [hap.out]
            have tS : To (fun j => j = k) κ3 κ3 w3 (w3.setCell ⟨t, 6, none⟩ (.bool true)) := (To.refl _ κ3 w3).setCell _ (fun _ => hB3.out.col)
            exact ⟨rfl, κ3, ⟨hB3.out.col, heap_setCell_at (i := 6) _ hB3.out.blk⟩, hD3.to tS (fun j hj e => hk (e ▸ hj)), ((hTr.trans hTA.out).mono fun j h => .inl h).trans (tS.mono fun j h => .inr h), tS.cz hz3⟩
        · have hjn : j = n := by omega
          subst hjn
          have d4 : wr.cell? ⟨t, 4, none⟩ = some (.int .i64 (place : Int)) := cell_at hB.out.blk rfl
          have d5 : wr.cell? ⟨t, 5, none⟩ = some (.int .i64 (groups : Int)) := cell_at hB.out.blk rfl
          have f4 : wr.frozen? ⟨t, 4, none⟩ = false := frozen_at hB.out.blk
          have f5 : wr.frozen? ⟨t, 5, none⟩ = false := frozen_at hB.out.blk
          have hap : Hid (Vm.Tape.append ⟨lo, hi, gen, place, groups, false⟩ d p = (0, ⟨lo, hi, gen, place + j, groups + 1, false⟩, dj)) := by
            show _ = _
            unfold Vm.Tape.append
            rw [hl'.out, ← hn.out]
            simp only
            rw [if_neg (by simp), if_neg hfull, hw.out, Nat.sub_self, Vm.Tape.writes]; rfl
          go_wp2
          go_ret
          rw [hap.out]
          refine ⟨rfl, κr, ⟨hB.out.col, ?_⟩, ?_, ?_, ?_⟩
          · have e1 : (place : Int) + j = ((place + j : Nat) : Int) := by omega
            have e2 : (groups : Int) + 1 = ((groups + 1 : Nat) : Int) := by omega
            have := heap_setCell_at (i := 5) (.int .i64 ((groups : Int) + 1)) (heap_setCell_at (i := 4) (.int .i64 ((place : Int) + j)) hB.out.blk)
            rw [e1, e2] at this
            rw [e1, e2]
            exact this
          · refine hDr.to (S := fun j => j = k) (((To.refl _ κr wr).setCell _ (fun _ => hB.out.col)).setCell _ (fun _ => hB.out.col)) (fun j hj e => hk (e ▸ hj))
          · have tm := hTr.mono (T := fun j => Dc c j ∨ j = k) fun j h => Or.inl h
            exact (tm.setCell (a := ⟨t, 4, none⟩) _ (fun _ => .inr h'.out.col)).setCell (a := ⟨t, 5, none⟩) _ (fun _ => .inr h'.out.col)
          · intro b hb
            exact hzr b (by simpa using hb)
end Go.Proofs.YtoacaikopcdkmaaGreat
