/- sheet.LayHead; tape's sector.lay. No condition. -/
import Derived.Test.YtoacaikopcdkmaaGreatZ08
import Derived.Deep.AppendSrc
set_option linter.unusedSimpArgs false
set_option linter.unusedVariables false
namespace Go.Proofs.YtoacaikopcdkmaaGreat
open Go.RowKit Go.Sort
/-- append of a text within the room. -/
theorem wpList_app_Zs {w0 w : World} {ops : Array Oper} {rest : List Oper} {o : Oper} {a : Act} {Q : Exit → Act → World → Prop} (hgd : o.guard = none) (s x : Operand)
    (ho : o.op = .call { callee := .builtin .append, args := #[s, x], argTypes := #[22, 9] })
    (g n N : Nat) (l : List UInt8) (H : Bz w0 w g l N) (hn : l.length = n) (hs : a.eval s = .slice (some ⟨g, 0, none⟩) n N)
    (t : ByteArray) (m : Nat) (q : List UInt8) (hx : a.eval x = .string t) (hq : t.data.toList = q) (hm : q.length = m) (hN : n + m ≤ N)
    (h : ∀ w', Bz w0 w' g (l ++ q) N → wpList Tryz.prog ops Q rest (a.put o.dst (.slice (some ⟨g, 0, none⟩) (n + m) N)) w') : wpList Tryz.prog ops Q (o :: rest) a w := by
  refine wpList_plain hgd fun K hK => ?_
  obtain ⟨i0, z0, hi, hz0, hz1, hz2, hz3⟩ := info_sz (t := 5) (size := 1) (bytes := 1) (zs := 1) (by kernel_rfl)
  have hl := H.len
  have hb : byteCells t = byC q := by unfold byteCells byC; rw [hq]
  have hts : t.size = m := by rw [← hm, ← hq]; simp
  have hbl : (byC q).length = m := by rw [byC_len, hm]
  have hsrc : Src Tryz.prog i0.size 9 (.string t) m (byC q) w := by
    have := Src.ofString (P := Tryz.prog) w (tx := 9) (by kernel_rfl) t
    rw [hb, hts] at this
    rw [hz1]; exact this
  have cellAt : ∀ j, j < (byC q).length → (w.cell? ⟨g, 0 + n * i0.size + j, none⟩).isSome = true := fun j hj => by
    rw [cell_of_row w g _ _ _ _ H.row, hz1, Array.getElem?_eq_getElem (by rw [List.size_toArray, hl]; omega)]; rfl
  have hr := run_append_room_src (P := Tryz.prog) w 22 9 o.type 5 i0 Tryz.underlying22 hi g 0 n N (.string t) m (byC q) hsrc hN cellAt (fun j hj => frozen_at H.row)
  unfold Oper.wp execOp
  simp only [ho, resolve, invoke, builtin, Sem.run_bind, Sem.run_pure, Result.andThen_ok, List.map_toArray, List.map_cons, List.map_nil, hs, hx, hr]
  refine hK _ _ (h _ ?_)
  have hR := setCells_row g 5 (0, 0) (byC q) n w (byC (l ++ List.replicate (N - l.length) 0)) (by rw [hl, hbl]; exact hN) H.row
  have e0 : 0 + n * i0.size = n := by rw [hz1]; omega
  rw [e0]
  obtain ⟨h1, h2, h3, h4⟩ := setCells_os g (byC q) n w
  refine H.grown ⟨h1, h2, h3, Nat.le_of_eq h4.symm, fun k _ hk => setCells_blk g (byC q) n w k (fun e => hk (by rw [e]))⟩ ?_ (by rw [List.length_append]; omega)
  have e : (byC (l ++ q ++ List.replicate (N - (l ++ q).length) 0)) = putL (byC (l ++ List.replicate (N - l.length) 0)) n (byC q) := by
    rw [← byC_putL, ← hn, putL_zero _ _ _ (by omega), List.length_append, show N - l.length - q.length = N - (l.length + q.length) by omega]
  rw [e]; exact hR
set_option maxRecDepth 100000 in
set_option maxHeartbeats 800000 in
theorem c_layHead (gn st : Nat) (hg1 : 1 ≤ gn) (hg2 : gn ≤ 4294967295) (hst : st < 18446744073709551616) (w : World) :
    Calls Tryz.prog 136 #[.agg #[.int .i64 (gn : Int), .int .u64 (st : Int)]] w fun e w' => ∃ g, e = .returned (.tuple #[.slice (some ⟨g, 0, none⟩) 64 64, .int .i64 0]) ∧ w'.ownsRow w.heap.size 5 1 (.slice (some ⟨g, 0, none⟩) 64 64) 64 (byC (Vm.layHead ⟨gn, st⟩)) ∧ Below w.heap.size w w' := by
  obtain ⟨Z, hZ, hMk⟩ := make4 64 (by decide) (by decide)
  have hZ' := Hid.mk hZ
  have hi5 : Hid ((Tryz.prog.info? 5).map (·.size) = some 1) := by show _ = _; kernel_rfl
  clear hZ
  have hMk' : ∀ W : World, (Instr.makeSlice 22 (.int .i64 4) (.int .i64 64)).run Tryz.prog W = .ok (.slice (some ⟨W.heap.size, 0, none⟩) 4 64) (W.alloc (.cells Z 5)) := hMk
  clear hMk
  obtain ⟨W, hW⟩ : ∃ W, Hid (W = w.alloc (.cells #[.int .i64 (gn : Int), .int .u64 (st : Int)] 94)) := ⟨_, Hid.mk rfl⟩
  have hWs : Hid (W.heap.size = w.heap.size + 1) := by show _ = _; rw [hW.out]; simp
  have HB : Hid (Bz W ((w.alloc (.cells #[.int .i64 (gn : Int), .int .u64 (st : Int)] 94)).alloc (.cells Z 5)) (w.heap.size + 1) (List.replicate 4 0) 64) := by
    show Bz _ _ _ _ _
    rw [← hWs.out, ← hW.out]
    exact Bz.made (by decide) hZ'.out
  have hWb : Hid (W.heap[w.heap.size]? = some (.cells #[.int .i64 (gn : Int), .int .u64 (st : Int)] 94 (0, 0))) := by show _ = _; rw [hW.out]; exact heap_alloc_new w _
  have hcl : ∀ w1, Below W.heap.size W w1 → w1.heap[w.heap.size]? = some (.cells #[.int .i64 (gn : Int), .int .u64 (st : Int)] 94 (0, 0)) := fun w1 hb => (hb.block _ (by rw [hWs.out]; omega)).trans hWb.out
  have hcl' := Hid.mk hcl
  clear hcl
  go_enter Tryz.func136, Tryz.ntmps136
  go_wp2_with (at_builtin; refine wpList_app_Zs rfl (.tmp 13) (.const (.string ⟨#[76, 69, 67, 84]⟩)) rfl (w.heap.size + 1) 4 64 (List.replicate 4 0) HB.out rfl rfl ⟨#[76, 69, 67, 84]⟩ 4 [76, 69, 67, 84] rfl rfl rfl (by decide) ?_; intro w1 H1; have c0 : w1.cell? ⟨w.heap.size, 0, none⟩ = some (.int .i64 (gn : Int)) := cell_at (hcl'.out _ H1.low) rfl)
  refine (c_putZ W w1 (w.heap.size + 1) 8 64 4 gn _ H1 (by simp) (by decide) (by decide)).mono ?_
  rintro e w2 ⟨rfl, H2, gr2⟩
  have c1 : w2.cell? ⟨w.heap.size, 1, none⟩ = some (.int .u64 (st : Int)) := cell_at (hcl'.out _ H2.low) rfl
  go_wp2_with fail
  refine (c_putZ W w2 (w.heap.size + 1) 12 64 8 st _ H2 (by simp [Vm.put_len]) (by decide) (by decide)).mono ?_
  rintro e w3 ⟨rfl, H3, gr3⟩
  obtain ⟨r, hr⟩ : ∃ r, Hid (r = Vm.fill 60 ([76, 69, 67, 84] ++ Vm.put gn 4 ++ Vm.put st 8)) := ⟨_, Hid.mk rfl⟩
  have hrl : r.length = 60 := by rw [hr.out]; unfold Vm.fill; simp only [List.length_append, List.length_replicate, Vm.put_len, List.length_cons, List.length_nil]
  have hs4 : w3.rangeAt (w.heap.size + 1) 4 (byC r) := by
    have := rangeAt_part H3.range 4 60
    rw [Nat.zero_add, byC_drop, byC_take] at this
    have e : List.take 60 (List.drop 4 ((List.replicate 4 0 ++ [76, 69, 67, 84] ++ Vm.put gn 4 ++ Vm.put st 8) ++ List.replicate (64 - (List.replicate 4 (0 : UInt8) ++ [76, 69, 67, 84] ++ Vm.put gn 4 ++ Vm.put st 8).length) 0)) = r := by
      rw [hr.out]; unfold Vm.fill
      simp only [List.append_assoc]
      rw [List.drop_left' (by simp), List.take_of_length_le]
      · simp only [List.length_append, List.length_replicate, Vm.put_len, List.length_cons, List.length_nil, Nat.reduceAdd, Nat.reduceSub]
      · simp only [List.length_append, List.length_replicate, Vm.put_len, List.length_cons, List.length_nil, Nat.reduceAdd, Nat.reduceSub, Nat.le_refl]
    rw [e] at this
    exact this
  have hs4' := Hid.mk hs4
  have hrl' := Hid.mk hrl
  clear hs4 hrl
  have hsum : (Vm.sum r : Int) < 4294967296 := by have := Vm.sum_lt r; omega
  go_wp2_with fail
  refine (c_sumL (w.heap.size + 1) 4 60 60 r w3 (by omega) hrl'.out (by omega) hs4'.out).mono ?_
  rintro e w' ⟨rfl, rfl⟩
  go_wp2_with fail
  have hsN : Hid (Vm.sum r < 18446744073709551616) := by have := Vm.sum_lt r; show _ < _; omega
  refine (c_put0 (Vm.sum r) hsN.out w').mono ?_
  rintro e w4 ⟨h, c, rfl, hh, hr4, hb4⟩
  have H4 := Hid.mk (H3.below hb4 H3.lt H3.low.size)
  have hr4' := Hid.mk (src_mid hr4)
  clear hr4
  go_wp2_with (refine wpList_copy_splice (o := ⟨some 31, _, _, _, _, _⟩) rfl (.tmp 25) (.tmp 30) 22 22 rfl 5 Tryz.underlying22 hi5.out (some ⟨w.heap.size + 1, 0, none⟩) (some ⟨h, 0, none⟩) 64 64 4 c rfl rfl (w.heap.size + 1) 0 _ 5 H4.out.row (byC (Vm.put (Vm.sum r) 4)) (by rw [byC_len, Vm.put_len]; rfl) (fun _ => ⟨rfl, ⟨h, 0, none⟩, rfl, hr4'.out⟩) (by rw [byC_len, Vm.put_len, H4.out.len]; decide) (byC_one _) W.heap.size W H4.out.low (by rw [hWs.out]; exact Nat.le_refl _) ?_; intro w5 hw5 hb5)
  go_ret2
  have hWW : Below w.heap.size w W := by rw [hW.out]; exact (Below.refl _ _).alloc (Nat.le_refl _) _
  refine ⟨_, rfl, ?_, hWW.trans (hb5.mono hWW.size)⟩
  have := Bz.front (r := [76, 69, 67, 84] ++ Vm.put gn 4 ++ Vm.put st 8) (by simpa only [List.append_assoc] using H4.out) (by simp only [List.length_append, Vm.put_len, List.length_cons, List.length_nil]; omega) (by decide) hb5 (Vm.put (Vm.sum r) 4) (Vm.put_len _ _) (by simpa only [List.append_assoc] using hw5.out)
  have e : Vm.layHead ⟨gn, st⟩ = Vm.put (Vm.sum r) 4 ++ r := by rw [hr.out]; rfl
  rw [e, hr.out]
  unfold Vm.fill
  rw [hr.out] at this
  unfold Vm.fill at this
  exact own_base this hWW.size
def fld (pl gr le sz : Nat) : List Nat := [pl, gr, le, sz]
set_option maxRecDepth 100000 in
set_option maxHeartbeats 800000 in
theorem c_laySec (gn pl gr le sz pg po cp : Nat) (h1 : gn < 4294967296) (h2 : pl < 65536) (h3 : gr < 65536) (h4 : le < 65536) (h5 : sz < 65536) (p : List UInt8) (L : Nat) (hL : L ≤ 48) (hl : p.length = L) (w : World) (hr : w.rangeAt pg po (byC p)) (hpg : pg < w.heap.size) :
    Calls Tryz.prog 117 #[.agg #[.int .u32 (gn : Int), .int .u16 (pl : Int), .int .u16 (gr : Int), .int .u16 (le : Int), .int .u16 (sz : Int)], .slice (some ⟨pg, po, none⟩) L cp] w fun e w' => ∃ g, e = .returned (.slice (some ⟨g, 0, none⟩) 64 64) ∧ w'.ownsRow w.heap.size 5 1 (.slice (some ⟨g, 0, none⟩) 64 64) 64 (byC (Vm.Sec.lay ⟨gn, pl, gr, le, sz⟩ p)) ∧ Below w.heap.size w w' := by
  obtain ⟨Z, hZ, hMk⟩ := make4 64 (by decide) (by decide)
  have hZ' := Hid.mk hZ
  have hl' := Hid.mk hl
  have hr' := Hid.mk hr
  have hi5 : Hid ((Tryz.prog.info? 5).map (·.size) = some 1) := by show _ = _; kernel_rfl
  clear hZ hl hr
  have hMk' : ∀ W : World, (Instr.makeSlice 22 (.int .i64 4) (.int .i64 64)).run Tryz.prog W = .ok (.slice (some ⟨W.heap.size, 0, none⟩) 4 64) (W.alloc (.cells Z 5)) := hMk
  clear hMk
  obtain ⟨S, hS⟩ : ∃ S : Array Value, Hid (S = #[.int .u32 (gn : Int), .int .u16 (pl : Int), .int .u16 (gr : Int), .int .u16 (le : Int), .int .u16 (sz : Int)]) := ⟨_, Hid.mk rfl⟩
  obtain ⟨W, hW⟩ : ∃ W, Hid (W = w.alloc (.cells #[.int .u32 (gn : Int), .int .u16 (pl : Int), .int .u16 (gr : Int), .int .u16 (le : Int), .int .u16 (sz : Int)] 172)) := ⟨_, Hid.mk rfl⟩
  have hWs : Hid (W.heap.size = w.heap.size + 1) := by show _ = _; rw [hW.out]; simp
  have HB : Hid (Bz W ((w.alloc (.cells #[.int .u32 (gn : Int), .int .u16 (pl : Int), .int .u16 (gr : Int), .int .u16 (le : Int), .int .u16 (sz : Int)] 172)).alloc (.cells Z 5)) (w.heap.size + 1) (List.replicate 4 0) 64) := by
    show Bz _ _ _ _ _
    rw [← hWs.out, ← hW.out]
    exact Bz.made (by decide) hZ'.out
  have hWb : Hid (W.heap[w.heap.size]? = some (.cells #[.int .u32 (gn : Int), .int .u16 (pl : Int), .int .u16 (gr : Int), .int .u16 (le : Int), .int .u16 (sz : Int)] 172 (0, 0))) := by show _ = _; rw [hW.out]; exact heap_alloc_new w _
  have hcl : ∀ w1, Below W.heap.size W w1 → w1.heap[w.heap.size]? = some (.cells #[.int .u32 (gn : Int), .int .u16 (pl : Int), .int .u16 (gr : Int), .int .u16 (le : Int), .int .u16 (sz : Int)] 172 (0, 0)) := fun w1 hb => (hb.block _ (by rw [hWs.out]; omega)).trans hWb.out
  have hcl' := Hid.mk hcl
  clear hcl
  go_enter Tryz.func117, Tryz.ntmps117
  go_wp2_with fail
  refine (c_putZ W _ (w.heap.size + 1) 4 64 4 gn _ HB.out (by simp) (by decide) (by decide)).mono ?_
  rintro e w1 ⟨rfl, H1, gr1⟩
  have c1 : w1.cell? ⟨w.heap.size, 1, none⟩ = some (.int .u16 (pl : Int)) := cell_at (hcl'.out _ H1.low) rfl
  have c2 : w1.cell? ⟨w.heap.size, 2, none⟩ = some (.int .u16 (gr : Int)) := cell_at (hcl'.out _ H1.low) rfl
  have c3 : w1.cell? ⟨w.heap.size, 3, none⟩ = some (.int .u16 (le : Int)) := cell_at (hcl'.out _ H1.low) rfl
  have c4 : w1.cell? ⟨w.heap.size, 4, none⟩ = some (.int .u16 (sz : Int)) := cell_at (hcl'.out _ H1.low) rfl
  go_wp2_with fail
  obtain ⟨F, hF⟩ : ∃ F : List Nat, Hid (F = fld pl gr le sz) := ⟨_, Hid.mk rfl⟩
  have hu : Hid (w1.heap.size ≥ W.heap.size) := H1.low.size
  have hgne : Hid (w1.heap.size ≠ w.heap.size + 1) := by have := H1.lt; show _ ≠ _; omega
  go_loopw [5, 24] (fun b i wr => ∃ j : Nat, j ≤ 4 ∧ i = .int .i64 (j : Int) ∧ b = .slice (some ⟨w.heap.size + 1, 0, none⟩) (8 + 2 * j) 64 ∧ Bz W wr (w.heap.size + 1) (List.replicate 4 0 ++ Vm.put gn 4 ++ (F.take j).flatMap (Vm.put · 2)) 64 ∧ w1.heap.size < wr.heap.size ∧ wr.heap[w1.heap.size]? = some (.cells #[.int .u16 (pl : Int), .int .u16 (gr : Int), .int .u16 (le : Int), .int .u16 (sz : Int)] 170 (0, 0))) (fun _ i _ => 4 - (intOf i).toNat)
  case atStart => exact ⟨0, by omega, rfl, rfl, by simpa using H1.below ((Below.refl w1.heap.size w1).alloc (Nat.le_refl _) _) H1.lt hu.out, by simp, heap_alloc_new w1 _⟩
  case round =>
    obtain ⟨j, hj, rfl, rfl, HJ, hlt1, hrow⟩ := hrel
    have hrow' := Hid.mk hrow
    clear hrow
    by_cases hlt : j < 4
    · have hv : ∃ v : Nat, Hid (∃ h : j < F.length, F[j] = v) ∧ v < 65536 ∧ wr.cell? ⟨w1.heap.size, j, none⟩ = some (.int .u16 (v : Int)) := by
        have h4 : j = 0 ∨ j = 1 ∨ j = 2 ∨ j = 3 := by omega
        rcases h4 with rfl | rfl | rfl | rfl
        · exact ⟨pl, by rw [hF.out]; exact ⟨by simp [fld], rfl⟩, h2, cell_at hrow'.out rfl⟩
        · exact ⟨gr, by rw [hF.out]; exact ⟨by simp [fld], rfl⟩, h3, cell_at hrow'.out rfl⟩
        · exact ⟨le, by rw [hF.out]; exact ⟨by simp [fld], rfl⟩, h4, cell_at hrow'.out rfl⟩
        · exact ⟨sz, by rw [hF.out]; exact ⟨by simp [fld], rfl⟩, h5, cell_at hrow'.out rfl⟩
      obtain ⟨v, hv1, hv2, hv3⟩ := hv
      have hlen : Hid ((List.replicate 4 (0 : UInt8) ++ Vm.put gn 4 ++ (F.take j).flatMap (Vm.put · 2)).length = 8 + 2 * j) := by
        show _ = _
        rw [hF.out]
        have h4 : j = 0 ∨ j = 1 ∨ j = 2 ∨ j = 3 := by omega
        rcases h4 with rfl | rfl | rfl | rfl <;> simp [fld, Vm.put_len]
      go_wp2_with (go_at_call 67; refine (c_putZ W wr (w.heap.size + 1) (8 + 2 * j) 64 2 v _ HJ hlen.out (by decide) (by omega)).mono ?_; rintro e w2 ⟨rfl, H2, gr2⟩)
      go_roundw
      case rel =>
        refine ⟨j + 1, by omega, by go_num, ?_, ?_, ?_, ?_⟩
        · congr 1
        · obtain ⟨hj1, hj2⟩ := hv1.out
          rw [List.take_succ_eq_append_getElem hj1, List.flatMap_append, hj2, ← List.append_assoc]
          simpa using H2
        · exact Nat.lt_of_lt_of_le hlt1 gr2.size
        · exact (gr2.block _ hlt1 (by simpa using hgne.out)).trans hrow'.out
      case measure => simp [intOf]; omega
    · have hj4 : j = 4 := by omega
      subst hj4
      have hrp : Hid (wr.rangeAt pg po (byC p)) := rangeAt_below (by rw [hW.out]; exact World.rangeAt_alloc hr'.out _ : W.rangeAt pg po (byC p)) HJ.low (by rw [hWs.out]; omega)
      have hFT : Hid ((F.take 4).flatMap (Vm.put · 2) = Vm.put pl 2 ++ Vm.put gr 2 ++ Vm.put le 2 ++ Vm.put sz 2) := by
        show _ = _
        rw [hF.out]; simp [fld]
      rw [hFT.out] at HJ
      clear hrow' hlt1
      go_wp2_with (at_builtin; refine wpList_app_Z rfl (.tmp 33) (.tmp 34) rfl (w.heap.size + 1) 16 64 _ HJ (by simp [Vm.put_len]) rfl pg po L cp p rfl hl'.out hrp.out (by omega) ?_; intro w3 H3)
      obtain ⟨r, hr⟩ : ∃ r, Hid (r = Vm.fill 60 (Vm.put (gn % 4294967296) 4 ++ Vm.put (pl % 65536) 2 ++ Vm.put (gr % 65536) 2 ++ Vm.put (le % 65536) 2 ++ Vm.put (sz % 65536) 2 ++ p)) := ⟨_, Hid.mk rfl⟩
      have hr2 : Hid (r = Vm.fill 60 (Vm.put gn 4 ++ Vm.put pl 2 ++ Vm.put gr 2 ++ Vm.put le 2 ++ Vm.put sz 2 ++ p)) := by
        show _ = _
        rw [hr.out, Nat.mod_eq_of_lt h1, Nat.mod_eq_of_lt h2, Nat.mod_eq_of_lt h3, Nat.mod_eq_of_lt h4, Nat.mod_eq_of_lt h5]
      have hrl : r.length = 60 := by rw [hr.out]; unfold Vm.fill; simp only [List.length_append, List.length_replicate, Vm.put_len, hl'.out]; omega
      have hs4 : w3.rangeAt (w.heap.size + 1) 4 (byC r) := by
        have := rangeAt_part H3.range 4 60
        rw [Nat.zero_add, byC_drop, byC_take] at this
        have e : List.take 60 (List.drop 4 ((List.replicate 4 0 ++ Vm.put gn 4 ++ (Vm.put pl 2 ++ Vm.put gr 2 ++ Vm.put le 2 ++ Vm.put sz 2) ++ p) ++ List.replicate (64 - (List.replicate 4 (0 : UInt8) ++ Vm.put gn 4 ++ (Vm.put pl 2 ++ Vm.put gr 2 ++ Vm.put le 2 ++ Vm.put sz 2) ++ p).length) 0)) = r := by
          rw [hr2.out]; unfold Vm.fill
          simp only [List.append_assoc]
          rw [List.drop_left' (by simp), List.take_of_length_le]
          · simp only [List.length_append, List.length_replicate, Vm.put_len, hl'.out]
            rw [show 64 - (4 + (4 + (2 + (2 + (2 + (2 + L)))))) = 60 - (4 + (2 + (2 + (2 + (2 + L))))) by omega]
          · simp only [List.length_append, List.length_replicate, Vm.put_len, hl'.out]; omega
        rw [e] at this
        exact this
      have hs4' := Hid.mk hs4
      have hrl' := Hid.mk hrl
      clear hs4 hrl
      have hsum : (Vm.sum r : Int) < 4294967296 := by have := Vm.sum_lt r; omega
      go_wp2_with fail
      refine (c_sumL (w.heap.size + 1) 4 60 60 r w3 (by omega) hrl'.out (by omega) hs4'.out).mono ?_
      rintro e w' ⟨rfl, rfl⟩
      go_wp2_with fail
      have hsN : Hid (Vm.sum r < 18446744073709551616) := by have := Vm.sum_lt r; show _ < _; omega
      refine (c_put0 (Vm.sum r) hsN.out w').mono ?_
      rintro e w4 ⟨h, c, rfl, hh, hr4, hb4⟩
      have H4 := Hid.mk (H3.below hb4 H3.lt H3.low.size)
      have hr4' := Hid.mk (src_mid hr4)
      clear hr4
      go_wp2_with (refine wpList_copy_splice (o := ⟨some 43, _, _, _, _, _⟩) rfl (.tmp 37) (.tmp 42) 22 22 rfl 5 Tryz.underlying22 hi5.out (some ⟨w.heap.size + 1, 0, none⟩) (some ⟨h, 0, none⟩) 64 64 4 c rfl rfl (w.heap.size + 1) 0 _ 5 H4.out.row (byC (Vm.put (Vm.sum r) 4)) (by rw [byC_len, Vm.put_len]; rfl) (fun _ => ⟨rfl, ⟨h, 0, none⟩, rfl, hr4'.out⟩) (by rw [byC_len, Vm.put_len, H4.out.len]; decide) (byC_one _) W.heap.size W H4.out.low (by rw [hWs.out]; exact Nat.le_refl _) ?_; intro w5 hw5 hb5)
      go_ret
      have hWW : Below w.heap.size w W := by rw [hW.out]; exact (Below.refl _ _).alloc (Nat.le_refl _) _
      refine ⟨_, rfl, ?_, hWW.trans (hb5.mono hWW.size)⟩
      have := Bz.front (r := Vm.put gn 4 ++ Vm.put pl 2 ++ Vm.put gr 2 ++ Vm.put le 2 ++ Vm.put sz 2 ++ p) (by simpa only [List.append_assoc] using H4.out) (by simp only [List.length_append, Vm.put_len, hl'.out]; omega) (by decide) hb5 (Vm.put (Vm.sum r) 4) (Vm.put_len _ _) (by simpa only [List.append_assoc] using hw5.out)
      have e : Vm.Sec.lay ⟨gn, pl, gr, le, sz⟩ p = Vm.put (Vm.sum r) 4 ++ r := by rw [hr.out]; rfl
      rw [e, hr2.out]
      unfold Vm.fill
      rw [hr2.out] at this
      unfold Vm.fill at this
      exact own_base this hWW.size
end Go.Proofs.YtoacaikopcdkmaaGreat
