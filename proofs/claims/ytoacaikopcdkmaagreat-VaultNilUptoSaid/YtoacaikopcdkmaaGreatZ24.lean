/- The vault while it is opened: recover, the walk. No condition. -/
import Derived.Test.YtoacaikopcdkmaaGreatZ23
set_option linter.unusedSimpArgs false
set_option linter.unusedVariables false
namespace Go.Proofs.YtoacaikopcdkmaaGreat
open Go.RowKit Go.Sort Go.MapKept Go.Maps Go.WideElems Go.ChangeMaps Go.Shelf
attribute [local go_sem] Oper.semAt_some
theorem notSt0 {c : Nat} (hc0 : 1 ≤ c) : ¬ St c 0 := fun e => by rcases e with e | e | e <;> first | omega | (have := e.1; omega)
theorem notStK {c K : Nat} (hK : c + 12 ≤ K) : ¬ St c K := fun e => by rcases e with e | e | e <;> first | omega | (have := e.2; omega)
theorem rec_store {κr c wr a dA pl fr cv lv gn stj tk wv mv bz dn d b s W3} {p : List UInt8} {st' : Nat} (V : VR κr c wr a dA pl fr cv lv ⟨gn, stj⟩ tk wv mv bz dn d) (Z : Cz κr wr) (hr : wr.rangeAt b 0 (byC p)) (hb : b < wr.heap.size) (hbk : κr b ≠ c + 8) (r0 : wr.cell? ⟨s, 0, none⟩ = some (.pointer (some ⟨a, 0, none⟩))) (hsa : s ≠ a)
    (hW : W3 = (wr.setCell ⟨a, 8, none⟩ (.int .u64 (st' : Int))).drew) : Hid (VR κr c W3 a dA pl fr cv lv ⟨gn, st'⟩ tk wv mv bz dn d) ∧ Hid (To (St c) κr κr wr W3) ∧ Hid (Cz κr W3) ∧ Hid (W3.cell? ⟨s, 0, none⟩ = some (.pointer (some ⟨a, 0, none⟩))) ∧ Hid (W3.rangeAt b 0 (byC p)) := by
  obtain ⟨h1, h2⟩ := V.cell (h' := ⟨gn, st'⟩) (lv' := lv) (tk' := tk) (wv' := wv) (mv' := mv) (bz' := bz) (dn' := dn) (cv' := cv) (fr' := fr) (pl' := pl) 8 (.int .u64 (st' : Int)) rfl
  have t : To (fun j => j = c + 8) κr κr wr W3 := by rw [hW]; exact ((To.refl _ κr wr).setCell _ (fun _ => V.col)).drew
  refine ⟨Hid.mk ?_, Hid.mk (by rw [hW]; exact h2.drew), Hid.mk (t.cz Z), Hid.mk ?_, Hid.mk (rangeAt_to hr t hbk)⟩
  · rw [hW]; exact h1.no ((To.refl No κr _).drew)
  · rw [hW]; exact (World.cell?_setCell_far _ _ _ _ (by exact Ne.symm hsa)).trans r0
/-- What form says. -/
theorem form_facts {pages : Nat} {p : List UInt8} (h : Vm.formB pages p = true) : ∃ m, p.length = 10 + m * 500 ∧ 1 ≤ m ∧ Vm.num (p.take 2) = m ∧ ∀ x, x < m → Vm.num ((chk (p.drop 10) x).take 4) < pages := by
  unfold Vm.formB at h
  simp only [Bool.and_eq_true, decide_eq_true_eq, Bool.not_eq_true', decide_eq_false_iff_not] at h
  obtain ⟨⟨⟨h1, h2⟩, h3⟩, h4⟩ := h
  refine ⟨_, h2, by omega, rfl, ?_⟩
  rw [fst1_incB pages (p.drop 10) (Vm.num (p.take 2)) p.length (by omega) (by rw [List.length_drop]; omega)] at h4
  exact fst1_all pages _ _ h4
theorem GC.some {κ w v p} (h : GC κ w v p) (hp : 1 ≤ p.length) : ∃ b cap, v = .slice (some ⟨b, 0, none⟩) p.length cap ∧ p.length ≤ cap ∧ b < w.heap.size ∧ κ b = 0 ∧ w.rangeAt b 0 (byC p) := by
  rcases h with ⟨_, rfl⟩ | h
  · simp at hp
  · exact h
set_option maxRecDepth 100000 in
set_option maxHeartbeats 1600000 in
theorem c_recover {κ c w a dA pl fr cv lv gn st tk wv mv bz dn d} (H : VR κ c w a dA pl fr cv lv ⟨gn, st⟩ tk wv mv bz dn d) (hz : Cz κ w) (hc0 : 1 ≤ c) (hp : Vm.draft d.now.length = some pl) (hlv : ∃ x, lv = .pointer x) (hg1 : 1 ≤ gn) (hg : gn < 4294967295) (hst : st < 18446744073709551616) (hL : d.loose.length ≤ 100000) :
    Calls Tryz.prog 54 #[.pointer (some ⟨a, 0, none⟩)] w (RecAns κ c w a dA pl fr cv tk wv mv bz dn (Vm.recover2 d pl ⟨gn, st⟩)) := by
  obtain ⟨lp, rfl⟩ := hlv
  obtain ⟨R, hR⟩ : ∃ R, Hid (Vm.recover2 d pl ⟨gn, st⟩ = R) := ⟨_, Hid.mk rfl⟩
  rw [hR.out]
  obtain ⟨er, R1, hop⟩ := pair_ex (Vm.Tape.open d 2 (2 + pl.log) gn)
  obtain ⟨T1, R2, hR2⟩ := pair_ex R1
  obtain ⟨gs, d1, hR3⟩ := pair_ex R2
  rw [hR2.out, hR3.out] at hop
  obtain ⟨f1, f2, f3, f4, f5⟩ := draft_some hp
  have hk1 : Hid (Kp 0 d d1) := by have := topen_kp d 2 (2 + pl.log) gn; rw [hop.out] at this; exact Hid.mk this
  have htot : Hid (tot gs ≤ 48 * pl.log) := by have := topen_tot d 2 (2 + pl.log) gn; rw [hop.out] at this; exact Hid.mk (by simpa using this)
  have hpl : Hid (pl.log ≤ 4096 ∧ 1 ≤ pl.log ∧ 2 + pl.log ≤ d.now.length ∧ pl.pages ≤ 2048) := Hid.mk ⟨by omega, by omega, by omega, by omega⟩
  clear f1 f2 f3 f4 f5
  have ha := H.lt
  -- the boxes
  obtain ⟨W1, hW1⟩ : ∃ W1, Hid (W1 = (w.alloc (.cells #[.pointer (some ⟨a, 0, none⟩)] 24)).alloc (.cells #[.int .i64 0] 25)) := ⟨_, Hid.mk rfl⟩
  obtain ⟨z0, z1, z2, hB1⟩ := two hW1.out
  obtain ⟨s, hs⟩ : ∃ s, Hid (w.heap.size = s) := ⟨_, Hid.mk rfl⟩
  rw [hs.out] at z0 z1 z2 hB1 ha
  obtain ⟨K, hK1⟩ := fresh_col κ s
  obtain ⟨K2, hK2⟩ : ∃ K2, Hid (K2 = K + c + 12) := ⟨_, Hid.mk rfl⟩
  have hKK : Hid (∀ b, κ b < K2 ∧ c + 12 ≤ K2) := Hid.mk fun b => by
    rw [hK2.out]
    by_cases hb : b < s
    · have := hK1 b hb; omega
    · have := hz b (by rw [hs.out]; omega); omega
  clear hK1 hK2
  obtain ⟨κ0, hκ⟩ : ∃ κ0 : Nat → Nat, Hid (κ0 = fun b => if b = s + 1 then K2 else κ b) := ⟨_, Hid.mk rfl⟩
  have κs : Hid (κ0 (s + 1) = K2) := by show _ = _; rw [hκ.out]; exact if_pos rfl
  have κo : Hid (∀ b, b ≠ s + 1 → κ0 b = κ b) := Hid.mk fun b hb => by rw [hκ.out]; exact if_neg hb
  have κ0s : Hid (κ0 s = 0) := Hid.mk (by rw [κo.out s (by omega)]; exact hz s (by rw [hs.out]; omega))
  have V1 : Hid (VR κ0 c W1 a dA pl fr cv (.pointer lp) ⟨gn, st⟩ tk wv mv bz dn d) := by
    refine Hid.mk (VR.recol (κ := κ) ?_ (fun b _ h1 => κo.out b fun e => ?_) hc0)
    · exact H.no (To.of_below _ _ (by rw [hs.out]; exact hB1))
    · have := hz b (by rw [hs.out]; omega); omega
  have hz1 : Hid (Cz κ0 W1) := Hid.mk fun b hb => by rw [κo.out b (by omega)]; exact hz b (by rw [hs.out]; omega)
  have T01 : Hid (To No κ κ w W1) := Hid.mk (To.of_below _ _ (by rw [hs.out]; exact hB1))
  have cO : Calls Tryz.prog 102 #[.pointer (some ⟨dA, 0, none⟩), .int .i64 2, .int .i64 ((2 + pl.log : Nat) : Int), .int .i64 (gn : Int)] W1.drew fun e w' => ∃ (tv : Option Addr) (gv : Value), e = .returned (.tuple #[.pointer tv, gv, .int .i64 (er : Int)]) ∧ w'.cell? ⟨s, 0, none⟩ = some (.pointer (some ⟨a, 0, none⟩)) ∧ w'.cell? ⟨a, 0, none⟩ = some (.pointer (some ⟨dA, 0, none⟩)) ∧ w'.cell? ⟨a, 1, none⟩ = some (.int .i64 (pl.log : Int)) ∧ w'.cell? ⟨a, 7, none⟩ = some (.int .i64 (gn : Int)) ∧ w'.cell? ⟨s + 1, 0, none⟩ = some (.int .i64 0) ∧ w'.frozen? ⟨s + 1, 0, none⟩ = false ∧
      Hid (VR κ0 c w' a dA pl fr cv (.pointer lp) ⟨gn, st⟩ tk wv mv bz dn d1) ∧ Hid (To (Dc c) κ0 κ0 W1 w') ∧ Hid (er = 0 → ∃ gp gcap, gv = .slice gp gs.length gcap ∧ GsC κ0 w' gp gs.length gcap gs) := by
    have Vd := V1.out.no ((To.refl No κ0 W1).drew)
    refine (c_topen κ0 c dA 2 (2 + pl.log) gn d W1.drew Vd.drum hz1.out hc0 (by have := hpl.out; omega) (by have := hpl.out; omega) hg1 (by omega)).mono ?_
    rw [hop.out]
    rintro e w' ⟨tv, gv, rfl, j1, j2, j3⟩
    have V := Vd.setD j1 j2
    obtain ⟨k0, k1, k6, k7, k8, kf⟩ := V.cells
    have t : To (Dc c) κ0 κ0 W1 w' := (To.refl _ κ0 W1).drew.trans j2
    have hs0 : κ0 s = 0 := by rw [κo.out s (by omega)]; exact hz s (by rw [hs.out]; omega)
    have b1 : w'.heap[s]? = some (.cells #[.pointer (some ⟨a, 0, none⟩)] 24 (0, 0)) := (t.blk s (by omega) (by rw [hs0]; exact fun h => by have := h.1; omega)).trans z1
    have b2 : w'.heap[s + 1]? = some (.cells #[.int .i64 0] 25 (0, 0)) := (t.blk (s + 1) (by omega) (by rw [κs.out]; exact fun h => by have := h.2; have := (hKK.out 0).2; omega)).trans z2
    refine ⟨tv, gv, rfl, cell_at b1 rfl, k0, k1, k7, cell_at b2 rfl, frozen_at b2, Hid.mk V, Hid.mk t, Hid.mk fun he => ?_⟩
    obtain ⟨tA, vals, _, _, _, _, q4, q5⟩ := j3 he
    exact GsC.of (w := W1.drew) hz1.out j2 q4 q5
  have x2 : IntKind.i64.wrap ((2 : Int) + (pl.log : Int)) = ((2 + pl.log : Nat) : Int) := by rw [IntKind.wrap_i64]; have := hpl.out; omega
  obtain ⟨e0, e1, e6, e7, e8, _⟩ := V1.out.cells
  have es : W1.cell? ⟨s, 0, none⟩ = some (.pointer (some ⟨a, 0, none⟩)) := cell_at z1 rfl
  have H' := Hid.mk H
  have hz' := Hid.mk hz
  have hp' := Hid.mk hp
  have hB1' := Hid.mk hB1
  have z0' := Hid.mk z0
  clear H hz hp z1 z2 hB1 z0
  refine (callsIn_wide (n := 6)).1 ?_
  refine callsIn_of_wp_marks Tryz.func54 rfl trivial ?_ rfl
  simp only [Tryz.ntmps54, List.size_toArray, List.length_cons, List.length_nil, Nat.reduceAdd, Nat.reduceSub, Array.replicate_succ, Array.replicate_zero, List.push_toArray, List.append_toArray, List.nil_append, List.cons_append]
  refine wpIn_wide.2 ?_
  go_wp2
  rw [← hW1.out]
  rw [hs.out]
  go_region_held3 (fun w' => w'.cell? ⟨s, 0, none⟩ = some (.pointer (some ⟨a, 0, none⟩)) ∧ w'.cell? ⟨a, 0, none⟩ = some (.pointer (some ⟨dA, 0, none⟩)) ∧ w'.cell? ⟨a, 1, none⟩ = some (.int .i64 (pl.log : Int)) ∧ w'.cell? ⟨a, 7, none⟩ = some (.int .i64 (gn : Int))) (first | go_keep | (exact ⟨by assumption, by assumption, by assumption, by assumption⟩)) (first | (go_at_call 102; refine cO.mono ?_; rintro e w2 ⟨tv, gv, rfl, q0, q1, q2, q3, q4, q5, V2, T2, G2⟩))
  by_cases he : er = 0
  · subst he
    obtain ⟨gp, gcap, rfl, GC2⟩ := G2.out rfl
    obtain ⟨N, hN⟩ : ∃ N, Hid (gs.length = N) := ⟨_, Hid.mk rfl⟩
    rw [hN.out] at GC2 ⊢
    have GC2' := Hid.mk GC2
    clear GC2 G2
    go_wp2
    go_loopw [37] (fun i wr => ∃ j : Nat, j ≤ N ∧ i = .int .i64 (j : Int) ∧ Hid (∀ q ∈ gs.take j, Vm.formB pl.pages q = true) ∧ Hid (To No κ0 κ0 w2 wr)) (fun i _ => N - (intOf i).toNat)
    case atStart => exact ⟨0, Nat.zero_le _, rfl, Hid.mk (by simp), Hid.mk (.refl _ _ _)⟩
    case round =>
      obtain ⟨j, hj, rfl, hfm, T3⟩ := hrel
      have G3 := GC2'.out.to T3.out (fun h => h)
      have V3 := Hid.mk (V2.out.no T3.out)
      have r0 : wr.cell? ⟨s, 0, none⟩ = some (.pointer (some ⟨a, 0, none⟩)) := keepT T3.out (fun h => h) q0
      have r4 : wr.cell? ⟨s + 1, 0, none⟩ = some (.int .i64 0) := keepT T3.out (fun h => h) q4
      have r5 : wr.frozen? ⟨s + 1, 0, none⟩ = false := by
        have hlt := World.block_lt_of_cell? w2 _ q4
        rw [← q5]
        exact World.frozen?_of_block (a := ⟨s + 1, 0, none⟩) (T3.out.blk (s + 1) hlt (fun h => h))
      by_cases hlt : (j : Int) < N
      · have hltN := Hid.mk (show j < N by omega)
        have hNle := G3.le
        have hjl : j < gs.length := by rw [hN.out]; omega
        obtain ⟨g, v, rfl, hgl, hgk, hgc, hgv⟩ := G3.at_ j hjl
        have cF := c_form V3.out hpl.out.2.2.2 v gs[j] hgv.gv (by have := tot_mem (List.getElem_mem hjl); have := htot.out; have := hpl.out; omega)
        obtain ⟨vp, vcap, hvf⟩ := hgv.form
        subst hvf
        obtain ⟨vn, hvn⟩ : ∃ vn, Hid ((gs[j]'hjl).length = vn) := ⟨_, Hid.mk rfl⟩
        rw [hvn.out] at hgc cF
        obtain ⟨fb, hfb⟩ : ∃ fb, Hid (Vm.formB pl.pages (gs[j]'hjl) = fb) := ⟨_, Hid.mk rfl⟩
        rw [hfb.out] at cF
        have hgv' := Hid.mk hgv
        have G3' := Hid.mk G3
        clear hgv G3 hgk
        cases fb with
        | true =>
          go_wp2_with (first | (go_at_call 103; refine cF.mono ?_; rintro e w3 ⟨rfl, hbl⟩))
          go_roundw
          case rel =>
            refine ⟨j + 1, hltN.out, by go_num, Hid.mk fun q hq => ?_, Hid.mk (T3.out.trans (To.of_below _ _ hbl))⟩
            rw [List.take_succ_eq_append_getElem hjl] at hq
            rcases List.mem_append.1 hq with hq | hq
            · exact hfm.out q hq
            · rw [List.mem_singleton.1 hq]; exact hfb.out
          case measure => have := hltN.out; simp [intOf]; omega
        | false =>
          have hRe : R.1 = 11 ∧ R.2.2.2 = d1 := by
            rw [← hR.out]
            unfold Vm.recover2
            simp only
            rw [hop.out]
            simp only
            rw [if_pos (by rw [List.all_eq_false]; exact ⟨gs[j]'hjl, List.getElem_mem hjl, by rw [hfb.out]; decide⟩)]
            exact ⟨rfl, rfl⟩
          go_wp2_with (first | (go_at_call 103; refine cF.mono ?_; rintro e w3 ⟨rfl, hbl⟩; have u4 := keepT (To.of_below No κ0 hbl) (fun h => h) r4; have u5 : w3.frozen? ⟨s + 1, 0, none⟩ = false := (World.frozen?_of_block (a := ⟨s + 1, 0, none⟩) (hbl.block (s + 1) (World.block_lt_of_cell? wr _ r4))).trans r5))
          have hc5 := World.cell?_setCell_same' w3 ⟨s + 1, 0, none⟩ (.int .i64 11) (by rw [u4]; rfl)
          refine ⟨.int .i64 11, by simp [results, Tryz.f54, go_sem, hc5], ?_⟩
          have T4 := T3.out.trans (To.of_below No κ0 hbl)
          have Va := V2.out.no T4
          rw [← hRe.2] at Va
          have hf := rec_fin (Ds := []) (u := .int .i64 11) (R := R) hc0 hs.out z0'.out T01.out κs.out κo.out (hKK.out 0).2 Va ((T2.out.mono fun j e => Or.inl e).trans (ofNo T4)) (T4.cz (T2.out.cz hz1.out)) rfl ⟨rfl, rfl, rfl, rfl, fun _ _ => rfl⟩ (fun D hD => by cases hD) (fun h => by rw [hRe.1] at h; cases h)
          rw [hRe.1] at hf
          exact hf
      · have hNj : N = j := by omega
        subst hNj
        obtain ⟨k0, k1, k6, k7, k8, _⟩ := V3.out.cells
        have b1 : ((gn : Int) == 4294967295) = false := by rw [beq_eq_false_iff_ne]; omega
        go_wp2
        have hfm' : Hid (∀ q ∈ gs, Vm.formB pl.pages q = true) := Hid.mk fun q hq => hfm.out q (by rw [← hN.out, List.take_length]; exact hq)
        have R0 : Hid (Rec2 κ0 c w2 wr a dA pl fr cv (.pointer lp) gn tk wv mv bz dn d1 st gs 0 [] κ0 st d1) := Hid.mk ⟨V3.out, ofNo T3.out, T3.out.cz (T2.out.cz hz1.out), rfl, hst, .refl _ _, List.nodup_nil, fun D hD => by cases hD⟩
        clear r0 r4 r5 k0 k1 k6 k7 k8 G3 hfm V3 T3
        refine wp_loop (fun act wr => ∃ (j : Nat) (Ds : List Nat) (κr : Nat → Nat) (stj : Nat) (dj : Vm.Drum) (x9 x55 x56 x57 x58 x59 x60 x61 x62 x63 x64 x65 x66 x67 x87 : Value), j ≤ N ∧ act = { tmps := #[Value.pointer (some { block := a, off := 0 }), Value.pointer (some { block := s, off := 0 }), Value.pointer (some { block := s + 1, off := 0 }), Value.pointer tv, Value.slice gp N gcap, Value.int IntKind.i64 0, undef, u7, undef, x9, undef, undef, Value.tuple #[Value.pointer tv, Value.slice gp N gcap, Value.int IntKind.i64 0], Value.pointer (some { block := a, off := 0 }), Value.pointer (some { block := a, off := 0 }), Value.pointer (some { block := a, off := 0 }), Value.pointer (some { block := dA, off := 0 }), Value.pointer (some { block := a, off := 0 }), Value.pointer (some { block := a, off := 0 }), Value.pointer (some { block := a, off := 1 }), Value.pointer (some { block := a, off := 1 }), Value.int IntKind.i64 ↑pl.log, Value.int IntKind.i64 (2 + ↑pl.log), Value.pointer (some { block := a, off := 0 }), Value.pointer (some { block := a, off := 0 }), Value.pointer (some { block := a, off := 7 }), Value.pointer (some { block := a, off := 7 }), Value.int IntKind.i64 ↑gn, Value.tuple #[Value.pointer tv, Value.slice gp N gcap, Value.int IntKind.i64 0], Value.pointer tv, Value.slice gp N gcap, Value.int IntKind.i64 0, Value.int IntKind.i64 0, Value.bool false, undef, Value.slice gp N gcap, Value.int IntKind.i64 ↑N, Value.int IntKind.i64 ↑N, Value.bool false, u39, u40, u41, u42, u43, u44, u45, Value.pointer (some { block := a, off := 0 }), Value.pointer (some { block := a, off := 0 }), Value.pointer (some { block := a, off := 7 }), Value.pointer (some { block := a, off := 7 }), Value.int IntKind.i64 ↑gn, Value.bool false, Value.slice gp N gcap, Value.int IntKind.i64 ↑N, Value.int IntKind.i64 (j : Int), x55, x56, x57, x58, x59, x60, x61, x62, x63, x64, x65, x66, x67, undef, undef, undef, undef, undef, undef, undef, undef, undef, undef, undef, undef, undef, undef, undef, undef, undef, undef, undef, x87, undef, undef], defers := Ds.map mkD } ∧ Hid (Rec2 κ0 c w2 wr a dA pl fr cv (.pointer lp) gn tk wv mv bz dn d1 st gs j Ds κr stj dj)) (fun act _ => N - (intOf (act.tmps.getD 54 undef)).toNat) ?_ ?_
        · exact ⟨0, [], κ0, st, d1, _, _, _, _, _, _, _, _, _, _, _, _, _, _, _, Nat.zero_le _, rfl, R0⟩
        · rintro act wr2 ⟨j, Ds, κr, stj, dj, x9, x55, x56, x57, x58, x59, x60, x61, x62, x63, x64, x65, x66, x67, x87, hj, rfl, hR2⟩
          have t0 := hR2.out.t
          have r0 : wr2.cell? ⟨s, 0, none⟩ = some (.pointer (some ⟨a, 0, none⟩)) := keepT t0 (by rw [κ0s.out]; exact notSt0 hc0) q0
          have r4 : wr2.cell? ⟨s + 1, 0, none⟩ = some (.int .i64 0) := keepT t0 (by rw [κs.out]; exact notStK (hKK.out 0).2) q4
          have r5 : wr2.frozen? ⟨s + 1, 0, none⟩ = false := (World.frozen?_of_block (a := ⟨s + 1, 0, none⟩) (t0.blk (s + 1) (World.block_lt_of_cell? w2 _ q4) (by rw [κs.out]; exact notStK (hKK.out 0).2))).trans q5
          obtain ⟨k0, k1, k6, k7, k8, kf⟩ := hR2.out.vr.cells
          have G3 := GC2'.out.to t0 (notSt0 hc0)
          by_cases hlt : (j : Int) < N
          · have hltN := Hid.mk (show j < N by omega)
            have hNle := G3.le
            have hjl : j < gs.length := by rw [hN.out]; omega
            obtain ⟨g, v, hgp, hgl, hgk, hgc, hgv⟩ := G3.at_ j hjl
            obtain ⟨p, hpj⟩ : ∃ p, Hid (gs[j]'hjl = p) := ⟨_, Hid.mk rfl⟩
            rw [hpj.out] at hgv
            have hpm : p ∈ gs := by rw [← hpj.out]; exact List.getElem_mem hjl
            obtain ⟨m, p1, p2, p3, p4⟩ := form_facts (hfm'.out p hpm)
            have hplen : p.length ≤ 200000 := by have := tot_mem hpm; have := htot.out; have := hpl.out; omega
            obtain ⟨b, cap, hvf, hcap, hbl, hbk, hbr⟩ := hgv.some (by omega)
            subst hvf
            obtain ⟨pn, hpn⟩ : ∃ pn, Hid (p.length = pn) := ⟨_, Hid.mk rfl⟩
            rw [hpn.out] at hgc hcap p1 hplen
            obtain ⟨st', hst'⟩ : ∃ st', Hid (Vm.num ((p.drop 2).take 8) = st') := ⟨_, Hid.mk rfl⟩
            have hst8 : st' < 18446744073709551616 := by rw [← hst'.out]; exact num4_lt (p.drop 2) 8 (by rw [List.length_drop, hpn.out]; omega)
            have hsub2 : 2 ≤ pn := by omega
            have hsub10 : 10 ≤ pn := by omega
            have hm5 : Hid (pn - 10 = m * 500 ∧ pn = 10 + m * 500 ∧ 1 ≤ m ∧ m ≤ 1000) := Hid.mk ⟨by omega, p1, p2, by omega⟩
            have f8 := kf 8
            have hsa1 : s ≠ a := by omega
            have hsa2 : a ≠ s := by omega
            have cS : Calls Tryz.prog 104 #[.slice (some ⟨b, 2, none⟩) (pn - 2) (cap - 2), .int .i64 8] wr2.drew fun e w' => e = .returned (.int .u64 (st' : Int)) ∧ w' = wr2.drew := by
              have hr0 := rangeAt_part (show wr2.drew.rangeAt b 0 (byC p) from hbr) 2 (p.length - 2)
              rw [Nat.zero_add, byC_drop, byC_take] at hr0
              rw [List.take_of_length_le (by rw [List.length_drop]; omega)] at hr0
              have := c_ofL b 2 (pn - 2) (cap - 2) 8 (p.drop 2) wr2.drew (by decide) (by omega) (by omega) (by rw [List.length_drop, hpn.out]; omega) hr0
              rw [hst'.out] at this
              exact this
            have hgv' := Hid.mk hgv
            have hbr' := Hid.mk hbr
            have G3' := Hid.mk G3
            subst hgp
            have hm5' := hm5
            have hcap' : Hid (m * 500 ≤ cap - 10) := Hid.mk (by have := hm5'.out; omega)
            clear hgv hbr G3 hgk p1 p2 hm5
            go_wp2
            have hcn : ¬ (cap = 2) := by omega
            have h2i : (2 : Int) ≤ (pn : Int) := by omega
            go_region_held3 (fun w' => w'.cell? ⟨s, 0, none⟩ = some (.pointer (some ⟨a, 0, none⟩))) (go_keep) (first | (go_at_call 104; refine cS.mono ?_; rintro e w3 ⟨rfl, rfl⟩))
            obtain ⟨W3, hW3⟩ : ∃ W3, Hid (W3 = (wr2.setCell ⟨a, 8, none⟩ (.int .u64 (st' : Int))).drew) := ⟨_, Hid.mk rfl⟩
            rw [← hW3.out]
            obtain ⟨V3, T3, hz3, r03, rr3⟩ := rec_store hR2.out.vr hR2.out.z hbr'.out hbl (by rw [hbk]; omega) r0 hsa1 hW3.out
            have x10 := hm5'.out.1
            have hc10 : ¬ (cap = 10) := by have := hm5'.out; omega
            go_wp2_with (first | (go_at_call 105; refine (c_chunk b 10 _ _ _).mono ?_; rintro e w4 ⟨rfl, rfl⟩))
            obtain ⟨W4, hW4⟩ : ∃ W4, Hid (W4 = (W3.alloc (Obj.cells #[Value.slice (some { block := b, off := 10 }) (m * 500) (cap - 10)] 22)).alloc (Obj.cells #[Value.int IntKind.i64 500] 3)) := ⟨_, Hid.mk rfl⟩
            rw [← hW4.out]
            obtain ⟨y0, y1, y2, hB4⟩ := two hW4.out
            obtain ⟨q3, hq3⟩ : ∃ q3, Hid (W3.heap.size = q3) := ⟨_, Hid.mk rfl⟩
            have hB4' := Hid.mk hB4
            rw [hq3.out] at y0 y1 y2 ⊢
            have Tb : Hid (To No κr κr W3 W4) := Hid.mk (To.of_below _ _ hB4)
            have V4 := Hid.mk (V3.out.no Tb.out)
            have hz4 := Hid.mk (Tb.out.cz hz3.out)
            have rr4 := Hid.mk (rangeAt_to rr3.out Tb.out (fun h => h))
            have r04 := Hid.mk (keepT Tb.out (fun h => h) r03.out)
            have T24 := Hid.mk (T3.out.trans (ofNo (S := St c) Tb.out))
            obtain ⟨B, hB⟩ : ∃ B, Hid (W4.heap.size = B) := ⟨_, Hid.mk rfl⟩
            have hbs : Hid (κr s = 0) := Hid.mk ((t0.col s (World.block_lt_of_cell? w2 _ q0) (by rw [κ0s.out]; exact notSt0 hc0)).trans κ0s.out)
            have hbs1 : Hid (κr (s + 1) = K2) := Hid.mk ((t0.col (s + 1) (World.block_lt_of_cell? w2 _ q4) (by rw [κs.out]; exact notStK (hKK.out 0).2)).trans κs.out)
            have hK12 : Hid (c + 12 ≤ K2) := Hid.mk (hKK.out 0).2
            have hnD : Hid (¬ Dc c 0 ∧ ¬ Dc c (c + 8) ∧ ¬ Dc c K2) := Hid.mk ⟨fun e => by have := e.1; omega, fun e => by have := e.2; omega, fun e => by have := e.2; have := hK12.out; omega⟩
            have e14 : W4.cell? ⟨s + 1, 0, none⟩ = some (.int .i64 0) := keepT T24.out (by rw [hbs1.out]; exact notStK hK12.out) r4
            have e15 : W4.frozen? ⟨s + 1, 0, none⟩ = false := (World.frozen?_of_block (a := ⟨s + 1, 0, none⟩) (T24.out.blk (s + 1) (World.block_lt_of_cell? wr2 _ r4) (by rw [hbs1.out]; exact notStK hK12.out))).trans r5
            have e14' := Hid.mk e14
            have e15' := Hid.mk e15
            have hs14 : Hid (s + 1 < W4.heap.size) := Hid.mk (World.block_lt_of_cell? W4 _ e14)
            have Rd0 : Hid (RdI (Dc c) κr c B W4 W4 dA κr dj) := Hid.mk ⟨V4.out.drum, .refl _ _ _, hz4.out, fun k hk => .inl (hz4.out k (by rw [hB.out]; exact hk))⟩
            have hlim : Hid (dj.loose.length ≤ 300000 ∧ dj.now.length = d.now.length) := Hid.mk (by
              have hkp := hR2.out.kp
              have h1 : tot (gs.take j) ≤ tot gs := by
                rw [← List.take_append_drop j gs]
                rw [tot_app, List.take_append_drop]; omega
              exact ⟨by have := hkp.2; have := hk1.out.2; have := htot.out; have := hpl.out; omega, by rw [hkp.1, hk1.out.1]⟩)
            have hbk4 : Hid (κr b = 0 ∧ b < W4.heap.size) := Hid.mk ⟨hbk, by have := T24.out.size; omega⟩
            have hpnl := Hid.mk hpn.out
            clear e14 e15 hB4 r0 r4 r5 k0 k1 k6 k7 k8 kf f8 r03 cS x10 hc10 hcap hbk hbl hgc hgl hsa1 hsa2
            refine (wpIn_wide (n := 6)).1 ?_
            refine wpIn_rangeFunc_ownG (F := Fence.wide) (n := 6) rfl (by decide) (gf := 138) (lb := #[.pointer (some ⟨q3, 0, none⟩), .pointer (some ⟨q3 + 1, 0, none⟩)]) rfl trivial (enters_of Tryz.func138 (by kernel_rfl) rfl)
              (chunk_stops 5 (by decide) q3 (q3 + 1) b 10 (cap - 10) m (by have := hm5'.out; omega) hcap'.out W4 (by omega) (by omega) (cell_at y1 rfl) (cell_at y2 rfl)) (fun h k => kpB_t h k) (kpB_b (by omega) (by omega)) (Below.refl _ _) (fun _ => rfl)
              (fun pre W => ∃ κx, RdI (Dc c) κr c B W4 W dA κx (rfold pl.base st' (p.drop 10) dj pre).2 ∧ (rfold pl.base st' (p.drop 10) dj pre).1 = 0)
              (fun cc pre W => cc = .ret ∧ ∃ κx, RdI (fun j => Dc c j ∨ j = K2) κr c B W4 W dA κx (rfold pl.base st' (p.drop 10) dj pre).2 ∧ (rfold pl.base st' (p.drop 10) dj pre).1 ≠ 0 ∧ W.cell? ⟨s + 1, 0, none⟩ = some (.int .i64 ((rfold pl.base st' (p.drop 10) dj pre).1 : Int)))
              (fun pre A B' row hs' hg' hr' => by
                obtain ⟨κx, h1, h2⟩ := hs'
                rw [hB.out] at hr'
                exact ⟨κx, h1.turn hc0 (Nat.le_of_eq hB.out) hg' hr', h2⟩)
              (fun cc pre A B' row hs' hg' hr' => by
                obtain ⟨h0, κx, h1, h2, h3⟩ := hs'
                rw [hB.out] at hr'
                exact ⟨h0, κx, h1.turn hc0 (Nat.le_of_eq hB.out) hg' hr', h2, cell_kept h3 hg' (fun r e => (hr' r e).2)⟩)
              ⟨κr, Rd0.out, rfl⟩
              (fun x => { tmps := #[Value.pointer (some { block := a, off := 0 }), Value.pointer (some { block := s, off := 0 }), Value.pointer (some { block := s + 1, off := 0 }), Value.pointer tv, Value.slice (some { block := g, off := 0 }) N gcap, Value.int IntKind.i64 0, undef, u7, undef, Value.slice (some { block := b, off := 0 }) pn cap, Value.slice (some ⟨b, 10 + x.1 * 500, none⟩) 500 500, undef, Value.tuple #[Value.pointer tv, Value.slice (some { block := g, off := 0 }) N gcap, Value.int IntKind.i64 0], Value.pointer (some { block := a, off := 0 }), Value.pointer (some { block := a, off := 0 }), Value.pointer (some { block := a, off := 0 }), Value.pointer (some { block := dA, off := 0 }), Value.pointer (some { block := a, off := 0 }), Value.pointer (some { block := a, off := 0 }), Value.pointer (some { block := a, off := 1 }), Value.pointer (some { block := a, off := 1 }), Value.int IntKind.i64 ↑pl.log, Value.int IntKind.i64 (2 + ↑pl.log), Value.pointer (some { block := a, off := 0 }), Value.pointer (some { block := a, off := 0 }), Value.pointer (some { block := a, off := 7 }), Value.pointer (some { block := a, off := 7 }), Value.int IntKind.i64 ↑gn, Value.tuple #[Value.pointer tv, Value.slice (some { block := g, off := 0 }) N gcap, Value.int IntKind.i64 0], Value.pointer tv, Value.slice (some { block := g, off := 0 }) N gcap, Value.int IntKind.i64 0, Value.int IntKind.i64 0, Value.bool false, undef, Value.slice (some { block := g, off := 0 }) N gcap, Value.int IntKind.i64 ↑N, Value.int IntKind.i64 ↑N, Value.bool false, u39, u40, u41, u42, u43, u44, u45, Value.pointer (some { block := a, off := 0 }), Value.pointer (some { block := a, off := 0 }), Value.pointer (some { block := a, off := 7 }), Value.pointer (some { block := a, off := 7 }), Value.int IntKind.i64 ↑gn, Value.bool false, Value.slice (some { block := g, off := 0 }) N gcap, Value.int IntKind.i64 ↑N, Value.int IntKind.i64 (j : Int), Value.bool true, Value.pointer (some { block := g, off := j }), Value.slice (some { block := b, off := 0 }) pn cap, Value.pointer (some { block := a, off := 0 }), Value.slice (some { block := b, off := 0 }) pn cap, Value.slice (some { block := b, off := 2 }) (pn - 2) (cap - 2), Value.int IntKind.u64 (st' : Int), Value.pointer (some { block := a, off := 0 }), Value.pointer (some { block := a, off := 7 }), Value.pointer (some { block := a, off := 8 }), Value.slice (some { block := b, off := 0 }) pn cap, Value.slice (some { block := b, off := 10 }) (m * 500) (cap - 10), Value.func (Fn.func 138) #[] #[Value.pointer (some { block := q3, off := 0 }), Value.pointer (some { block := q3 + 1, off := 0 })], Value.slice (some ⟨b, 10 + x.1 * 500, none⟩) 500 500, undef, undef, undef, undef, undef, undef, undef, undef, undef, undef, undef, undef, undef, undef, undef, undef, undef, undef, x87, undef, undef], defers := [] }) ?assign ?body ?done ?stop
            case assign =>
              intro l x W K hK
              simp only [chunkV]
              gi_wp2
              exact hK
            case body =>
              rintro l pre x W ⟨κx, hI, h0⟩ hlen
              have hm := hm5'.out
              have hx := x.2
              have hIt := Hid.mk hI.t
              have i0 : W.cell? ⟨s, 0, none⟩ = some (.pointer (some ⟨a, 0, none⟩)) := keepT hIt.out (by rw [hbs.out]; exact hnD.out.1) r04.out
              have nA : ¬ Dc c (κr a) := by rw [V4.out.col]; exact hnD.out.2.1
              obtain ⟨v0, v1, v6, v7, v8, _⟩ := V4.out.cells
              have i1 : W.cell? ⟨a, 0, none⟩ = some (.pointer (some ⟨dA, 0, none⟩)) := keepT hIt.out nA v0
              have i8 : W.cell? ⟨a, 8, none⟩ = some (.int .u64 (st' : Int)) := keepT hIt.out nA v8
              have nS : ¬ Dc c (κr (s + 1)) := by rw [hbs1.out]; exact hnD.out.2.2
              have i4 := Hid.mk (keepT hIt.out nS e14'.out)
              have i5 : Hid (W.frozen? ⟨s + 1, 0, none⟩ = false) := Hid.mk ((World.frozen?_of_block (a := ⟨s + 1, 0, none⟩) (hIt.out.blk (s + 1) hs14.out nS)).trans e15'.out)
              clear v0 v1 v6 v7 v8
              have hr0 := rangeAt_part (rangeAt_to rr4.out hIt.out (by rw [hbk4.out.1]; exact hnD.out.1)) (10 + x.1 * 500) 500
              rw [Nat.zero_add, byC_drop, byC_take] at hr0
              have ech : List.take 500 (List.drop (10 + x.1 * 500) p) = chk (p.drop 10) x.1 := by unfold chk; rw [List.drop_drop]
              rw [ech] at hr0
              obtain ⟨ch, hch⟩ : ∃ ch, Hid (chk (p.drop 10) x.1 = ch) := ⟨_, Hid.mk rfl⟩
              rw [hch.out] at hr0
              have hchl : ch.length = 500 := by
                rw [← hch.out]; unfold chk; rw [List.length_take, List.length_drop, List.length_drop, hpnl.out]; omega
              obtain ⟨q, hq⟩ : ∃ q, Hid (Vm.num (ch.take 4) = q) := ⟨_, Hid.mk rfl⟩
              have hqp : q < pl.pages := by rw [← hq.out, ← hch.out]; exact p4 x.1 hx
              have hqw : IntKind.i64.wrap (q : Int) = q := by rw [IntKind.wrap_i64]; have := hpl.out; omega
              have cN : Calls Tryz.prog 104 #[.slice (some ⟨b, 10 + x.1 * 500, none⟩) 500 500, .int .i64 4] W.drew fun e w' => e = .returned (.int .u64 (q : Int)) ∧ w' = W.drew := by
                have := c_ofL b (10 + x.1 * 500) 500 500 4 ch W.drew (by decide) (by decide) (by decide) (by omega) hr0
                rw [hq.out] at this
                exact this
              obtain ⟨dx, hdx⟩ : ∃ dx, Hid ((rfold pl.base st' (p.drop 10) dj pre).2 = dx) := ⟨_, Hid.mk rfl⟩
              have hdk : Hid (dx.loose.length ≤ 500000 ∧ dx.now.length = d.now.length) := Hid.mk (by
                have h1 := rfold_kp pl.base st' (p.drop 10) dj pre
                rw [hdx.out] at h1
                have h2 := hlim.out
                exact ⟨by have := h1.2; omega, by rw [h1.1, h2.2]⟩)
              rw [hdx.out] at hI
              have hsn : Hid (rfold pl.base st' (p.drop 10) dj (pre ++ [x]) = Vm.putPage dx pl.base q st' (ch.drop 4)) := by
                show _ = _
                rw [rfold_snoc, show rfold pl.base st' (p.drop 10) dj pre = (0, dx) from Prod.ext h0 hdx.out, hch.out]
                unfold Vm.putRec
                rw [if_pos rfl, hq.out]
              obtain ⟨er9, d9, hpp⟩ := pair_ex (Vm.putPage dx pl.base q st' (ch.drop 4))
              rw [hpp.out] at hsn
              have cP : Calls Tryz.prog 73 #[.pointer (some ⟨dA, 0, none⟩), .int .i64 (q : Int), .int .u64 (st' : Int), .slice (some ⟨b, 10 + x.1 * 500 + 4, none⟩) 496 496] W.drew fun e w' => e = .returned (.int .i64 (er9 : Int)) ∧ w'.cell? ⟨s, 0, none⟩ = some (.pointer (some ⟨a, 0, none⟩)) ∧ w'.cell? ⟨a, 0, none⟩ = some (.pointer (some ⟨dA, 0, none⟩)) ∧ w'.cell? ⟨a, 8, none⟩ = some (.int .u64 (st' : Int)) ∧ w'.cell? ⟨s + 1, 0, none⟩ = some (.int .i64 0) ∧ w'.frozen? ⟨s + 1, 0, none⟩ = false ∧ Hid (KpB q3 (q3 + 1) W w') ∧ Hid (∃ κ2, RdI (Dc c) κr c B W4 w' dA κ2 d9 ∧ KeepsFrom B W w') := by
                have hId : RdI (Dc c) κr c B W4 W.drew dA κx dx := ⟨hI.drum.to (S := No) ((To.refl No κx W).drew) (fun _ _ h => h), hI.t.drew, hI.z, hI.cl⟩
                have hr1 := rangeAt_part (show W.drew.rangeAt b (10 + x.1 * 500) (byC ch) from hr0) 4 496
                rw [byC_drop, byC_take, List.take_of_length_le (by rw [List.length_drop]; omega)] at hr1
                refine (c_pput κx c dA q st' b (10 + x.1 * 500 + 4) 496 dx pl W.drew hId.drum hId.z hc0 (by rw [hdk.out.2]; exact hp'.out) hqp hst8 (ch.drop 4) (by rw [List.length_drop]; omega) hr1 (by have := hIt.out.size; have := hbk4.out.2; show b < W.heap.size; omega) hdk.out.1).mono ?_
                rw [hpp.out]
                rintro e w' ⟨rfl, κ2, g1, g2, g3⟩
                obtain ⟨κ3, n1, n2, n3⟩ := hId.next (fun _ h => h) hc0 g1 g2 g3
                have hkB : ∀ k, k < W4.heap.size → κr k = 0 → w'.heap[k]? = W.heap[k]? := fun k hk h0 => by
                  have e1 : κx k = 0 := (hIt.out.col k hk (by rw [h0]; exact hnD.out.1)).trans h0
                  exact g2.blk k (Nat.lt_of_lt_of_le hk hIt.out.size) (by rw [e1]; exact hnD.out.1)
                have tt := n1.t
                refine ⟨rfl, keepT tt (by rw [hbs.out]; exact hnD.out.1) r04.out, ?_, ?_, keepT tt nS e14'.out, (World.frozen?_of_block (a := ⟨s + 1, 0, none⟩) (tt.blk (s + 1) hs14.out nS)).trans e15'.out, Hid.mk ⟨?_, ?_⟩, Hid.mk ⟨κ3, n1, ⟨n2.size, fun k o hk ho hc => n2.same k o hk ho hc⟩⟩⟩
                · exact keepT tt nA V4.out.cells.1
                · exact keepT tt nA V4.out.cells.2.2.2.2.1
                · exact World.cell?_of_block (hkB q3 (by omega) (hz3.out q3 (by rw [hq3.out]; omega)))
                · exact World.cell?_of_block (hkB (q3 + 1) (by omega) (hz3.out (q3 + 1) (by rw [hq3.out]; omega)))
              have hI' := Hid.mk hI
              clear hI hr0 ech
              gi_wp2
              refine region_round (S := fun w' => w'.cell? ⟨s, 0, none⟩ = some (.pointer (some ⟨a, 0, none⟩)) ∧ w'.cell? ⟨a, 0, none⟩ = some (.pointer (some ⟨dA, 0, none⟩)) ∧ w'.cell? ⟨a, 8, none⟩ = some (.int .u64 (st' : Int))) (by kernel_rfl) ?hno (by kernel_rfl) ?_
              case hno => exact fun ⟨_, _, h⟩ => h
              have hSw : (fun w' : World => w'.cell? ⟨s, 0, none⟩ = some (.pointer (some ⟨a, 0, none⟩)) ∧ w'.cell? ⟨a, 0, none⟩ = some (.pointer (some ⟨dA, 0, none⟩)) ∧ w'.cell? ⟨a, 8, none⟩ = some (.int .u64 (st' : Int))) W.drew := ⟨i0, i1, i8⟩
              refine wpAnyH_take (i := 0) (oi := _) (v := ?v0) rfl (by kernel_rfl) (by kernel_rfl) (by kernel_rfl) (fun _ _ _ h => h) (Or.inl ⟨by rfl, ?hy0⟩) hSw ?r0
              case hy0 =>
                intro w hSw
                obtain ⟨h1, h2, h3⟩ := hSw
                go_simp
                try rfl
              try simp only [Act.put, List.setIfInBounds_toArray, List.set_cons_zero, List.set_cons_succ]
              refine wpAnyH_take (i := 1) (oi := _) (v := ?v1) rfl (by kernel_rfl) (by kernel_rfl) (by kernel_rfl) (fun _ _ _ h => h) (Or.inl ⟨by rfl, ?hy1⟩) hSw ?r1
              case hy1 =>
                intro w hSw
                obtain ⟨h1, h2, h3⟩ := hSw
                go_simp
                try rfl
              try simp only [Act.put, List.setIfInBounds_toArray, List.set_cons_zero, List.set_cons_succ]
              refine wpAnyH_take (i := 2) (oi := _) (v := ?v2) rfl (by kernel_rfl) (by kernel_rfl) (by kernel_rfl) (fun _ _ _ h => h) (Or.inl ⟨by rfl, ?hy2⟩) hSw ?r2
              case hy2 =>
                intro w hSw
                obtain ⟨h1, h2, h3⟩ := hSw
                go_simp
                try rfl
              try simp only [Act.put, List.setIfInBounds_toArray, List.set_cons_zero, List.set_cons_succ]
              refine wpAnyH_take (i := 3) (oi := _) (v := ?v3) rfl (by kernel_rfl) (by kernel_rfl) (by kernel_rfl) (fun _ _ _ h => h) (Or.inl ⟨by rfl, ?hy3⟩) hSw ?r3
              case hy3 =>
                intro w hSw
                obtain ⟨h1, h2, h3⟩ := hSw
                go_simp
                try rfl
              try simp only [Act.put, List.setIfInBounds_toArray, List.set_cons_zero, List.set_cons_succ]
              refine wpAnyH_take (i := 4) (oi := _) (v := ?v4) rfl (by kernel_rfl) (by kernel_rfl) (by kernel_rfl) (fun _ _ _ h => h) (Or.inl ⟨by rfl, ?hy4⟩) hSw ?r4
              case hy4 =>
                intro w hSw
                obtain ⟨h1, h2, h3⟩ := hSw
                go_simp
                try rfl
              try simp only [Act.put, List.setIfInBounds_toArray, List.set_cons_zero, List.set_cons_succ]
              refine wpAnyH_take (i := 7) (oi := _) (v := ?v7) rfl (by kernel_rfl) (by kernel_rfl) (by kernel_rfl) (fun _ _ _ h => h) (Or.inl ⟨by rfl, ?hy7⟩) hSw ?r7
              case hy7 =>
                intro w hSw
                obtain ⟨h1, h2, h3⟩ := hSw
                go_simp
                try rfl
              try simp only [Act.put, List.setIfInBounds_toArray, List.set_cons_zero, List.set_cons_succ]
              refine wpAnyH_take (i := 8) (oi := _) (v := ?v8) rfl (by kernel_rfl) (by kernel_rfl) (by kernel_rfl) (fun _ _ _ h => h) (Or.inl ⟨by rfl, ?hy8⟩) hSw ?r8
              case hy8 =>
                intro w hSw
                obtain ⟨h1, h2, h3⟩ := hSw
                go_simp
                try rfl
              try simp only [Act.put, List.setIfInBounds_toArray, List.set_cons_zero, List.set_cons_succ]
              refine wpAnyH_take (i := 9) (oi := _) (v := ?v9) rfl (by kernel_rfl) (by kernel_rfl) (by kernel_rfl) (fun _ _ _ h => h) (Or.inl ⟨by rfl, ?hy9⟩) hSw ?r9
              case hy9 =>
                intro w hSw
                obtain ⟨h1, h2, h3⟩ := hSw
                go_simp
                try rfl
              try simp only [Act.put, List.setIfInBounds_toArray, List.set_cons_zero, List.set_cons_succ]
              refine wpAnyH_take (i := 10) (oi := _) (v := ?v10) rfl (by kernel_rfl) (by kernel_rfl) (by kernel_rfl) (fun _ _ _ h => h) (Or.inl ⟨by rfl, ?hy10⟩) hSw ?r10
              case hy10 =>
                intro w hSw
                obtain ⟨h1, h2, h3⟩ := hSw
                go_simp
                try rfl
              try simp only [Act.put, List.setIfInBounds_toArray, List.set_cons_zero, List.set_cons_succ]
              refine wpAnyH_take (i := 11) (oi := _) (v := ?v11) rfl (by kernel_rfl) (by kernel_rfl) (by kernel_rfl) (fun _ _ _ h => h) (Or.inl ⟨by rfl, ?hy11⟩) hSw ?r11
              case hy11 =>
                intro w hSw
                obtain ⟨h1, h2, h3⟩ := hSw
                go_simp
                try rfl
              try simp only [Act.put, List.setIfInBounds_toArray, List.set_cons_zero, List.set_cons_succ]
              refine wpAnyH_take (i := 12) (oi := _) (v := ?v12) rfl (by kernel_rfl) (by kernel_rfl) (by kernel_rfl) (fun _ _ _ h => h) (Or.inl ⟨by rfl, ?hy12⟩) hSw ?r12
              case hy12 =>
                intro w hSw
                obtain ⟨h1, h2, h3⟩ := hSw
                go_simp
                try rfl
              try simp only [Act.put, List.setIfInBounds_toArray, List.set_cons_zero, List.set_cons_succ]
              refine wpAnyH_take (i := 13) (oi := _) (v := ?v13) rfl (by kernel_rfl) (by kernel_rfl) (by kernel_rfl) (fun _ _ _ h => h) (Or.inl ⟨by rfl, ?hy13⟩) hSw ?r13
              case hy13 =>
                intro w hSw
                obtain ⟨h1, h2, h3⟩ := hSw
                go_simp
                try rfl
              try simp only [Act.put, List.setIfInBounds_toArray, List.set_cons_zero, List.set_cons_succ]
              refine wpAnyH_ready (rs := [5]) (by kernel_rfl) (by decide) (AllReadyH.cons (o := _) rfl (fun K' hK' => ?_) AllReadyH.nil)
              rw [if_pos (by rfl)]
              unfold Oper.wp
              go_simp
              refine cN.mono ?_
              rintro e w3 ⟨rfl, rfl⟩
              refine hK'.out _ _ hSw fun _ => ?_
              clear hK' K'
              try simp only [Act.put, List.setIfInBounds_toArray, List.set_cons_zero, List.set_cons_succ]
              refine wpAnyH_take (i := 6) (oi := _) (v := ?v6) rfl (by kernel_rfl) (by kernel_rfl) (by kernel_rfl) (fun _ _ _ h => h) (Or.inl ⟨by rfl, ?hy6⟩) hSw ?r6
              case hy6 =>
                intro w hSw
                obtain ⟨h1, h2, h3⟩ := hSw
                go_simp
                try rfl
              try simp only [Act.put, List.setIfInBounds_toArray, List.set_cons_zero, List.set_cons_succ]
              refine wpAnyH_ready (rs := [14]) (by kernel_rfl) (by decide) (AllReadyH.cons (o := _) rfl (fun K' hK' => ?_) AllReadyH.nil)
              rw [if_pos (by rfl)]
              unfold Oper.wp
              go_simp
              refine cP.mono ?_
              rintro e w3 ⟨rfl, n0, n1, n8, n4, n5, hKp, hN⟩
              have hSw2 : (fun w' : World => w'.cell? ⟨s, 0, none⟩ = some (.pointer (some ⟨a, 0, none⟩)) ∧ w'.cell? ⟨a, 0, none⟩ = some (.pointer (some ⟨dA, 0, none⟩)) ∧ w'.cell? ⟨a, 8, none⟩ = some (.int .u64 (st' : Int))) w3 := ⟨n0, n1, n8⟩
              refine hK'.out _ _ hSw2 fun _ => ?_
              clear hK' K'
              try simp only [Act.put, List.setIfInBounds_toArray, List.set_cons_zero, List.set_cons_succ]
              refine wpAnyH_take (i := 15) (oi := _) (v := ?v15) rfl (by kernel_rfl) (by kernel_rfl) (by kernel_rfl) (fun _ _ _ h => h) (Or.inl ⟨by rfl, ?hy15⟩) hSw2 ?r15
              case hy15 =>
                intro w hSw
                obtain ⟨h1, h2, h3⟩ := hSw
                go_simp
                try rfl
              try simp only [Act.put, List.setIfInBounds_toArray, List.set_cons_zero, List.set_cons_succ]
              refine wpAnyH_done (by kernel_rfl) ?_ _
              clear cN cP
              obtain ⟨κ2, n9, kf9⟩ := hN.out
              have hB2 : q3 + 2 = B := by rw [← hB.out, y0]
              by_cases he9 : er9 = 0
              · subst he9
                gi_wp2
                exact ⟨kf9, hKp.out, ⟨⟨κ2, by rw [hsn.out]; exact n9⟩, by rw [hsn.out]⟩⟩
              · have hne : ((er9 : Int) != 0) = true := by rw [bne_iff_ne]; omega
                have hk2 : κ2 (s + 1) = K2 := (n9.t.col (s + 1) hs14.out nS).trans hbs1.out
                have n10 := n9.store (S' := fun j => Dc c j ∨ j = K2) (fun _ h => Or.inl h) (p := ⟨s + 1, 0, none⟩) (by show ¬ Dc c (κ2 (s + 1)); rw [hk2]; exact hnD.out.2.2) hs14.out (Or.inr hbs1.out) (.int .i64 (er9 : Int))
                gi_wp2
                refine ⟨kf9.trans ((KeepsOthers.setCell _ _ _).from _), rfl, ⟨κ2, by rw [hsn.out]; exact n10⟩, by rw [hsn.out]; exact he9, ?_⟩
                rw [hsn.out]
                exact World.cell?_setCell_same' _ _ _ (by rw [n4]; rfl)
            case done =>
              rintro D xs W hD rfl ⟨κx, hI, h0⟩ hK
              have hmk : ({ target := Target.collected D, args := #[] } : Deferred) :: Ds.map mkD = (D :: Ds).map mkD := rfl
              have hIt := hI.t
              have hlen := hm5'.out
              go_wp2
              refine ⟨⟨j + 1, D :: Ds, κx, st', (rfold pl.base st' (p.drop 10) dj (upto m m (Nat.le_refl _))).2, _, _, _, _, _, _, _, _, _, _, _, _, _, _, _, hltN.out, rfl, Hid.mk ⟨V4.out.setD hI.drum hIt, t0.trans (T24.out.trans (hIt.mono fun k e => .inl e)), hI.z, ?_, hst8, ?_, ?_, ?_⟩⟩, ?_⟩
              · rw [List.take_succ_eq_append_getElem hjl, List.foldl_append, hR2.out.fold, hpj.out]
                show Vm.redo pl.base (0, stj, dj) p = _
                rw [redo_rfold (m := m) (by rw [hpnl.out]; exact hlen.2.1), hst'.out, h0]
              · rw [List.take_succ_eq_append_getElem hjl, hpj.out, tot_app, tot_one]
                refine (hR2.out.kp.trans (rfold_kp pl.base st' (p.drop 10) dj (upto m m (Nat.le_refl _)))).mono ?_
                rw [upto_len, hpnl.out]; omega
              · rw [List.nodup_cons]
                refine ⟨fun e => ?_, hR2.out.nd⟩
                have h1 := (Array.getElem?_eq_some_iff.1 (hR2.out.ds D e).2.2).1
                have h2 := T24.out.size
                omega
              · intro E hE
                rcases List.mem_cons.1 hE with rfl | hE
                · refine ⟨by have := t0.size; have := T24.out.size; omega, ?_, hK⟩
                  rcases hI.cl E (by rw [← hB.out]; exact hD) with e | ⟨_, o, ho, hc⟩
                  · exact e
                  · rw [hK] at ho; injection ho with ho; rw [← ho] at hc; cases hc
                · obtain ⟨p1, p2, p3⟩ := hR2.out.ds E hE
                  have l1 := (Array.getElem?_eq_some_iff.1 p3).1
                  have l2 := T24.out.size
                  have n1 : ¬ Dc c (κr E) := by rw [p2]; exact hnD.out.1
                  have n2 : ¬ St c (κr E) := by rw [p2]; exact notSt0 hc0
                  exact ⟨p1, (hIt.col E (by omega) n1).trans p2, (hIt.blk E (by omega) n1).trans ((T24.out.blk E l1 n2).trans p3)⟩
              · have := hltN.out
                simp [intOf]
                omega
            case stop =>
              rintro D cc pre W hD ⟨k, hk, rfl⟩ ⟨rfl, κx, hI, hne, hcell⟩ hK
              have hIt := hI.t
              have hlen := hm5'.out
              have hRe : Hid (R.1 = (rfold pl.base st' (p.drop 10) dj (upto m k hk)).1 ∧ R.2.2.2 = (rfold pl.base st' (p.drop 10) dj (upto m k hk)).2) := by
                show _ ∧ _
                have hfull := rfold_stop pl.base st' (p.drop 10) dj m k hk hne
                have h1 : gs.foldl (Vm.redo pl.base) (0, st, d1) = ((rfold pl.base st' (p.drop 10) dj (upto m k hk)).1, st', (rfold pl.base st' (p.drop 10) dj (upto m k hk)).2) := by
                  have e1 : gs = gs.take j ++ p :: gs.drop (j + 1) := by
                    rw [← hpj.out, ← List.drop_eq_getElem_cons hjl, List.take_append_drop]
                  rw [e1, List.foldl_append, hR2.out.fold, List.foldl_cons, redo_rfold (m := m) (by rw [hpnl.out]; exact hlen.2.1), hst'.out, hfull]
                  exact redo_stop _ _ _ hne
                rw [← hR.out]
                unfold Vm.recover2
                simp only
                rw [hop.out]
                simp only
                rw [if_neg (by rw [List.all_eq_true.2 hfm'.out]; decide), if_neg (by omega), h1]
                obtain ⟨ef, df, hfl⟩ : ∃ ef df, rfold pl.base st' (p.drop 10) dj (upto m k hk) = (ef, df) := ⟨_, _, rfl⟩
                rw [hfl] at hne ⊢
                cases ef with
                | zero => exact absurd rfl hne
                | succ ef => exact ⟨rfl, rfl⟩
              refine wpIn_wide.2 ?_
              go_wp2
              have hds : ∀ E ∈ D :: Ds, s + 2 ≤ E ∧ κx E = 0 ∧ W.heap[E]? = some (.deferred (some [])) := by
                intro E hE
                have l0 := T2.out.size
                have l3 := z0'.out
                have l4 := t0.size
                have l2 := T24.out.size
                rcases List.mem_cons.1 hE with rfl | hE
                · refine ⟨by omega, ?_, hK⟩
                  rcases hI.cl E (by rw [← hB.out]; exact hD) with e | ⟨_, o, ho, hc⟩
                  · exact e
                  · rw [hK] at ho; injection ho with ho; rw [← ho] at hc; cases hc
                · obtain ⟨p1, p2, p3⟩ := hR2.out.ds E hE
                  have l1 := (Array.getElem?_eq_some_iff.1 p3).1
                  have n1 : ¬ (Dc c (κr E) ∨ κr E = K2) := by
                    rw [p2]
                    rintro (e | e)
                    · exact hnD.out.1 e
                    · have := hK12.out; omega
                  have n2 : ¬ St c (κr E) := by rw [p2]; exact notSt0 hc0
                  exact ⟨by omega, (hIt.col E (by omega) n1).trans p2, (hIt.blk E (by omega) n1).trans ((T24.out.blk E l1 n2).trans p3)⟩
              have hnd : (D :: Ds).Nodup := by
                rw [List.nodup_cons]
                refine ⟨fun e => ?_, hR2.out.nd⟩
                have h1 := (Array.getElem?_eq_some_iff.1 (hR2.out.ds D e).2.2).1
                have h2 := T24.out.size
                omega
              refine leaves_all (D :: Ds) _ hnd (fun E hE => (hds E hE).2.2) fun W' hG => ?_
              have hn : s + 1 ∉ D :: Ds := fun e => by have := (hds _ e).1; omega
              have hc5 : W'.cell? ⟨s + 1, 0, none⟩ = some (.int .i64 (R.1 : Int)) := by
                rw [hRe.out.1]
                exact (World.cell?_of_block (a := ⟨s + 1, 0, none⟩) (hG.same (s + 1) hn)).trans hcell
              refine ⟨.int .i64 (R.1 : Int), by simp [results, Tryz.f54, go_sem, hc5], ?_⟩
              have nA : ¬ (Dc c (κr a) ∨ κr a = K2) := by
                rw [V4.out.col]
                rintro (e | e)
                · exact hnD.out.2.1 e
                · have := hK12.out; omega
              have VW : VR κx c W a dA pl fr cv (.pointer lp) ⟨gn, st'⟩ tk wv mv bz dn R.2.2.2 := by
                rw [hRe.out.2]
                exact ⟨(hIt.col a V4.out.lt nA).trans V4.out.col, (hIt.blk a V4.out.lt nA).trans V4.out.blk, hI.drum⟩
              exact rec_fin2 (K2 := K2) (Ds := D :: Ds) hc0 hs.out z0'.out T01.out κo.out (fun x => (hKK.out x).1) VW ((T2.out.mono fun j e => Or.inl (Or.inl e)).trans ((t0.mono fun j e => Or.inl e).trans ((T24.out.mono fun j e => Or.inl e).trans (hIt.mono fun j e => e.imp (fun h => Or.inl h) id)))) hI.z hG (fun E hE => ⟨(hds E hE).1, (hds E hE).2.1⟩) (fun h => absurd (hRe.out.1.symm.trans h) hne)
          · have hNj : N = j := by omega
            subst hNj
            have hkp := hR2.out.kp
            have hfold := hR2.out.fold
            rw [← hN.out, List.take_length] at hkp hfold
            obtain ⟨R5, hR5⟩ : ∃ R5, Hid (chk2 dj pl ⟨gn, stj⟩ = R5) := ⟨_, Hid.mk rfl⟩
            have hRR : Hid (R5.1 = R.1 ∧ R5.2.2.2 = R.2.2.2 ∧ (R.1 = 0 → R5 = R)) := by
              show _ ∧ _
              rw [← hR.out, ← hR5.out]
              unfold Vm.recover2 chk2
              simp only
              rw [hop.out]
              simp only
              rw [if_neg (by rw [List.all_eq_true.2 hfm'.out]; decide), if_neg (by omega), hfold]
              simp only
              obtain ⟨ef, df, hfl⟩ : ∃ ef df, dj.flush = (ef, df) := ⟨_, _, rfl⟩
              rw [hfl]
              cases ef with
              | zero => exact ⟨rfl, rfl, fun _ => rfl⟩
              | succ ef => exact ⟨rfl, rfl, fun h => by cases h⟩
            have hl1 : Hid (dj.loose.length ≤ 500000 ∧ dj.now.length = d.now.length) := Hid.mk ⟨by have := hkp.2; have := hk1.out.2; have := htot.out; have := hpl.out; omega, by rw [hkp.1, hk1.out.1]⟩
            have cT : Calls Tryz.prog 70 #[.pointer (some ⟨a, 0, none⟩)] wr2 fun e w' => e = .returned (.int .i64 (R.1 : Int)) ∧ w'.cell? ⟨s + 1, 0, none⟩ = some (.int .i64 0) ∧ w'.frozen? ⟨s + 1, 0, none⟩ = false ∧ Hid (TurnAns κr c wr2 a dA pl fr cv tk wv mv bz dn R5 (.returned (.int .i64 (R5.1 : Int))) w') := by
              refine (c_chk hR2.out.vr hR2.out.z hc0 (by rw [hl1.out.2]; exact hp'.out) ⟨lp, rfl⟩ hg hR2.out.sj hl1.out.1).mono ?_
              rw [hR5.out]
              rintro e w' ⟨rfl, κ', lv', g1, g2, g3, g4⟩
              have hks : κr (s + 1) = K2 := (t0.col (s + 1) (World.block_lt_of_cell? w2 _ q4) (by rw [κs.out]; exact notStK (hKK.out 0).2)).trans κs.out
              have hn : ¬ St c (κr (s + 1)) := by rw [hks]; exact notStK (hKK.out 0).2
              refine ⟨by rw [hRR.out.1], keepT g2 hn r4, (World.frozen?_of_block (a := ⟨s + 1, 0, none⟩) (g2.blk (s + 1) (World.block_lt_of_cell? wr2 _ r4) hn)).trans r5, Hid.mk ⟨rfl, κ', lv', g1, g2, g3, g4⟩⟩
            clear hkp hfold k0 k1 k6 k7 k8 kf r4 r5 G3
            go_wp2_with (first | (go_at_call 70; refine cT.mono ?_; rintro e w5 ⟨rfl, r4, r5, hTA⟩))
            obtain ⟨-, κ', lv', g1, g2, g3, g4⟩ := hTA.out
            have hds : ∀ D ∈ Ds, s + 2 ≤ D ∧ κ' D = 0 ∧ w5.heap[D]? = some (.deferred (some [])) := fun D hD => by
              obtain ⟨p1, p2, p3⟩ := hR2.out.ds D hD
              have hlt := (Array.getElem?_eq_some_iff.1 p3).1
              have hn : ¬ St c (κr D) := by rw [p2]; exact notSt0 hc0
              have := T2.out.size
              have := z0'.out
              exact ⟨by omega, (g2.col D hlt hn).trans p2, (g2.blk D hlt hn).trans p3⟩
            refine leaves_all Ds _ hR2.out.nd (fun D hD => ?_) fun W' hG => ?_
            · rw [Below.heap_setCell _ _ _ _ (fun e => ?_)]
              · exact (hds D hD).2.2
              · have := (hds D hD).1
                simp only at e
                omega
            · have hn : s + 1 ∉ Ds := fun e => by have := (hds _ e).1; omega
              have hc5 : W'.cell? ⟨s + 1, 0, none⟩ = some (.int .i64 (R.1 : Int)) := (World.cell?_of_block (a := ⟨s + 1, 0, none⟩) (hG.same (s + 1) hn)).trans (World.cell?_setCell_same' w5 ⟨s + 1, 0, none⟩ (.int .i64 (R.1 : Int)) (by rw [r4]; rfl))
              refine ⟨.int .i64 (R.1 : Int), by simp [results, Tryz.f54, go_sem, hc5], ?_⟩
              rw [hRR.out.2.1] at g1
              refine rec_fin (Ds := Ds) hc0 hs.out z0'.out T01.out κs.out κo.out (hKK.out 0).2 g1 ((T2.out.mono fun j e => Or.inl e).trans (t0.trans g2)) g3 rfl hG (fun D hD => ⟨(hds D hD).1, (hds D hD).2.1⟩) (fun h => ?_)
              have h5 := hRR.out.2.2 h
              obtain ⟨tA, y1, y2, y3⟩ := g4 (by rw [h5]; exact h)
              rw [h5] at y2 y3 ⊢
              exact ⟨rfl, tA, y1, y2, y3⟩
  · have hne : ((er : Int) != 0) = true := by rw [bne_iff_ne]; omega
    have hRe : R.1 = er ∧ R.2.2.2 = d1 := by
      rw [← hR.out]
      unfold Vm.recover2
      simp only
      rw [hop.out]
      cases er with
      | zero => exact absurd rfl he
      | succ n => exact ⟨rfl, rfl⟩
    go_wp2
    have hc5 := World.cell?_setCell_same' w2 ⟨s + 1, 0, none⟩ (.int .i64 (er : Int)) (by rw [q4]; rfl)
    refine ⟨.int .i64 (er : Int), by simp [results, Tryz.f54, go_sem, hc5], ?_⟩
    rw [← hRe.1]
    rw [← hRe.2] at V2
    refine rec_fin (Ds := []) hc0 hs.out z0'.out T01.out κs.out κo.out (hKK.out 0).2 V2.out (T2.out.mono fun j e => .inl e) (T2.out.cz hz1.out) rfl ⟨rfl, rfl, rfl, rfl, fun _ _ => rfl⟩ (fun D hD => by cases hD) (fun h => absurd (hRe.1.symm.trans h) he)
end Go.Proofs.YtoacaikopcdkmaaGreat
