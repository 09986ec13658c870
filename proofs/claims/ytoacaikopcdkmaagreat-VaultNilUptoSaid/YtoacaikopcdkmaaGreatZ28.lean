/- The vault: Commit, where the log has room. No condition. -/
import Derived.Test.YtoacaikopcdkmaaGreatZ27
import Derived.Maps.AppendAt
set_option linter.unusedSimpArgs false
set_option linter.unusedVariables false
namespace Go.Proofs.YtoacaikopcdkmaaGreat
open Go.RowKit Go.Sort Go.MapKept Go.Maps Go.WideElems Go.ChangeMaps
theorem VB.setTape {κ κ' c w w' a dA cA tA mA tk wv v d d' T} (h : VB κ c w a dA cA tA mA tk wv v d) (hT : TapeB κ' (c + 7) w' tA dA T) (hD : DrumAt κ' c w' dA d') (hok : TapeOk T) (t : To (fun j => Dc c j ∨ j = c + 7) κ κ' w w') (hc0 : 1 ≤ c) : VB κ' c w' a dA cA tA mA tk wv { v with tape := T } d' := by
  have n : ∀ j, ¬ (c ≤ j ∧ j < c + 4) → j ≠ c + 7 → ¬ (Dc c j ∨ j = c + 7) := fun j h1 h2 e => e.elim (fun e => h1 ⟨e.1, e.2⟩) h2
  have s8 : ¬ (Dc c (κ a) ∨ κ a = c + 7) := n _ (by rw [h.col]; omega) (by rw [h.col]; omega)
  have sm : ¬ (Dc c (κ mA) ∨ κ mA = c + 7) := n _ (by rw [h.colm]; omega) (by rw [h.colm]; omega)
  exact ⟨(t.col a h.lt s8).trans h.col, (t.blk a h.lt s8).trans h.blk, h.cache.to t (fun j hj => n j (by have := hj.1; omega) (by have := hj.2; omega)) (n _ (by omega) (by omega)), hT, hok, h.rtk.to t (n _ (by omega) (by omega)), h.tkl, fun hb => ⟨(h.was hb).1.to t (n _ (by omega) (by omega)), (h.was hb).2⟩, (t.col mA h.map.lt sm).trans h.colm, h.map.to t sm, hD⟩
theorem append_ok {T T' : Vm.Tape} {d d' : Vm.Drum} {p : List UInt8} (h : TapeOk T) (e : T.append d p = (0, T', d')) : TapeOk T' := by
  unfold Vm.Tape.append at e
  simp only at e
  split at e
  · cases (congrArg Prod.fst e)
  · split at e
    · cases (congrArg Prod.fst e)
    · rename_i h1 h2
      obtain ⟨er, dx, hw⟩ : ∃ er dx, T.writes p (Vm.secs p.length) (Vm.secs p.length) d = (er, dx) := ⟨_, _, rfl⟩
      rw [hw] at e
      cases er with
      | succ n => cases (congrArg Prod.fst e)
      | zero =>
        simp only at e
        have e2 : _ = T' := congrArg (fun x => x.2.1) e
        rw [← e2]
        have a1 := h.lo
        have a2 := h.grp
        have a3 : 1 ≤ Vm.secs p.length := by unfold Vm.secs; omega
        exact ⟨h.hi, by simp only; omega, h.gen, by simp only; omega⟩
theorem flush_ok {T T' : Vm.Tape} {d d' : Vm.Drum} {er : Nat} (h : TapeOk T) (e : T.flush d = (er, T', d')) : TapeOk T' := by
  unfold Vm.Tape.flush at e
  split at e
  · have e2 : T = T' := congrArg (fun x => x.2.1) e
    rw [← e2]; exact h
  · have e2 : _ = T' := congrArg (fun x => x.2.1) e
    rw [← e2]; exact ⟨h.hi, h.lo, h.gen, h.grp⟩
set_option maxRecDepth 100000 in
set_option maxHeartbeats 800000 in
theorem c_commit1 {κ c w a dA v d C cur} (h : VAt κ c w a dA v d) (H : Vm.VI v d C cur) (hz : Cz κ w) (hc0 : 1 ≤ c) (hb : v.busy = true) (hch : v.ch ≠ []) (hst : v.head.stamp + 1 < 18446744073709551616) (h1 : ¬ v.pl.log * 48 < v.group.enc.length) (h2 : ¬ v.tape.free * 48 < v.group.enc.length) (hL : d.loose.length ≤ 100000) (hg : v.head.gen + 1 < 4294967295) :
    Calls Tryz.prog 21 #[.pointer (some ⟨a, 0, none⟩)] w fun e w' => e = .returned (.int .i64 ((v.commit d).1 : Int)) ∧ ∃ κ', VAt κ' c w' a dA (v.commit d).2.1 (v.commit d).2.2 ∧ To (Vc c) κ κ' w w' ∧ Cz κ' w' := by
  obtain ⟨cA, tA, mA, tk, wv, h⟩ := h
  have hask : v.ask true = 0 := by unfold Vm.Va.ask; rw [H.down, hb]; simp
  have cA' := c_ask h true
  rw [hask] at cA'
  obtain ⟨t1, d1, t2, d2, d3, ha1, ha2, ha3, ha4⟩ := commit_parts H hb hg (by simpa using hst) hch h1 h2
  rw [ha4]
  have hdn := H.down
  rw [hdn] at ha4 ⊢
  have ha4' := Hid.mk ha4
  clear ha4
  have hfew := H.ci.few
  have hfle := h.fle
  have hpl : Hid (v.pl.pages ≤ 2048 ∧ 1 ≤ v.pl.pages) := Hid.mk ⟨H.one.2, H.one.1⟩
  obtain ⟨n, hn⟩ : ∃ n, Hid (v.ch.length = n) := ⟨_, Hid.mk rfl⟩
  have hn1 : 1 ≤ n := by rw [← hn.out]; exact List.length_pos_iff.2 hch
  obtain ⟨ord, hord⟩ : ∃ ord, Hid (Vm.isort v.ch = ord) := ⟨_, Hid.mk rfl⟩
  have hol : Hid (ord.length = n) := Hid.mk (by rw [← hord.out, Vm.isort_len, hn.out])
  have hom : Hid (∀ k ∈ ord, k ∈ v.ch) := Hid.mk fun k hk => Vm.mem_isort.1 (by rw [hord.out]; exact hk)
  obtain ⟨st, hst'⟩ : ∃ st, Hid (v.head.stamp + 1 = st) := ⟨_, Hid.mk rfl⟩
  rw [hst'.out] at hst
  have hn2 : n ≤ 65536 := by rw [← hn.out]; omega
  have hgl : Hid (v.group.enc = gb n st cur ord) := Hid.mk (by rw [gb_enc H, hn.out, hst'.out, hord.out])
  have hv496 : Hid (∀ k ∈ ord, (cur k).length = 496) := Hid.mk fun k hk => (H.len k (H.pages k (hom.out k hk))).2
  have hkp : Hid (∀ k ∈ ord, k < v.pl.pages) := Hid.mk fun k hk => H.pages k (hom.out k hk)
  -- the keys
  have cK := c_keys (some mA) w
  have cS := c_sorted h.map (by omega)
  rw [hn.out, hord.out] at cS
  have hal := h.lt
  have cS' : Calls Tryz.prog 64 #[.func (.func 112) #[] #[.pointer (some ⟨w.heap.size, 0, none⟩)]] (w.alloc (.cells #[.map (some mA)] 90)) fun e w' => ∃ go cap, e = .returned (.slice (some ⟨go, 0, none⟩) n cap) ∧ w'.cell? ⟨a, 8, none⟩ = some (.int .u64 (v.head.stamp : Int)) ∧ Hid (w.heap.size ≤ go ∧ go < w'.heap.size ∧ w'.rangeAt go 0 (ord.map kV)) ∧ Hid (To No κ κ w w') := by
    refine cS.mono ?_
    rintro e w' ⟨rv, rfl, g1, g2, g3⟩
    have hb' : Below w.heap.size w w' := ((Below.refl _ w).alloc (Nat.le_refl _) _).trans (g3.mono (by omega))
    rcases g1.2 with ⟨e1, e2⟩ | ⟨g, cap, cur', e1, e2, e3⟩
    · omega
    · subst e1
      have V := h.no (To.of_below No κ hb')
      exact ⟨g, cap, rfl, cell_at V.blk rfl, Hid.mk ⟨by omega, (g1.lt g rfl).2, own_range g1⟩, Hid.mk (To.of_below _ _ hb')⟩
  have c11 : w.cell? ⟨a, 11, none⟩ = some (.map (some mA)) := h.cells.1
  have w64 : IntKind.u64.wrap ((v.head.stamp : Int) + 1) = (st : Int) := by
    rw [← hst'.out]
    unfold IntKind.wrap
    simp only [IntKind.bits, IntKind.signed, Bool.false_and, Bool.false_eq_true, if_false, Int.reducePow]
    have := hst'.out
    omega
  have wn : IntKind.u64.wrap (n : Int) = (n : Int) := by
    unfold IntKind.wrap
    simp only [IntKind.bits, IntKind.signed, Bool.false_and, Bool.false_eq_true, if_false, Int.reducePow]
    omega
  have H' := Hid.mk H
  have h' := Hid.mk h
  have hz' := Hid.mk hz
  have h1' := Hid.mk h1
  have h2' := Hid.mk h2
  have hb0 := Hid.mk hb
  have hch0 := Hid.mk hch
  have hask' := Hid.mk hask
  clear H h hz h1 h2 hb hch cS hfew hask
  have n0 : ((n : Int) == 0) = false := by rw [beq_eq_false_iff_ne]; omega
  go_enter Tryz.func21, Tryz.ntmps21
  go_wp2_with (first | (go_at_call 58; refine cA'.mono ?_; rintro e w0 ⟨rfl, rfl⟩) | (go_at_call 65; refine cK.mono ?_; rintro e w0' ⟨rfl, rfl⟩) | (go_at_call 64; refine cS'.mono ?_; rintro e w1 ⟨go, cap, rfl, e8, hgo, hT1⟩))
  have hV1 := Hid.mk (h'.out.no hT1.out)
  have hz1 := Hid.mk (hT1.out.cz hz'.out)
  clear cA' cK cS' c11
  obtain ⟨base, hbase⟩ : ∃ b, Hid (w1.heap.size = b) := ⟨_, Hid.mk rfl⟩
  obtain ⟨K0, hK0⟩ := fresh_col κ w0.heap.size
  obtain ⟨K, hK⟩ : ∃ K, Hid (K = K0 + c + 12) := ⟨_, Hid.mk rfl⟩
  have hKK : Hid ((∀ b, κ b < K) ∧ c + 12 ≤ K) := Hid.mk ⟨fun b => by
    rw [hK.out]
    by_cases hb : b < w0.heap.size
    · have := hK0 b hb; omega
    · have := hz'.out b (by omega); omega, by rw [hK.out]; omega⟩
  clear hK0 hK
  obtain ⟨κ2, hκ2⟩ : ∃ κ2 : Nat → Nat, Hid (κ2 = fun b => if base ≤ b then K else κ b) := ⟨_, Hid.mk rfl⟩
  have k2a : Hid (∀ b, base ≤ b → κ2 b = K) := Hid.mk fun b hb => by rw [hκ2.out]; exact if_pos hb
  have k2b : Hid (∀ b, b < base → κ2 b = κ b) := Hid.mk fun b hb => by rw [hκ2.out]; exact if_neg (by omega)
  have G0 : Hid (GI κ2 c base K w1 w1 a dA cA tA mA tk wv v d v.L (.slice none 0 0) []) := Hid.mk ⟨hV1.out.recol (fun b hb => k2b.out b (by rw [← hbase.out]; exact hb)), .refl _ _ _, World.ownsRow_nil _ _ _ _⟩
  refine (G0.out.put hbase.out hKK.out.2 k2a.out 2 n (by decide) (by omega) (by simp)).mono ?_
  rintro e w2 ⟨V2, rfl, G2, t2⟩
  have G2' := Hid.mk G2
  have t2' := Hid.mk t2
  clear G2 t2
  go_wp2_with fail
  refine (G2'.out.put hbase.out hKK.out.2 k2a.out 8 st (by decide) hst (by simp [Vm.put_len])).mono ?_
  rintro e w3 ⟨V3, rfl, G3, t3⟩
  have G3' := Hid.mk G3
  have t3' := Hid.mk t3
  clear G3 t3
  go_wp2_with fail
  obtain ⟨i0, y0, ei, ey, e1, e2', e3⟩ := info_sz (t := 5) (size := 1) (bytes := 1) (zs := 1) (by kernel_rfl)
  have hgo0 : Hid (κ2 go = 0 ∧ go < base) := Hid.mk ⟨by rw [k2b.out go (by rw [← hbase.out]; exact hgo.out.2.1)]; exact hz'.out go hgo.out.1, by rw [← hbase.out]; exact hgo.out.2.1⟩
  have hglen : Hid (∀ j, j ≤ n → (gb n st cur (ord.take j)).length = 10 + j * 500) := Hid.mk fun j hj => by
    rw [gb_len _ _ _ _ fun k hk => hv496.out k (List.take_subset _ _ hk), List.length_take, hol.out, Nat.min_eq_left hj]
  go_loopw [6, 48] (fun bv i wr => ∃ (j : Nat) (V : Value), j ≤ n ∧ i = .int .i64 (j : Int) ∧ bv = V ∧ Hid (GI κ2 c base K w1 wr a dA cA tA mA tk wv v d (Vm.used (ord.take j) v.L) V (gb n st cur (ord.take j)))) (fun _ i _ => n - (intOf i).toNat)
  case atStart =>
    refine ⟨0, V3, Nat.zero_le _, rfl, rfl, Hid.mk ?_⟩
    have e : gb n st cur (ord.take 0) = [] ++ Vm.put n 2 ++ Vm.put st 8 := by unfold gb; simp
    rw [e]
    exact G3'.out
  case round =>
    obtain ⟨j, V, hj, rfl, hV, hG⟩ := hrel
    have hV' := hV.symm
    clear hV
    subst hV'
    have hrange : Hid (wr.rangeAt go 0 (ord.map kV)) := Hid.mk (rangeAt_to hgo.out.2.2 hG.out.t (by rw [hgo0.out.1]; exact fun e => e.elim (fun e => by have := e.1; omega) (fun e => by have := hKK.out.2; omega)))
    by_cases hlt : (j : Int) < n
    · have hjl : j < ord.length := by rw [hol.out]; omega
      obtain ⟨k, hk⟩ : ∃ k, Hid (ord[j]'hjl = k) := ⟨_, Hid.mk rfl⟩
      have hkm : Hid (k ∈ ord) := Hid.mk (by rw [← hk.out]; exact List.getElem_mem hjl)
      have hk2 : k < 2048 := by have := hkp.out k hkm.out; have := hpl.out; omega
      have ck : wr.cell? ⟨go, j, none⟩ = some (.int .i64 (k : Int)) := by
        have := hrange.out j (kV k) (by rw [List.getElem?_map, List.getElem?_eq_getElem hjl, hk.out]; rfl)
        rw [Nat.zero_add] at this
        exact this
      have c5 := hG.out.vb.cells.2
      have wk : IntKind.u64.wrap (k : Int) = (k : Int) := by
        unfold IntKind.wrap
        simp only [IntKind.bits, IntKind.signed, Bool.false_and, Bool.false_eq_true, if_false, Int.reducePow]
        omega
      obtain ⟨en, hf, hen, hlen⟩ := used_found H'.out (ord.take j) (hom.out k hkm.out)
      have hlen' := Hid.mk hlen
      have cG : Calls Tryz.prog 68 #[.pointer (some ⟨cA, 0, none⟩), .int .i64 (k : Int)] wr fun e w' => ∃ pgb pc, e = .returned (.tuple #[.slice (some ⟨pgb, 0, none⟩) 496 pc, .bool true]) ∧ Hid (PgV κ2 w' (.slice (some ⟨pgb, 0, none⟩) 496 pc) (cur k)) ∧ Hid (GI κ2 c base K w1 w' a dA cA tA mA tk wv v d (Vm.used (ord.take (j + 1)) v.L) V (gb n st cur (ord.take j))) := by
        refine (hG.out.get hKK.out.2 k2a.out hc0 k en hf).mono ?_
        rintro e w' ⟨pv, rfl, g1, g2⟩
        rw [hen] at g1
        rw [← used_snoc, ← hk.out, ← List.take_succ_eq_append_getElem hjl] at g2
        have g1' := g1
        obtain ⟨pgb, pc, rfl, _⟩ := g1
        rw [hlen] at g1' ⊢
        exact ⟨pgb, pc, rfl, Hid.mk g1', Hid.mk g2⟩
      clear hf hen hlen
      go_wp2_with (go_at_call 68; refine cG.mono ?_; rintro e w4 ⟨pgb, pc, rfl, hpv, G4⟩)
      have hgl := hglen.out j hj
      refine (G4.out.put hbase.out hKK.out.2 k2a.out 4 k (by decide) (by omega) (by omega)).mono ?_
      rintro e w5 ⟨V5, rfl, G5, t5⟩
      have G5' := Hid.mk G5
      have hpv5 := Hid.mk (hpv.out.to t5 (by have := hKK.out.2; omega))
      clear G5 t5
      have hsrc : Hid (∀ i u, (byC (cur k))[i]? = some u → w5.cell? ((⟨pgb, 0, none⟩ : Addr).add i) = some u) := by
        obtain ⟨g, cap', he, _, _, _, hr⟩ := hpv5.out
        injection he with e1 e2 e3
        injection e1 with e1
        injection e1 with e1
        subst e1
        exact Hid.mk (src_mid hr)
      have hb5 : base ≤ w5.heap.size := by rw [← hbase.out]; exact G5'.out.t.size
      have hl5 : (gb n st cur (ord.take j) ++ Vm.put k 4).length = 14 + j * 500 := by rw [List.length_append, Vm.put_len, hgl]; omega
      go_wp2_with (at_builtin; refine wpList_append_own_at (o := ⟨some 66, _, _, _, _, _⟩) w5 rfl (.tmp 64) (.tmp 65) 22 rfl base 5 i0 y0 1 1 Tryz.underlying22 ei ey e1 e2' e3 (by omega) V5 (gb n st cur (ord.take j) ++ Vm.put k 4).length (byC (gb n st cur (ord.take j) ++ Vm.put k 4)) rfl G5'.out.row ⟨pgb, 0, none⟩ 496 pc (byC (cur k)) rfl (by rw [byC_len, hlen'.out]) hsrc.out (byC_one _) (by simp only [maxLen]; omega) (by omega) hb5 ?_; intro v' w6 hown6 hgrow hnil hat)
      go_roundw
      case rel =>
        have e : gb n st cur (ord.take (j + 1)) = gb n st cur (ord.take j) ++ Vm.put k 4 ++ cur k := by
          rw [List.take_succ_eq_append_getElem hjl, gb_snoc, hk.out]
        have hl6 : (gb n st cur (ord.take j) ++ Vm.put k 4).length + 496 = (gb n st cur (ord.take (j + 1))).length := by rw [e, List.length_append (bs := cur k), hlen'.out]
        rw [hl6, ← byC_app, ← e] at hown6
        exact ⟨j + 1, v', by omega, by go_num, rfl, Hid.mk (G5'.out.grown hbase.out hKK.out.2 k2a.out hgrow hown6).1⟩
      case measure => simp [intOf]; omega
    · have hjn : j = n := by omega
      subst hjn
      have htk : ord.take j = ord := by rw [← hol.out, List.take_length]
      rw [htk] at hG
      have hVB := Hid.mk (hG.out.vb.recolW (κ' := κ) fun b hb e => by
        by_cases h : b < base
        · exact (k2b.out b h).symm
        · rw [k2a.out b (by omega)] at e
          have := hKK.out.2
          rcases e with e | e
          · have := e.2; omega
          · omega)
      have hT := Hid.mk (show To (Vc c) κ κ w0 wr from by
        have t1 := hT1.out
        have t2 := hG.out.t
        refine ⟨t2.os.trans t1.os, t2.tape.trans t1.tape, t2.output.trans t1.output, Nat.le_trans t1.size t2.size, fun _ _ _ => rfl, fun b hb hn => ?_⟩
        have hb1 : b < base := by have := t1.size; rw [hbase.out] at this; omega
        refine (t2.blk b (by rw [hbase.out]; exact hb1) fun e => ?_).trans (t1.blk b hb (fun h => h))
        rw [k2b.out b hb1] at e
        rcases e with e | e
        · exact hn ⟨by have := e.1; omega, by have := e.2; omega⟩
        · have := hKK.out.1 b; omega)
      have hzr := Hid.mk (hT.out.cz hz'.out)
      have hord2 : Hid (κ go = 0 ∧ go < wr.heap.size ∧ wr.rangeAt go 0 (ord.map kV)) := Hid.mk ⟨hz'.out go hgo.out.1, by have := hG.out.t.size; have := hgo.out.2.1; omega, hrange.out⟩
      obtain ⟨L, hLl⟩ : ∃ L, Hid ((gb j st cur ord).length = L) := ⟨_, Hid.mk rfl⟩
      have hL1 : Hid (L = 10 + j * 500) := Hid.mk (by rw [← hLl.out, ← htk]; exact hglen.out j (Nat.le_refl _))
      have hL10 : 10 ≤ L := by rw [hL1.out]; omega
      obtain ⟨gg, capg, hVf, hgg⟩ : ∃ gg capg, V = .slice (some ⟨gg, 0, none⟩) L capg ∧ Hid (κ gg = 0 ∧ gg < wr.heap.size ∧ wr.rangeAt gg 0 (byC (gb j st cur ord)) ∧ L ≤ capg) := by
        have hr := hG.out.row
        rw [hLl.out] at hr
        rcases hr.2 with ⟨x1, x2⟩ | ⟨g, cp, cu, x1, x2, x3⟩
        · omega
        · subst x1
          exact ⟨g, cp, rfl, Hid.mk ⟨hz'.out g (by have := hT1.out.size; rw [hbase.out] at this; omega), (hr.lt g rfl).2, own_range hr, x3.2.1⟩⟩
      subst hVf
      have hgl2 := hgl.out
      have hLe : Hid (v.group.enc.length = L) := Hid.mk (by rw [hgl2, hLl.out])
      obtain ⟨lg, hlg⟩ : ∃ lg, Hid (v.pl.log = lg) := ⟨_, Hid.mk rfl⟩
      obtain ⟨fr, hfr⟩ : ∃ fr, Hid (v.tape.free = fr) := ⟨_, Hid.mk rfl⟩
      have hlg2 : lg ≤ 4096 ∧ fr ≤ 16384 := by
        obtain ⟨gs, st0, R, ht⟩ := H'.out.run
        obtain ⟨p1, p2, p3, p4, p5, p6, p7, p8⟩ := Vm.plan_facts R.disk.plan
        refine ⟨by rw [← hlg.out]; omega, ?_⟩
        have := hVB.out.tok.hi
        rw [← hfr.out]
        unfold Vm.Tape.free
        have e : v.tape.hi ≤ 16384 := this
        omega
      have q1 : ¬ (lg * 48 < L) := by rw [← hlg.out, ← hLe.out]; exact h1'.out
      have q2 : ¬ (fr * 48 < L) := by rw [← hfr.out, ← hLe.out]; exact h2'.out
      have w1' : IntKind.i64.wrap ((lg : Int) * 48) = (lg : Int) * 48 := by rw [IntKind.wrap_i64]; omega
      have w2' : IntKind.i64.wrap ((fr : Int) * 48) = (fr : Int) * 48 := by rw [IntKind.wrap_i64]; omega
      have q3 : ¬ ((lg : Int) * 48 < (L : Int)) := by omega
      have q4 : ¬ ((fr : Int) * 48 < (L : Int)) := by omega
      have c1 : wr.cell? ⟨a, 1, none⟩ = some (.int .i64 (v.pl.log : Int)) := cell_at hVB.out.blk rfl
      have c6 : wr.cell? ⟨a, 6, none⟩ = some (.pointer (some ⟨tA, 0, none⟩)) := cell_at hVB.out.blk rfl
      rw [hlg.out] at c1
      -- Free, Append, Flush
      have cFr : Calls Tryz.prog 69 #[.pointer (some ⟨tA, 0, none⟩)] wr fun e w' => e = .returned (.int .i64 (fr : Int)) ∧ w'.cell? ⟨a, 6, none⟩ = some (.pointer (some ⟨tA, 0, none⟩)) ∧ Hid (To No κ κ wr w') := by
        refine (c_free κ (c + 7) tA dA v.tape wr hVB.out.tape hVB.out.tok).mono ?_
        rintro e w' ⟨rfl, g1, g2⟩
        have t : To No κ κ wr w' := To.of_below _ _ g1
        exact ⟨by rw [hfr.out], keepT t (fun h => h) c6, Hid.mk t⟩
      have cAp : ∀ W, Hid (To No κ κ wr W) → Calls Tryz.prog 71 #[.pointer (some ⟨tA, 0, none⟩), .slice (some ⟨gg, 0, none⟩) L capg] W fun e w' => e = .returned (.int .i64 0) ∧ w'.cell? ⟨a, 6, none⟩ = some (.pointer (some ⟨tA, 0, none⟩)) ∧ Hid (∃ κ', VB κ' c w' a dA cA tA mA tk wv { v with L := Vm.used ord v.L, tape := t1 } d1 ∧ To (Vc c) κ κ' w0 w' ∧ Cz κ' w' ∧ κ' go = 0 ∧ go < w'.heap.size ∧ w'.rangeAt go 0 (ord.map kV)) := by
        intro W tW
        have V := hVB.out.no tW.out
        have hg' := hgg.out
        refine (c_append κ c (c + 7) tA dA gg 0 capg L v.tape d W V.tape V.tok V.drum (tW.out.cz hzr.out) hc0 (fun e => by have := e.2; omega) (by omega) (gb j st cur ord) hLl.out (by omega) (by omega) hg'.2.2.2 (rangeAt_to hg'.2.2.1 tW.out (fun h => h)) hg'.1 (by omega)).mono ?_
        rw [← hgl2, ha1]
        rintro e w' ⟨rfl, κ', g1, g2, g3, g4⟩
        have t := (ofNo (S := fun j => Dc c j ∨ j = c + 7) tW.out).trans g3
        have hS : ∀ j, Dc c j ∨ j = c + 7 → Vc c j := fun j e => by rcases e with e | e <;> first | exact ⟨by have := e.1; omega, by have := e.2; omega⟩ | exact ⟨by omega, by omega⟩
        have V2 : VB κ' c w' a dA cA tA mA tk wv { v with L := Vm.used ord v.L, tape := t1 } d1 :=
          V.setTape g1 g2 (append_ok (T := v.tape) V.tok ha1) g3 hc0
        refine ⟨rfl, cell_at V2.blk rfl, Hid.mk ⟨κ', V2, hT.out.trans (t.mono hS), g4, ?_, ?_, ?_⟩⟩
        · exact (t.col go hord2.out.2.1 (by rw [hord2.out.1]; exact fun e => by rcases e with e | e <;> first | omega | (have := e.1; omega))).trans hord2.out.1
        · have := t.size; have := hord2.out.2.1; omega
        · exact rangeAt_to hord2.out.2.2 t (by rw [hord2.out.1]; exact fun e => by rcases e with e | e <;> first | omega | (have := e.1; omega))
      go_wp2_with (first | (go_at_call 69; refine cFr.mono ?_; rintro e w7 ⟨rfl, c6', t7⟩) | (go_at_call 71; refine (cAp _ t7).mono ?_; rintro e w8 ⟨rfl, c6'', hA⟩))
      obtain ⟨gn, hgn⟩ : ∃ gn, Hid (v.head.gen = gn) := ⟨_, Hid.mk rfl⟩
      obtain ⟨L2, hL2⟩ : ∃ L2, Hid (Vm.used ord v.L = L2) := ⟨_, Hid.mk rfl⟩
      have cTf : Calls Tryz.prog 72 #[.pointer (some ⟨tA, 0, none⟩)] w8 fun e w' => e = .returned (.int .i64 0) ∧ w'.cell? ⟨a, 8, none⟩ = some (.int .u64 (v.head.stamp : Int)) ∧ w'.frozen? ⟨a, 8, none⟩ = false ∧ Hid (∃ κ', VB κ' c w' a dA cA tA mA tk wv { v with L := L2, tape := t2 } d2 ∧ To (Vc c) κ κ' w0 w' ∧ Cz κ' w' ∧ κ' go = 0 ∧ go < w'.heap.size ∧ w'.rangeAt go 0 (ord.map kV)) := by
        obtain ⟨κ', V, g1, g2, g3, g4, g5⟩ := hA.out
        rw [hL2.out] at V
        refine (c_tflush κ' c (c + 7) tA dA t1 d1 w8 V.tape V.drum (fun e => by have := e.2; omega)).mono ?_
        rw [ha2]
        rintro e w' ⟨rfl, k1, k2, k3⟩
        have V2 := V.setTape k1 k2 (flush_ok (T := t1) V.tok ha2) k3 hc0
        have hS : ∀ j, Dc c j ∨ j = c + 7 → Vc c j := fun j e => by rcases e with e | e <;> first | exact ⟨by have := e.1; omega, by have := e.2; omega⟩ | exact ⟨by omega, by omega⟩
        have n0 : ¬ (Dc c (κ' go) ∨ κ' go = c + 7) := by rw [g3]; exact fun e => by rcases e with e | e <;> first | omega | (have := e.1; omega)
        exact ⟨rfl, cell_at V2.blk rfl, frozen_at V2.blk, Hid.mk ⟨κ', V2, g1.trans (k3.mono hS), k3.cz g2, g3, Nat.lt_of_lt_of_le g4 k3.size, rangeAt_to g5 k3 n0⟩⟩
      have hpS : ∀ w9, Hid (∃ κ', VB κ' c w9 a dA cA tA mA tk wv { v with L := L2, tape := t2 } d2 ∧ To (Vc c) κ κ' w0 w9 ∧ Cz κ' w9 ∧ κ' go = 0 ∧ go < w9.heap.size ∧ w9.rangeAt go 0 (ord.map kV)) → ∀ W, W = w9.setCell ⟨a, 8, none⟩ (.int .u64 (st : Int)) → Hid (∃ κ', VB κ' c W a dA cA tA mA tk wv { v with L := L2, tape := t2, head := ⟨gn, st⟩ } d2 ∧ To (Vc c) κ κ' w0 W ∧ Cz κ' W ∧ κ' go = 0 ∧ go < W.heap.size ∧ W.rangeAt go 0 (ord.map kV)) := by
        intro w9 hB W hW
        obtain ⟨κ', V, g1, g2, g3, g4, g5⟩ := hB.out
        have t : To (fun j => j = c + 8) κ' κ' w9 W := by rw [hW]; exact (To.refl _ κ' w9).setCell _ (fun _ => V.col)
        have hb : W.heap[a]? = some (.cells (vcs dA v.pl v.frames (pB cA) (pB tA) ⟨gn, st⟩ tk wv (.map (some mA)) v.busy v.down) 96 (0, 0)) := by
          rw [hW, ← hgn.out]; exact heap_setCell_at (i := 8) _ V.blk
        exact Hid.mk ⟨κ', V.re (v' := { v with L := L2, tape := t2, head := ⟨gn, st⟩ }) t hb rfl rfl rfl rfl rfl (fun e => ⟨e, rfl⟩) hc0, g1.trans (t.mono fun j e => ⟨by omega, by omega⟩), t.cz g2, g3, Nat.lt_of_lt_of_le g4 t.size, rangeAt_to g5 t (by rw [g3]; omega)⟩
      clear c1 c6 cFr cAp hG hVB hT hrange
      go_wp2_with (first | (go_at_call 72; refine cTf.mono ?_; rintro e w9 ⟨rfl, e8', f8', hB⟩))
      obtain ⟨W9, hW9⟩ : ∃ W9, Hid (W9 = w9.setCell ⟨a, 8, none⟩ (.int .u64 (st : Int))) := ⟨_, Hid.mk rfl⟩
      have hB9 := hpS _ hB _ hW9.out
      rw [← hW9.out]
      clear hpS hB e8' f8' cTf hA c6' c6'' t7
      have hk3 : Hid (j ≤ 400) := Hid.mk (by have := hL1.out; omega)
      have hdn2 : Hid (d2.now.length = d.now.length ∧ d2.loose = []) := Hid.mk ⟨(tflush_d ha2).1.trans (append_now ha1), (tflush_d ha2).2⟩
      have hdr : Hid (Vm.draft d.now.length = some v.pl) := by
        obtain ⟨gs, st0, R, ht⟩ := H'.out.run
        have hlen : d.now.length = d.safe.length := by rw [R.sync, Vm.setAll_len]
        exact Hid.mk (by rw [hlen]; exact R.disk.plan)
      have ha3' : Hid (Vm.putPages v.pl.base st d2 (ord.map fun k => (k, cur k)) = (0, d3)) := by
        show _ = _
        rw [← ha3, group_pgs H'.out, hord.out]
        show _ = Vm.putPages v.pl.base (v.head.stamp + 1) d2 _
        rw [hst'.out]
      have hpre : Hid (∀ i, (Vm.putPages v.pl.base st d2 ((ord.take i).map fun k => (k, cur k))).1 = 0) := Hid.mk fun i => by
        refine putPages_pre (b := (ord.drop i).map fun k => (k, cur k)) ?_
        rw [← List.map_append, List.take_append_drop, ha3'.out]
      clear ha1 ha2 ha3
      go_loopw [11, 12] (fun ev i wr => ∃ q : Nat, q ≤ j ∧ i = .int .i64 (q : Int) ∧ ev = .int .i64 0 ∧ Hid (∃ κr dq, VB κr c wr a dA cA tA mA tk wv { v with L := Vm.used (ord.take q) L2, tape := t2, head := ⟨gn, st⟩ } dq ∧ To (Vc c) κ κr w0 wr ∧ Cz κr wr ∧ κr go = 0 ∧ go < wr.heap.size ∧ wr.rangeAt go 0 (ord.map kV) ∧ Vm.putPages v.pl.base st d2 ((ord.take q).map fun k => (k, cur k)) = (0, dq))) (fun _ i _ => j - (intOf i).toNat)
      case atStart =>
        obtain ⟨κ', V, g1, g2, g3, g4, g5⟩ := hB9.out
        exact ⟨0, Nat.zero_le _, rfl, rfl, Hid.mk ⟨κ', d2, V, g1, g2, g3, g4, g5, rfl⟩⟩
      case round =>
        obtain ⟨q, hq, rfl, rfl, hI⟩ := hrel
        by_cases hlt2 : (q : Int) < j
        · have hltq := Hid.mk (show q < j by omega)
          have hql : q < ord.length := by rw [hol.out]; omega
          obtain ⟨k, hk⟩ : ∃ k, Hid (ord[q]'hql = k) := ⟨_, Hid.mk rfl⟩
          have hkm : Hid (k ∈ ord) := Hid.mk (by rw [← hk.out]; exact List.getElem_mem hql)
          have hk2 : Hid (k < v.pl.pages) := Hid.mk (hkp.out k hkm.out)
          have htq : Hid (ord.take (q + 1) = ord.take q ++ [k]) := Hid.mk (by rw [List.take_succ_eq_append_getElem hql, hk.out])
          obtain ⟨κr, dq, V, g1, g2, g3, g4, g5, g6⟩ := hI.out
          have ck : wr.cell? ⟨go, q, none⟩ = some (.int .i64 (k : Int)) := by
            have := g5 q (kV k) (by rw [List.getElem?_map, List.getElem?_eq_getElem hql, hk.out]; rfl)
            rw [Nat.zero_add] at this
            exact this
          have c5 := V.cells.2
          have hlim : Hid (dq.now.length = d.now.length ∧ dq.loose.length ≤ 500000) := by
            have hkp := putPages_kp v.pl.base st d2 ((ord.take q).map fun k => (k, cur k))
            rw [g6] at hkp
            have e := hkp.2
            rw [hdn2.out.2, List.length_map, List.length_take] at e
            simp only [List.length_nil] at e
            exact Hid.mk ⟨hkp.1.trans hdn2.out.1, by have := hk3.out; omega⟩
          obtain ⟨en, hf, hen, hlen⟩ := used_found H'.out (ord ++ ord.take q) (hom.out k hkm.out)
          rw [used_app, hL2.out] at hf
          have hlen' := Hid.mk hlen
          have cG : Calls Tryz.prog 68 #[.pointer (some ⟨cA, 0, none⟩), .int .i64 (k : Int)] wr.drew fun e w' => ∃ pgb pc, e = .returned (.tuple #[.slice (some ⟨pgb, 0, none⟩) 496 pc, .bool true]) ∧ w'.cell? ⟨a, 5, none⟩ = some (.pointer (some ⟨cA, 0, none⟩)) ∧ w'.cell? ⟨go, q, none⟩ = some (.int .i64 (k : Int)) ∧ w'.cell? ⟨a, 0, none⟩ = some (.pointer (some ⟨dA, 0, none⟩)) ∧ Hid (PgV κr w' (.slice (some ⟨pgb, 0, none⟩) 496 pc) (cur k)) ∧ Hid (VB κr c w' a dA cA tA mA tk wv { v with L := Vm.used (ord.take (q + 1)) L2, tape := t2, head := ⟨gn, st⟩ } dq ∧ To (Vc c) κ κr w0 w' ∧ Cz κr w' ∧ κr go = 0 ∧ go < w'.heap.size ∧ w'.rangeAt go 0 (ord.map kV)) := by
            have Vd := V.no ((To.refl No κr wr).drew)
            refine (c_cget1 κr (c + 4) cA v.frames k _ en wr.drew Vd.cache hf).mono ?_
            rintro e w' ⟨pv, rfl, k1, k2, k3⟩
            have V2 := Vd.setL k2 k3 hc0
            rw [hen] at k1
            have k1' := k1
            obtain ⟨pgb, pc, rfl, _⟩ := k1
            rw [hlen'.out] at k1' ⊢
            have n0 : ¬ Cc (c + 4) (κr go) := by rw [g3]; exact fun e => by have := e.1; omega
            have t0 : To (Cc (c + 4)) κr κr wr w' := (To.refl _ κr wr).drew.trans k3
            refine ⟨pgb, pc, rfl, V2.cells.2, keepT t0 n0 ck, cell_at V2.blk rfl, Hid.mk k1', Hid.mk ⟨?_, g1.trans (t0.mono fun j e => ⟨by have := e.1; omega, by have := e.2; omega⟩), t0.cz g2, g3, Nat.lt_of_lt_of_le g4 t0.size, rangeAt_to g5 t0 n0⟩⟩
            rw [htq.out, used_snoc]
            exact V2
          have hdq := Hid.mk g6
          clear hf hen hlen V g1 g2 g3 g4 g5 g6 hI
          have hqq : ¬ ((q : Int) < 0) := by omega
          go_wp2
          go_region_held3 (fun w' => w'.cell? ⟨a, 5, none⟩ = some (.pointer (some ⟨cA, 0, none⟩)) ∧ w'.cell? ⟨go, q, none⟩ = some (.int .i64 (k : Int))) (first | go_keep | (exact ⟨by assumption, by assumption⟩)) (first | (go_at_call 68; refine cG.mono ?_; rintro e w10 ⟨pgb, pc, rfl, s5, sk, s0, hpv, hV⟩))
          obtain ⟨ep, dp, hpe⟩ := pair_ex (Vm.putPage dq v.pl.base k st (cur k))
          have e1 : Vm.putPages v.pl.base st d2 ((ord.take (q + 1)).map fun k => (k, cur k)) = (ep, dp) := by
            rw [htq.out, List.map_append, putPages_app, hdq.out, List.map_cons, List.map_nil, List.foldl_cons, List.foldl_nil, if_pos rfl]
            exact hpe.out
          have ep0 : ep = 0 := by
            have := hpre.out (q + 1)
            rw [e1] at this
            exact this
          subst ep0
          have hpp := Hid.mk e1
          clear e1
          have cP : Calls Tryz.prog 73 #[.pointer (some ⟨dA, 0, none⟩), .int .i64 (k : Int), .int .u64 (st : Int), .slice (some ⟨pgb, 0, none⟩) 496 pc] w10.drew fun e w' => e = .returned (.int .i64 0) ∧ w'.cell? ⟨a, 0, none⟩ = some (.pointer (some ⟨dA, 0, none⟩)) ∧ w'.cell? ⟨go, q, none⟩ = some (.int .i64 (k : Int)) ∧ Hid (∃ κr dq, VB κr c w' a dA cA tA mA tk wv { v with L := Vm.used (ord.take (q + 1)) L2, tape := t2, head := ⟨gn, st⟩ } dq ∧ To (Vc c) κ κr w0 w' ∧ Cz κr w' ∧ κr go = 0 ∧ go < w'.heap.size ∧ w'.rangeAt go 0 (ord.map kV) ∧ Vm.putPages v.pl.base st d2 ((ord.take (q + 1)).map fun k => (k, cur k)) = (0, dq)) := by
            obtain ⟨V, g1, g2, g3, g4, g5⟩ := hV.out
            have Vd := V.no ((To.refl No κr w10).drew)
            obtain ⟨pg', cap', he, x1, x2, x3, x4⟩ := hpv.out
            injection he with y1 y2 y3
            injection y1 with y1
            injection y1 with y1
            subst y1
            refine (c_pput κr c dA k st pgb 0 pc dq v.pl w10.drew Vd.drum g2 hc0 (by rw [hlim.out.1]; exact hdr.out) hk2.out hst (cur k) hlen'.out x4 x3 hlim.out.2).mono ?_
            rw [hpe.out]
            rintro e w' ⟨rfl, κ3, m1, m2, m3⟩
            have t0 : To (Dc c) κr κ3 w10 w' := (To.refl _ κr w10).drew.trans m2
            have V3 := Vd.setD m1 m2 hc0
            have n0 : ¬ Dc c (κr go) := by rw [g3]; exact fun e => by have := e.1; omega
            exact ⟨rfl, cell_at V3.blk rfl, keepT t0 n0 sk, Hid.mk ⟨κ3, _, V3, g1.trans (t0.mono fun j e => ⟨e.1, by have := e.2; omega⟩), m3, (t0.col go g4 n0).trans g3, Nat.lt_of_lt_of_le g4 t0.size, rangeAt_to g5 t0 n0, hpp.out⟩⟩
          clear cG c5 ck
          go_wp2
          go_region_held3 (fun w' => w'.cell? ⟨a, 0, none⟩ = some (.pointer (some ⟨dA, 0, none⟩)) ∧ w'.cell? ⟨go, q, none⟩ = some (.int .i64 (k : Int))) (first | go_keep | (exact ⟨by assumption, by assumption⟩)) (first | (go_at_call 73; refine cP.mono ?_; rintro e w11 ⟨rfl, s0', sk', hV2⟩))
          go_wp2
          go_roundw
          case rel => exact ⟨q + 1, hltq.out, by go_num, rfl, hV2⟩
          case measure => have := hltq.out; simp [intOf]; omega
        · have hqj : q = j := by omega
          subst hqj
          have htk2 : ord.take q = ord := by rw [← hol.out, List.take_length]
          obtain ⟨L3, hL3⟩ : ∃ L3, Hid (Vm.used ord L2 = L3) := ⟨_, Hid.mk rfl⟩
          have hI3 : Hid (∃ κr, VB κr c wr a dA cA tA mA tk wv { v with L := L3, tape := t2, head := ⟨gn, st⟩ } d3 ∧ To (Vc c) κ κr w0 wr ∧ Cz κr wr ∧ κr go = 0 ∧ go < wr.heap.size ∧ wr.rangeAt go 0 (ord.map kV)) := by
            obtain ⟨κr, dq, V, g1, g2, g3, g4, g5, g6⟩ := hI.out
            rw [htk2, hL3.out] at V
            rw [htk2, ha3'.out] at g6
            have e : d3 = dq := congrArg Prod.snd g6
            rw [← e] at V
            exact Hid.mk ⟨κr, V, g1, g2, g3, g4, g5⟩
          clear hI hB9
          go_wp2
          go_loopw [145] (fun i wr => ∃ m : Nat, m ≤ q ∧ i = .int .i64 (m : Int) ∧ Hid (∃ κr, VB κr c wr a dA cA tA mA tk wv { v with L := Vm.cleaned (ord.take m) L3, tape := t2, head := ⟨gn, st⟩ } d3 ∧ To (Vc c) κ κr w0 wr ∧ Cz κr wr ∧ κr go = 0 ∧ go < wr.heap.size ∧ wr.rangeAt go 0 (ord.map kV))) (fun i _ => q - (intOf i).toNat)
          case atStart => exact ⟨0, Nat.zero_le _, rfl, hI3⟩
          case round =>
            obtain ⟨m, hm, rfl, hC⟩ := hrel
            by_cases hlt3 : (m : Int) < q
            · have hltm := Hid.mk (show m < q by omega)
              have hml : m < ord.length := by rw [hol.out]; omega
              obtain ⟨k, hk⟩ : ∃ k, Hid (ord[m]'hml = k) := ⟨_, Hid.mk rfl⟩
              have hkm : Hid (k ∈ ord) := Hid.mk (by rw [← hk.out]; exact List.getElem_mem hml)
              have hk2 : k < 4611686018427387904 := by have := hkp.out k hkm.out; have := hpl.out; omega
              obtain ⟨κr, V, g1, g2, g3, g4, g5⟩ := hC.out
              have ck : wr.cell? ⟨go, m, none⟩ = some (.int .i64 (k : Int)) := by
                have := g5 m (kV k) (by rw [List.getElem?_map, List.getElem?_eq_getElem hml, hk.out]; rfl)
                rw [Nat.zero_add] at this
                exact this
              have c5 := V.cells.2
              have cC : Calls Tryz.prog 74 #[.pointer (some ⟨cA, 0, none⟩), .int .i64 (k : Int)] wr fun e w' => ∃ b, e = .returned (.bool b) ∧ Hid (∃ κr, VB κr c w' a dA cA tA mA tk wv { v with L := Vm.cleaned (ord.take (m + 1)) L3, tape := t2, head := ⟨gn, st⟩ } d3 ∧ To (Vc c) κ κr w0 w' ∧ Cz κr w' ∧ κr go = 0 ∧ go < w'.heap.size ∧ w'.rangeAt go 0 (ord.map kV)) := by
                refine (c_cclean κr (c + 4) cA v.frames k _ wr V.cache hk2).mono ?_
                rintro e w' ⟨⟨b, rfl⟩, k2, k3⟩
                have V2 := V.setL k2 k3 hc0
                have n0 : ¬ Cc (c + 4) (κr go) := by rw [g3]; exact fun e => by have := e.1; omega
                refine ⟨b, rfl, Hid.mk ⟨κr, ?_, g1.trans (k3.mono fun j e => ⟨by have := e.1; omega, by have := e.2; omega⟩), k3.cz g2, g3, Nat.lt_of_lt_of_le g4 k3.size, rangeAt_to g5 k3 n0⟩⟩
                rw [List.take_succ_eq_append_getElem hml, hk.out, cleaned_snoc]
                exact V2
              clear V g1 g2 g3 g4 g5 hC hI3
              go_wp2_with (go_at_call 74; refine cC.mono ?_; rintro e w12 ⟨b, rfl, hC2⟩)
              go_roundw
              case rel => exact ⟨m + 1, hltm.out, by go_num, hC2⟩
              case measure => have := hltm.out; simp [intOf]; omega
            · have hmq : m = q := by omega
              subst hmq
              obtain ⟨L4, hL4⟩ : ∃ L4, Hid (Vm.cleaned ord L3 = L4) := ⟨_, Hid.mk rfl⟩
              have hI4 : Hid (∃ κr, VB κr c wr a dA cA tA mA tk wv { v with L := L4, tape := t2, head := ⟨gn, st⟩ } d3 ∧ To (Vc c) κ κr w0 wr ∧ Cz κr wr) := by
                obtain ⟨κr, V, g1, g2, g3, g4, g5⟩ := hC.out
                rw [htk2, hL4.out] at V
                exact Hid.mk ⟨κr, V, g1, g2⟩
              have hMp : Hid (MapB wr mA (v.ch.map fun k => (k, .bool true))) := by
                obtain ⟨κr, V, _⟩ := hI4.out
                exact Hid.mk V.map
              have c11 : wr.cell? ⟨a, 11, none⟩ = some (.map (some mA)) := by
                obtain ⟨κr, V, _⟩ := hI4.out
                exact V.cells.1
              have hclr : ∀ ob, MapB (setBlock wr mA ob) mA [] → ∃ W, Hid (W = setBlock wr mA ob) ∧ W.cell? ⟨a, 12, none⟩ = some (.bool v.busy) ∧ W.frozen? ⟨a, 12, none⟩ = false ∧ Hid (∃ κr, VB κr c W a dA cA tA mA tk wv { v with L := L4, tape := t2, head := ⟨gn, st⟩, ch := [] } d3 ∧ To (Vc c) κ κr w0 W ∧ Cz κr W) := by
                intro ob hM
                obtain ⟨κr, V, g1, g2⟩ := hI4.out
                have t : To (fun j => j = c + 10) κr κr wr (setBlock wr mA ob) := (To.refl _ κr wr).setB mA ob (fun _ => V.colm)
                have V2 := V.setM (ch := []) hM t hc0
                exact ⟨_, Hid.mk rfl, cell_at V2.blk rfl, frozen_at V2.blk, Hid.mk ⟨κr, V2, g1.trans (t.mono fun j e => ⟨by omega, by omega⟩), t.cz g2⟩⟩
              have hend : ∀ W12, Hid (∃ κr, VB κr c W12 a dA cA tA mA tk wv { v with L := L4, tape := t2, head := ⟨gn, st⟩, ch := [] } d3 ∧ To (Vc c) κ κr w0 W12 ∧ Cz κr W12) → ∀ W, W = W12.setCell ⟨a, 12, none⟩ (.bool false) → Calls Tryz.prog 75 #[.pointer (some ⟨a, 0, none⟩), .int .i64 0] W fun e w' => e = .returned (.int .i64 0) ∧ Hid (∃ κr, VAt κr c w' a dA { v with L := L4, tape := t2, head := ⟨gn, st⟩, ch := [], busy := false, down := false || decide (0 = 9) } d3 ∧ To (Vc c) κ κr w0 w' ∧ Cz κr w') := by
                intro W12 hW12 W hW
                obtain ⟨κr, V, g1, g2⟩ := hW12.out
                have t : To (fun j => j = c + 8) κr κr W12 W := by rw [hW]; exact (To.refl _ κr W12).setCell _ (fun _ => V.col)
                have hb : W.heap[a]? = some (.cells (vcs dA v.pl v.frames (pB cA) (pB tA) ⟨gn, st⟩ tk wv (.map (some mA)) false v.down) 96 (0, 0)) := by
                  rw [hW]; exact heap_setCell_at (i := 12) _ V.blk
                have V2 := V.re (v' := { v with L := L4, tape := t2, head := ⟨gn, st⟩, ch := [], busy := false }) t hb rfl rfl rfl rfl rfl (fun e => by cases e) hc0
                refine (c_fell V2 hc0 0).mono ?_
                rintro e w' ⟨rfl, V3, t3⟩
                rw [show ({ v with L := L4, tape := t2, head := ⟨gn, st⟩, ch := [], busy := false } : Vm.Va).down = false from hdn] at V3
                exact ⟨rfl, Hid.mk ⟨κr, ⟨cA, tA, mA, tk, wv, V3⟩, g1.trans ((t.trans t3).mono fun j e => ⟨by omega, by omega⟩), t3.cz (t.cz g2)⟩⟩
              clear hC hI3 hI4
              go_wp2_with (first | (refine wpList_mclear (o := ⟨none, _, _, _, _, _⟩) rfl (.tmp 159) rfl mA _ rfl hMp.out ?_; intro ob hM; obtain ⟨W12, hW12, c12, f12, hV12⟩ := hclr ob hM; rw [← hW12.out]; clear hM c11) | (go_at_call 75; refine (hend _ hV12 _ rfl).mono ?_; rintro e w13 ⟨rfl, hD⟩))
              go_ret
              refine ⟨rfl, ?_⟩
              rw [hord.out, hst'.out, hL2.out, hL3.out, hL4.out, hgn.out]
              exact hD.out
end Go.Proofs.YtoacaikopcdkmaaGreat
