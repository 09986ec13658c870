/- The vault: turnMap. The vault: Alloc. The vault: Put, Get. The vault: Get. The vault while it is opened: turn, checkpoint. The vault while it is opened: checkpoint, fresh. The vault while it is opened: fresh. No condition. -/
import Derived.Test.YtoacaikopcdkmaaGreatZ20
import Derived.OneCell
set_option linter.unusedSimpArgs false
set_option linter.unusedVariables false
namespace Go.Proofs.YtoacaikopcdkmaaGreat
open Go.RowKit Go.Sort Go.MapKept Go.Maps Go.WideElems Go.ChangeMaps
theorem xor_bit : ∀ (j : Fin 8) (b : Fin 256), bits .xor .u8 (b.val : Int) ((2 : Int) ^ j.val % 256) = ((UInt8.ofNat b.val ^^^ UInt8.ofNat (2 ^ j.val)).toNat : Int) := by decide +kernel
theorem xor_bit8 (k : Nat) (b : UInt8) : bits .xor .u8 (b.toNat : Int) ((2 : Int) ^ (k % 8) % 256) = ((b ^^^ UInt8.ofNat (2 ^ (k % 8))).toNat : Int) := by
  have := xor_bit ⟨k % 8, by omega⟩ ⟨b.toNat, b.toNat_lt⟩
  simpa using this
theorem own_set {w : World} {base e n g m cap : Nat} {xs : List Value} (h : w.ownsRow base e 1 (.slice (some ⟨g, 0, none⟩) m cap) n xs) (i : Nat) (u : Value) : (w.setCell ⟨g, i, none⟩ u).ownsRow base e 1 (.slice (some ⟨g, 0, none⟩) m cap) n (xs.set i u) := by
  rcases h with ⟨h0, ⟨h1, h2⟩ | ⟨g', cap', cur, h1, h2, h3, h4, h5, h6, h7⟩⟩
  · cases h1
  · injection h1 with e1 e2 e3
    injection e1 with e1
    injection e1 with e1
    subst e1 e2 e3
    refine ⟨by rw [List.length_set]; exact h0, .inr ⟨g, cap, cur.setIfInBounds i u, rfl, h2, heap_setCell_at _ h3, h4, h5, by rw [Array.size_setIfInBounds]; exact h6, ?_⟩⟩
    rw [Array.toList_setIfInBounds, List.take_set, h7]
theorem byC_set (p : List UInt8) (i : Nat) (b : UInt8) : (byC p).set i (.int .u8 (b.toNat : Int)) = byC (p.set i b) := by
  unfold byC; rw [List.map_set]
theorem VB.flip {κ c w a dA cA tA mA g cap wv v d} (h : VB κ c w a dA cA tA mA (.slice (some ⟨g, 0, none⟩) 496 cap) wv v d) (hgk : κ g = c + 9) (hgl : g < w.heap.size) (hc0 : 1 ≤ c) (n : Nat) (W : World) (hW : W = w.drew.setCell ⟨g, n / 8, none⟩ (.int .u8 ((v.taken.getD (n / 8) 0 ^^^ UInt8.ofNat (2 ^ (n % 8))).toNat : Int))) :
    VB κ c W a dA cA tA mA (.slice (some ⟨g, 0, none⟩) 496 cap) wv { v with taken := Vm.flip1 v.taken n } d ∧ To (fun j => j = c + 9) κ κ w W := by
  have t : To (fun j => j = c + 9) κ κ w W := by rw [hW]; exact ((To.refl _ κ w).drew).setCell _ (fun _ => hgk)
  have s8 : ¬ (κ a = c + 9) := by rw [h.col]; omega
  have hd : VB κ c w.drew a dA cA tA mA (.slice (some ⟨g, 0, none⟩) 496 cap) wv v d := h.to (S := No) ((To.refl _ κ w).drew) (fun _ _ h => h) (fun h => h)
  have hl : (Vm.flip1 v.taken n).length = v.taken.length := Vm.flip_len _ _
  refine ⟨⟨h.col, (t.blk a h.lt s8).trans h.blk, h.cache.to t (fun j hj => by have := hj.2; omega) (by omega), h.tape.to t (by omega), h.tok, ?_, hl.trans h.tkl, fun hb => ⟨⟨?_, (h.was hb).1.2⟩, (h.was hb).2⟩, h.colm, h.map.to t (by rw [h.colm]; omega), h.drum.to t fun j hj => by have := hj.2; omega⟩, t⟩
  · refine ⟨?_, hd.rtk.2⟩
    have := own_set hd.rtk.1 (n / 8) (.int .u8 ((v.taken.getD (n / 8) 0 ^^^ UInt8.ofNat (2 ^ (n % 8))).toNat : Int))
    rw [byC_set, ← hW] at this
    show W.ownsRow 0 5 1 _ (Vm.flip1 v.taken n).length (byC (Vm.flip1 v.taken n))
    rw [hl]
    exact this
  · rw [hW]
    exact ownsRow_setCell_other (hd.was hb).1.1 (a := ⟨g, n / 8, none⟩) (fun e => (h.was hb).2.2 (by rw [e]; rfl)) _
set_option maxRecDepth 100000 in
theorem c_turnMap {κ c w a dA v d} (h : VAt κ c w a dA v d) (hz : Cz κ w) (hc0 : 1 ≤ c) (n : Nat) (hn : n < 3968) (hr : v.L.length = v.frames → v.L.any Vm.freeE = true) :
    Calls Tryz.prog 61 #[.pointer (some ⟨a, 0, none⟩), .int .i64 (n : Int)] w fun e w' => e = .returned (.tuple #[]) ∧ ∃ κ', VAt κ' c w' a dA (v.turnMap n) d ∧ To (Vc c) κ κ' w w' ∧ Cz κ' w' := by
  obtain ⟨cA, tA, mA, tk, wv, h⟩ := h
  obtain ⟨g, cap, rfl, hgl, hgk, hgr, hgc⟩ := h.rtk.form h.tkl
  have htl := h.tkl
  have c9 : w.cell? ⟨a, 9, none⟩ = some (.slice (some ⟨g, 0, none⟩) 496 cap) := cell_at h.blk rfl
  obtain ⟨b, hb⟩ : ∃ b, Hid (v.taken.getD (n / 8) 0 = b) := ⟨_, Hid.mk rfl⟩
  have cg : w.cell? ⟨g, n / 8, none⟩ = some (.int .u8 (b.toNat : Int)) := by
    have := range_byte hgr (n / 8) (by omega)
    rw [Nat.zero_add, hb.out] at this
    exact this
  have hga : g ≠ a := fun e => by have := h.col; rw [← e, hgk] at this; omega
  have hag : a ≠ g := fun e => hga e.symm
  have fg : w.frozen? ⟨g, n / 8, none⟩ = false := by
    rcases h.rtk.1 with ⟨h0, ⟨h1, h2⟩ | ⟨g', cap', cur, h1, h2, h3, h4, h5, h6, h7⟩⟩
    · cases h1
    · injection h1 with e1 e2 e3
      injection e1 with e1
      injection e1 with e1
      subst e1
      exact frozen_at h3
  have hn8 : n / 8 < 496 := by omega
  have hk0 : ¬ ((n : Int) < 0) := by omega
  have y1 : IntKind.i64.wrap ((n : Int) / 8) = ((n / 8 : Nat) : Int) := by rw [IntKind.wrap_i64]; omega
  have y2 : IntKind.i64.wrap ((n : Int) % 8) = ((n % 8 : Nat) : Int) := by rw [IntKind.wrap_i64]; omega
  have h' := Hid.mk h
  have hz' := Hid.mk hz
  have hr' := Hid.mk hr
  have cP : ∀ W, W = w.drew.setCell ⟨g, n / 8, none⟩ (.int .u8 ((b ^^^ UInt8.ofNat (2 ^ (n % 8))).toNat : Int)) → W.cell? ⟨a, 9, none⟩ = some (.slice (some ⟨g, 0, none⟩) 496 cap) ∧ Calls Tryz.prog 62 #[.pointer (some ⟨a, 0, none⟩), .int .i64 0, .slice (some ⟨g, 0, none⟩) 496 cap] W fun e w' => e = .returned (.tuple #[]) ∧ Hid (∃ κ', VAt κ' c w' a dA (v.turnMap n) d ∧ To (Vc c) κ κ' w w' ∧ Cz κ' w') := by
    rintro W hW
    rw [← hb.out] at hW
    obtain ⟨H, t⟩ := h'.out.flip hgk hgl hc0 n W hW
    have hfl : (Vm.flip1 v.taken n).length = 496 := (Vm.flip_len _ _).trans h'.out.tkl
    refine ⟨cell_at H.blk rfl, (c_vset (v := { v with taken := Vm.flip1 v.taken n }) ⟨cA, tA, mA, _, wv, H⟩ (t.cz hz'.out) hc0 0 (by decide) _ (Vm.flip1 v.taken n) (by omega) (.inr ⟨g, 0, cap, by rw [hfl], Nat.lt_of_lt_of_le hgl t.size, own_range H.rtk.1⟩) hr'.out).mono ?_⟩
    rintro e w' ⟨rfl, κ', h1, h2, h3⟩
    exact ⟨rfl, Hid.mk ⟨κ', h1, (t.mono fun j hj => ⟨by omega, by omega⟩).trans h2, h3⟩⟩
  clear h hz hr hgr
  go_enter Tryz.func61, Tryz.ntmps61
  go_wp2
  go_region
  rw [xor_bit8]
  obtain ⟨W, hW⟩ : ∃ W, Hid (W = (w.setCell ⟨g, n / 8, none⟩ (.int .u8 ((b ^^^ UInt8.ofNat (2 ^ (n % 8))).toNat : Int))).drew) := ⟨_, Hid.mk rfl⟩
  rw [← hW.out]
  obtain ⟨d9, cC⟩ := cP W (hW.out.trans rfl)
  clear cP c9 cg fg
  go_wp2_with (go_at_call 62; refine cC.mono ?_; rintro e w2 ⟨rfl, hD⟩)
  go_end0
  exact ⟨rfl, hD.out⟩
end Go.Proofs.YtoacaikopcdkmaaGreat

namespace Go.Proofs.YtoacaikopcdkmaaGreat
open Go.RowKit Go.Sort Go.MapKept Go.Maps Go.WideElems Go.ChangeMaps
theorem low_stop (v : Vm.Va) (m : Nat) (h : v.has (m : Int) = false) : ∀ k, v.lowest k m = m
  | 0 => rfl
  | k + 1 => by unfold Vm.Va.lowest; rw [if_neg (by rw [h]; decide)]
theorem low_go (v : Vm.Va) (m k : Nat) (h : v.has (m : Int) = true) (hm : m < k) : v.lowest (k - m) (m + 1) = v.lowest (k + 1 - m) m := by
  rw [show k + 1 - m = (k - m) + 1 by omega]
  show _ = if v.has (m : Int) = true then v.lowest (k - m) (m + 1) else m
  rw [if_pos h]
def noT (κ : Nat → Nat) (w w' : World) : Prop := To No κ κ w w'
theorem VB.no {κ c w w' a dA cA tA mA tk wv v d} (h : VB κ c w a dA cA tA mA tk wv v d) (t : To No κ κ w w') : VB κ c w' a dA cA tA mA tk wv v d := h.to t (fun _ _ h => h) (fun h => h)
theorem To.drewN {S κ κ' w w1} (h : To S κ κ' w w1) (q : Nat) : To S κ κ' w (w1.drewN q) := ⟨h.os, h.tape, h.output, h.size, h.col, h.blk⟩
theorem VI.room {v d C cur} (H : Vm.VI v d C cur) : v.L.length = v.frames → v.L.any Vm.freeE = true := fun h => H.ci.free h
theorem ofNo {S : Nat → Prop} {κ κ' w w'} (h : To No κ κ' w w') : To S κ κ' w w' := h.mono fun _ e => absurd e id
set_option maxRecDepth 100000 in
theorem c_alloc {κ c w a dA v d C cur} (h : VAt κ c w a dA v d) (H : Vm.VI v d C cur) (hz : Cz κ w) (hc0 : 1 ≤ c) :
    Calls Tryz.prog 19 #[.pointer (some ⟨a, 0, none⟩)] w fun e w' => e = .returned (.tuple #[.int .i64 (v.alloc.2.1 : Int), .int .i64 (v.alloc.1 : Int)]) ∧ ∃ κ', VAt κ' c w' a dA v.alloc.2.2 d ∧ To (Vc c) κ κ' w w' ∧ Cz κ' w' := by
  obtain ⟨cA, tA, mA, tk, wv, h⟩ := h
  have cA' := c_ask h true
  obtain ⟨al, hal⟩ : ∃ al, Hid (v.alloc = al) := ⟨_, Hid.mk rfl⟩
  rw [hal.out]
  have hall : Hid (v.alloc = if v.ask true ≠ 0 then (v.ask true, 0, v) else if v.pl.pages ≤ v.lowest v.pl.pages 1 then (4, 0, v) else if v.may [0, v.lowest v.pl.pages 1] = false then (5, 0, v) else (0, v.lowest v.pl.pages 1, (v.turnMap (v.lowest v.pl.pages 1)).put (v.lowest v.pl.pages 1) [])) := Hid.mk rfl
  obtain ⟨ea, hea⟩ : ∃ ea, Hid (v.ask true = ea) := ⟨_, Hid.mk rfl⟩
  rw [hea.out] at cA'
  have hone := H.one
  have H' := Hid.mk H
  have h' := Hid.mk h
  have hz' := Hid.mk hz
  clear h hz H
  by_cases h0 : ea = 0
  · subst h0
    obtain ⟨pg, hpg⟩ : ∃ pg, Hid (v.pl.pages = pg) := ⟨_, Hid.mk rfl⟩
    rw [hpg.out] at hone
    go_enter Tryz.func19, Tryz.ntmps19
    go_wp2_with (go_at_call 58; refine cA'.mono ?_; rintro e w1 ⟨rfl, rfl⟩)
    go_loopw [5] (fun t wr => ∃ m : Nat, 1 ≤ m ∧ m ≤ pg ∧ t = .int .i64 (m : Int) ∧ Hid (v.lowest v.pl.pages 1 = v.lowest (pg + 1 - m) m) ∧ Hid (To No κ κ w1 wr)) (fun t _ => 3000 - (intOf t).toNat)
    case atStart => exact ⟨1, Nat.le_refl _, hone.1, rfl, Hid.mk (by rw [hpg.out]; rfl), Hid.mk (.refl _ _ _)⟩
    case round =>
      obtain ⟨m, hm1, hm2, rfl, hlow, ht⟩ := hrel
      have Hr := Hid.mk (h'.out.no ht.out)
      have cH := c_has Hr.out (m : Int) (by omega) (by omega) (by rw [hpg.out]; exact hone.2)
      obtain ⟨hh, hhE⟩ : ∃ hh, Hid (v.has (m : Int) = hh) := ⟨_, Hid.mk rfl⟩
      rw [hhE.out] at cH
      cases hh with
      | true =>
        have hmp : m < pg := by
          have := (Vm.has_pos hhE.out).2.1
          rw [hpg.out] at this
          simpa using this
        go_wp2_with (go_at_call 59; refine cH.mono ?_; rintro e w1 ⟨rfl, q, rfl⟩)
        refine ⟨⟨m + 1, by omega, by omega, by go_num, Hid.mk ?_, Hid.mk (ht.out.drewN q)⟩, ?_⟩
        · rw [show pg + 1 - (m + 1) = pg - m by omega, low_go v m pg hhE.out hmp]; exact hlow.out
        · simp [intOf]; omega
      | false =>
        have hlm : Hid (v.lowest v.pl.pages 1 = m) := by
          have := hlow.out
          rw [low_stop v m hhE.out] at this
          exact Hid.mk this
        have aft : ∀ q, ∃ W, Hid (W = wr.drewN q) ∧ W.cell? ⟨a, 3, none⟩ = some (.int .i64 (pg : Int)) ∧ Hid (VB κ c W a dA cA tA mA tk wv v d) ∧ Hid (To No κ κ w1 W) := fun q => by
          have t := ht.out.drewN q
          have V := h'.out.no t
          have hc3 : (wr.drewN q).cell? ⟨a, 3, none⟩ = some (.int .i64 (v.pl.pages : Int)) := cell_at V.blk rfl
          rw [hpg.out] at hc3
          exact ⟨_, Hid.mk rfl, hc3, Hid.mk V, Hid.mk t⟩
        by_cases hmp : m = pg
        · subst hmp
          go_wp2_with (go_at_call 59; refine cH.mono ?_; rintro e w1 ⟨rfl, q, rfl⟩; obtain ⟨W, hW, c3, VW, tW⟩ := aft q; rw [← hW.out]; clear hW aft)
          go_ret2
          rw [← hal.out, hall.out, if_neg (by rw [hea.out]; decide), hlm.out, hpg.out, if_pos (Nat.le_refl _)]
          exact ⟨rfl, κ, ⟨cA, tA, mA, tk, wv, VW.out⟩, ofNo tW.out, tW.out.cz hz'.out⟩
        · have hmp2 : ¬ ((pg : Int) ≤ m) := by omega
          have cM : ∀ W, Hid (VB κ c W a dA cA tA mA tk wv v d) → ∀ o, o = Obj.cells #[.int .i64 0, .int .i64 (m : Int)] 3 (0, 0) → Calls Tryz.prog 60 #[.pointer (some ⟨a, 0, none⟩), .slice (some ⟨W.heap.size, 0, none⟩) 2 2] (W.alloc o) fun e w' => e = .returned (.bool (v.may [0, m])) ∧ w' = W.alloc o := by
            intro W VW o ho
            have V1 := VW.out.no ((To.refl No κ W).alloc o)
            refine c_may V1 W.heap.size 2 [0, m] 2 rfl (by decide) (fun n hn => ?_) ?_ ?_
            · simp at hn; omega
            · have := H'.out.ci.few
              have := V1.fle
              omega
            · have hb := heap_alloc_new W (.cells #[.int .i64 0, .int .i64 (m : Int)] 3 (0, 0))
              rw [ho]
              intro j u hj
              rw [Nat.zero_add]
              exact cell_at hb (by simpa [kV] using hj)
          obtain ⟨my, hmy⟩ : ∃ my, Hid (v.may [0, m] = my) := ⟨_, Hid.mk rfl⟩
          rw [hmy.out] at cM
          cases my with
          | false =>
            go_wp2_with (first | (go_at_call 59; refine cH.mono ?_; rintro e w1 ⟨rfl, q, rfl⟩; obtain ⟨W, hW, c3, VW, tW⟩ := aft q; rw [← hW.out]; clear hW aft) | (go_at_call 60; refine (cM W VW _ rfl).mono ?_; rintro e w2 ⟨rfl, rfl⟩))
            go_ret2
            rw [← hal.out, hall.out, if_neg (by rw [hea.out]; decide), hlm.out, hpg.out, if_neg (by omega), if_pos hmy.out]
            exact ⟨rfl, κ, ⟨cA, tA, mA, tk, wv, VW.out.no ((To.refl No κ W).alloc _)⟩, ofNo (tW.out.alloc _), (tW.out.alloc _).cz hz'.out⟩
          | true =>
            have hb := Vm.ask_busy (v := v) (b := true) (by rw [hea.out]; decide)
            obtain ⟨m1, m2⟩ := Vm.may_two (v := v) (n := m) (by omega) hmy.out
            have HT := Hid.mk (H'.out.toVJ.turnMap hb (n := m) h'.out.tkl m1)
            have cE : ∀ W, Hid (VB κ c W a dA cA tA mA tk wv v d) → Hid (To No κ κ w1 W) → ∀ o, Calls Tryz.prog 61 #[.pointer (some ⟨a, 0, none⟩), .int .i64 (m : Int)] (W.alloc o) fun e w' => e = .returned (.tuple #[]) ∧ Hid (∃ κ', VAt κ' c w' a dA (v.turnMap m) d ∧ To (Vc c) κ κ' w1 w' ∧ Cz κ' w') := by
              intro W VW tW o
              refine (c_turnMap ⟨cA, tA, mA, tk, wv, VW.out.no ((To.refl No κ W).alloc o)⟩ ((tW.out.alloc o).cz hz'.out) hc0 m (by omega) (VI.room H'.out)).mono ?_
              rintro e w' ⟨rfl, κ', g1, g2, g3⟩
              exact ⟨rfl, Hid.mk ⟨κ', g1, (ofNo (tW.out.alloc o)).trans g2, g3⟩⟩
            have cP : ∀ W, Hid (∃ κ', VAt κ' c W a dA (v.turnMap m) d ∧ To (Vc c) κ κ' w1 W ∧ Cz κ' W) → Calls Tryz.prog 62 #[.pointer (some ⟨a, 0, none⟩), .int .i64 (m : Int), .slice none 0 0] W fun e w' => e = .returned (.tuple #[]) ∧ Hid (∃ κ', VAt κ' c w' a dA ((v.turnMap m).put m []) d ∧ To (Vc c) κ κ' w1 w' ∧ Cz κ' w') := by
              intro W hW
              obtain ⟨κ', g1, g2, g3⟩ := hW.out
              refine (c_vset g1 g3 hc0 m (by omega) _ [] (by simp) (.inl ⟨rfl, rfl⟩) (VI.room HT.out)).mono ?_
              rintro e w' ⟨rfl, κ2, k1, k2, k3⟩
              exact ⟨rfl, Hid.mk ⟨κ2, k1, g2.trans k2, k3⟩⟩
            go_wp2_with (first | (go_at_call 59; refine cH.mono ?_; rintro e w1 ⟨rfl, q, rfl⟩; obtain ⟨W, hW, c3, VW, tW⟩ := aft q; rw [← hW.out]; clear hW aft) | (go_at_call 60; refine (cM W VW _ rfl).mono ?_; rintro e w2 ⟨rfl, rfl⟩) | (go_at_call 61; refine (cE W VW tW _).mono ?_; rintro e w3 ⟨rfl, hE⟩) | (go_at_call 62; refine (cP _ hE).mono ?_; rintro e w4 ⟨rfl, hD⟩))
            go_ret2
            rw [← hal.out, hall.out, if_neg (by rw [hea.out]; decide), hlm.out, hpg.out, if_neg (by omega), if_neg (by rw [hmy.out]; decide)]
            exact ⟨rfl, hD.out⟩
  · have hne : ((ea : Int) != 0) = true := by rw [bne_iff_ne]; omega
    go_enter Tryz.func19, Tryz.ntmps19
    go_wp2_with (go_at_call 58; refine cA'.mono ?_; rintro e w1 ⟨rfl, rfl⟩)
    go_ret2
    rw [← hal.out, hall.out, if_pos (by rw [hea.out]; exact h0), hea.out]
    exact ⟨rfl, κ, ⟨cA, tA, mA, tk, wv, h'.out⟩, .refl _ _ _, hz'.out⟩
end Go.Proofs.YtoacaikopcdkmaaGreat

namespace Go.Proofs.YtoacaikopcdkmaaGreat
open Go.RowKit Go.Sort Go.MapKept Go.Maps Go.WideElems Go.ChangeMaps
theorem Src.no {κ κ' w w' sv p} (h : Src w sv p) (t : To No κ κ' w w') : Src w' sv p := by
  rcases h with ⟨h1, h2⟩ | ⟨g, o, cap, h1, h2, h3⟩
  · exact .inl ⟨h1, h2⟩
  · exact .inr ⟨g, o, cap, h1, Nat.lt_of_lt_of_le h2 t.size, rangeAt_to h3 t (fun h => h)⟩
theorem int_nat {n : Int} (h : 0 < n) : ∃ k : Nat, n = (k : Int) := ⟨n.toNat, by omega⟩
theorem c_may1 {κ c w a dA cA tA mA tk wv v d C cur} (h : VB κ c w a dA cA tA mA tk wv v d) (H : Vm.VI v d C cur) (m : Nat) (hm : m < 4611686018427387904) (o : Obj) (ho : o = .cells #[.int .i64 (m : Int)] 3 (0, 0)) :
    Calls Tryz.prog 60 #[.pointer (some ⟨a, 0, none⟩), .slice (some ⟨w.heap.size, 0, none⟩) 1 1] (w.alloc o) fun e w' => e = .returned (.bool (v.may [m])) ∧ w' = w.alloc o := by
  have V1 := h.no ((To.refl No κ w).alloc o)
  refine c_may V1 w.heap.size 1 [m] 1 rfl (by decide) (fun n hn => ?_) ?_ ?_
  · simp at hn; omega
  · have := H.ci.few
    have := V1.fle
    omega
  · have hb := heap_alloc_new w (.cells #[.int .i64 (m : Int)] 3 (0, 0))
    rw [ho]
    intro j u hj
    rw [Nat.zero_add]
    exact cell_at hb (by simpa [kV] using hj)
set_option maxRecDepth 100000 in
theorem c_vput {κ c w a dA v d C cur} (h : VAt κ c w a dA v d) (H : Vm.VI v d C cur) (hz : Cz κ w) (hc0 : 1 ≤ c) (n : Int) (hn1 : -9223372036854775808 ≤ n) (hn2 : n ≤ 9223372036854775807) (sv : Value) (p : List UInt8) (hs : Src w sv p) :
    Calls Tryz.prog 49 #[.pointer (some ⟨a, 0, none⟩), .int .i64 n, sv] w fun e w' => e = .returned (.int .i64 ((v.put1 n p).1 : Int)) ∧ ∃ κ', VAt κ' c w' a dA (v.put1 n p).2 d ∧ To (Vc c) κ κ' w w' ∧ Cz κ' w' := by
  obtain ⟨cA, tA, mA, tk, wv, h⟩ := h
  have cA' := c_ask h true
  obtain ⟨al, hal⟩ : ∃ al, Hid (v.put1 n p = al) := ⟨_, Hid.mk rfl⟩
  rw [hal.out]
  have hall : Hid (v.put1 n p = if v.ask true ≠ 0 then (v.ask true, v) else if v.has n = false then (1, v) else if 496 < p.length then (6, v) else if v.may [n.toNat] = false then (5, v) else (0, v.put n.toNat p)) := Hid.mk rfl
  obtain ⟨ea, hea⟩ : ∃ ea, Hid (v.ask true = ea) := ⟨_, Hid.mk rfl⟩
  rw [hea.out] at cA'
  have hone := H.one
  have cH := c_has h n hn1 hn2 hone.2
  have H' := Hid.mk H
  have h' := Hid.mk h
  have hz' := Hid.mk hz
  have hs' := Hid.mk hs
  obtain ⟨sp, cap, rfl, -⟩ := hs.form
  obtain ⟨pl, hpl⟩ : ∃ pl, Hid (p.length = pl) := ⟨_, Hid.mk rfl⟩
  rw [hpl.out]
  clear h hz H hs
  by_cases h0 : ea = 0
  · subst h0
    have aft : ∀ q, ∃ W, Hid (W = w.drewN q) ∧ Hid (VB κ c W a dA cA tA mA tk wv v d) ∧ Hid (To No κ κ w W) := fun q => by
      have t : To No κ κ w (w.drewN q) := (To.refl No κ w).drewN q
      exact ⟨_, Hid.mk rfl, Hid.mk (h'.out.no t), Hid.mk t⟩
    obtain ⟨hh, hhE⟩ : ∃ hh, Hid (v.has n = hh) := ⟨_, Hid.mk rfl⟩
    rw [hhE.out] at cH
    cases hh with
    | false =>
      go_enter Tryz.func49, Tryz.ntmps49
      go_wp2_with (first | (go_at_call 58; refine cA'.mono ?_; rintro e w1 ⟨rfl, rfl⟩) | (go_at_call 59; refine cH.mono ?_; rintro e w1 ⟨rfl, q, rfl⟩; obtain ⟨W, hW, VW, tW⟩ := aft q; rw [← hW.out]; clear hW aft))
      go_ret
      rw [← hal.out, hall.out, if_neg (by rw [hea.out]; decide), if_pos hhE.out]
      exact ⟨rfl, κ, ⟨cA, tA, mA, tk, wv, VW.out⟩, ofNo tW.out, tW.out.cz hz'.out⟩
    | true =>
      obtain ⟨k, rfl⟩ := int_nat (Vm.has_pos hhE.out).1
      by_cases hl : 496 < pl
      · have hl' : decide ((496 : Int) < (pl : Int)) = true := by rw [decide_eq_true_eq]; omega
        go_enter Tryz.func49, Tryz.ntmps49
        go_wp2_with (first | (go_at_call 58; refine cA'.mono ?_; rintro e w1 ⟨rfl, rfl⟩) | (go_at_call 59; refine cH.mono ?_; rintro e w1 ⟨rfl, q, rfl⟩; obtain ⟨W, hW, VW, tW⟩ := aft q; rw [← hW.out]; clear hW aft))
        go_ret
        rw [← hal.out, hall.out, if_neg (by rw [hea.out]; decide), if_neg (by rw [hhE.out]; decide), if_pos (by rw [hpl.out]; exact hl)]
        exact ⟨rfl, κ, ⟨cA, tA, mA, tk, wv, VW.out⟩, ofNo tW.out, tW.out.cz hz'.out⟩
      · have hl' : decide ((496 : Int) < (pl : Int)) = false := by rw [decide_eq_false_iff_not]; omega
        have hk : Hid (k < v.pl.pages) := Hid.mk (by have := (Vm.has_pos hhE.out).2.1; simpa using this)
        have hk2 : k < 4611686018427387904 := by have := hk.out; omega
        have cM : ∀ W, Hid (VB κ c W a dA cA tA mA tk wv v d) → ∀ o, o = Obj.cells #[.int .i64 (k : Int)] 3 (0, 0) → Calls Tryz.prog 60 #[.pointer (some ⟨a, 0, none⟩), .slice (some ⟨W.heap.size, 0, none⟩) 1 1] (W.alloc o) fun e w' => e = .returned (.bool (v.may [k])) ∧ w' = W.alloc o := fun W VW o ho => c_may1 VW.out H'.out k hk2 o ho
        obtain ⟨my, hmy⟩ : ∃ my, Hid (v.may [k] = my) := ⟨_, Hid.mk rfl⟩
        rw [hmy.out] at cM
        cases my with
        | false =>
          go_enter Tryz.func49, Tryz.ntmps49
          go_wp2_with (first | (go_at_call 58; refine cA'.mono ?_; rintro e w1 ⟨rfl, rfl⟩) | (go_at_call 59; refine cH.mono ?_; rintro e w1 ⟨rfl, q, rfl⟩; obtain ⟨W, hW, VW, tW⟩ := aft q; rw [← hW.out]; clear hW aft) | (go_at_call 60; refine (cM W VW _ rfl).mono ?_; rintro e w2 ⟨rfl, rfl⟩))
          go_ret
          rw [← hal.out, hall.out, if_neg (by rw [hea.out]; decide), if_neg (by rw [hhE.out]; decide), if_neg (by rw [hpl.out]; exact hl), if_pos (by rw [Int.toNat_natCast]; exact hmy.out)]
          exact ⟨rfl, κ, ⟨cA, tA, mA, tk, wv, VW.out.no ((To.refl No κ W).alloc _)⟩, ofNo (tW.out.alloc _), (tW.out.alloc _).cz hz'.out⟩
        | true =>
          have cP : ∀ W, Hid (VB κ c W a dA cA tA mA tk wv v d) → Hid (To No κ κ w W) → ∀ o, Calls Tryz.prog 62 #[.pointer (some ⟨a, 0, none⟩), .int .i64 (k : Int), .slice sp pl cap] (W.alloc o) fun e w' => e = .returned (.tuple #[]) ∧ Hid (∃ κ', VAt κ' c w' a dA (v.put k p) d ∧ To (Vc c) κ κ' w w' ∧ Cz κ' w') := by
            intro W VW tW o
            have t := tW.out.alloc o
            refine (c_vset ⟨cA, tA, mA, tk, wv, VW.out.no ((To.refl No κ W).alloc o)⟩ (t.cz hz'.out) hc0 k hk2 _ p (by rw [hpl.out]; omega) (by have := hs'.out.no t; rw [hpl.out] at this; exact this) (VI.room H'.out)).mono ?_
            rintro e w' ⟨rfl, κ', g1, g2, g3⟩
            exact ⟨rfl, Hid.mk ⟨κ', g1, (ofNo t).trans g2, g3⟩⟩
          go_enter Tryz.func49, Tryz.ntmps49
          go_wp2_with (first | (go_at_call 58; refine cA'.mono ?_; rintro e w1 ⟨rfl, rfl⟩) | (go_at_call 59; refine cH.mono ?_; rintro e w1 ⟨rfl, q, rfl⟩; obtain ⟨W, hW, VW, tW⟩ := aft q; rw [← hW.out]; clear hW aft) | (go_at_call 60; refine (cM W VW _ rfl).mono ?_; rintro e w2 ⟨rfl, rfl⟩) | (go_at_call 62; refine (cP _ VW tW _).mono ?_; rintro e w4 ⟨rfl, hD⟩))
          go_ret
          rw [← hal.out, hall.out, if_neg (by rw [hea.out]; decide), if_neg (by rw [hhE.out]; decide), if_neg (by rw [hpl.out]; exact hl), if_neg (by rw [Int.toNat_natCast, hmy.out]; decide)]
          exact ⟨rfl, hD.out⟩
  · have hne : ((ea : Int) != 0) = true := by rw [bne_iff_ne]; omega
    go_enter Tryz.func49, Tryz.ntmps49
    go_wp2_with (go_at_call 58; refine cA'.mono ?_; rintro e w1 ⟨rfl, rfl⟩)
    go_ret
    rw [← hal.out, hall.out, if_pos (by rw [hea.out]; exact h0), hea.out]
    exact ⟨rfl, κ, ⟨cA, tA, mA, tk, wv, h'.out⟩, .refl _ _ _, hz'.out⟩
end Go.Proofs.YtoacaikopcdkmaaGreat

namespace Go.Proofs.YtoacaikopcdkmaaGreat
open Go.RowKit Go.Sort Go.MapKept Go.Maps Go.WideElems Go.ChangeMaps
theorem get_some {v d C cur} (H : Vm.VI v d C cur) {k : Nat} (hn : v.has (k : Int) = true) {e : Vm.En} (hf : Vm.fnd k v.L = some e) :
    e.val = cur k ∧ v.get d k = (0, cur k, { v with L := Vm.usd k v.L }, d) ∧ (cur k).length = 496 := by
  have h2 := (Vm.has_pos hn).2.1
  rw [Int.toNat_natCast] at h2
  obtain ⟨h1, hk⟩ := Vm.fnd_some hf
  have hv : e.val = cur k := by
    cases hd : e.dirty with
    | true => rw [← hk]; exact (H.ci.dirty e h1 hd).2
    | false =>
      obtain ⟨a, b⟩ := H.ci.clean e h1 hd
      rw [b, ← hk, H.ci.same _ a]
  refine ⟨hv, ?_, (H.len k h2).2⟩
  unfold Vm.Va.get
  rw [if_neg (by rw [H.down]; decide), if_neg (by rw [hn]; decide), Int.toNat_natCast, hf]
  simp only [hv]
theorem get_none {v d C cur} (H : Vm.VI v d C cur) {k : Nat} (hn : v.has (k : Int) = true) (hf : Vm.fnd k v.L = none) :
    ∃ st d2, Vm.getPage d v.pl.base k = (0, cur k, st, d2) ∧ v.get d k = (0, cur k, { v with L := Vm.putL k (cur k) false v.frames v.L }, d2) ∧ (cur k).length = 496 ∧ Vm.draft d.now.length = some v.pl ∧ k < v.pl.pages := by
  obtain ⟨q1, q2, q3⟩ := Vm.has_pos hn
  rw [Int.toNat_natCast] at q2
  obtain ⟨gs, st0, R, ht⟩ := H.run
  obtain ⟨p1, p2, p3, p4, p5, p6, p7, p8⟩ := Vm.plan_facts R.disk.plan
  have hlen : d.now.length = d.safe.length := by rw [R.sync, Vm.setAll_len]
  have hch : k ∉ v.ch := fun h => by
    obtain ⟨e, he, hk⟩ := H.ci.there _ h
    exact Vm.fnd_none hf e he hk
  obtain ⟨st, hp⟩ := R.now k q2
  have hg := Vm.getPage_up R.up (base := v.pl.base) (n := k) (by omega)
  rw [hp] at hg
  simp only at hg
  rw [← H.ci.same _ hch] at hg
  refine ⟨_, _, hg, ?_, (H.len k q2).2, by rw [hlen]; exact R.disk.plan, q2⟩
  unfold Vm.Va.get
  rw [if_neg (by rw [H.down]; decide), if_neg (by rw [hn]; decide), Int.toNat_natCast, hf]
  simp only
  rw [hg]
  rfl
theorem VB.setD {κ κ' c w w' a dA cA tA mA tk wv v d d'} (h : VB κ c w a dA cA tA mA tk wv v d) (hD : DrumAt κ' c w' dA d') (t : To (Dc c) κ κ' w w') (hc0 : 1 ≤ c) : VB κ' c w' a dA cA tA mA tk wv v d' := by
  have t' : ∀ j, ¬ (c ≤ j ∧ j < c + 4) → ¬ Dc c j := fun j hj e => hj ⟨e.1, e.2⟩
  have s8 : ¬ Dc c (κ a) := t' _ (by rw [h.col]; omega)
  have sm : ¬ Dc c (κ mA) := t' _ (by rw [h.colm]; omega)
  exact ⟨(t.col a h.lt s8).trans h.col, (t.blk a h.lt s8).trans h.blk, h.cache.to t (fun j hj => t' _ (by have := hj.1; omega)) (t' _ (by omega)), h.tape.to t (t' _ (by omega)), h.tok, h.rtk.to t (t' _ (by omega)), h.tkl, fun hb => ⟨(h.was hb).1.to t (t' _ (by omega)), (h.was hb).2⟩, (t.col mA h.map.lt sm).trans h.colm, h.map.to t sm, hD⟩
theorem PgV.of_own {κ w w' v p} (hl : p.length = 496) (h : w'.ownsRow w.heap.size 5 1 v p.length (byC p)) (hz : Cz κ w) : PgV κ w' v p := by
  rcases h.2 with ⟨e1, e2⟩ | ⟨g, cap, cur, e1, e2⟩
  · omega
  · subst e1
    exact ⟨g, cap, rfl, e2.2.2.1, hz g e2.1, (h.lt g rfl).2, own_range h⟩
/-- The clone of a page. -/
theorem clone_pg {κ w v p} (hv : PgV κ w v p) (hl : p.length = 496) (hz : Cz κ w) : Calls Tryz.prog 63 #[v] w fun e w' => ∃ r, e = .returned r ∧ PgV κ w' r p ∧ To No κ κ w w' := by
  obtain ⟨g, cap, rfl, h2, h3, h4, h5⟩ := hv
  refine (c_clone1 g 0 p.length cap _ w (by omega) (by rw [byC_len]; omega) h5 (byC_one _) (by omega)).mono ?_
  rintro e w' ⟨h', c', rfl, k1, k2, k3⟩
  exact ⟨_, rfl, .of_own hl k2 hz, To.of_below _ _ k3⟩
set_option maxRecDepth 100000 in
theorem c_get0 {κ c w a dA v d} (h : VAt κ c w a dA v d) (hd : v.down = false) (hp : v.pl.pages ≤ 2048) (n : Int) (hn1 : -9223372036854775808 ≤ n) (hn2 : n ≤ 9223372036854775807) (hh : v.has n = false) :
    Calls Tryz.prog 46 #[.pointer (some ⟨a, 0, none⟩), .int .i64 n] w fun e w' => e = .returned (.tuple #[.slice none 0 0, .int .i64 1]) ∧ VAt κ c w' a dA v d ∧ To No κ κ w w' := by
  obtain ⟨cA, tA, mA, tk, wv, h⟩ := h
  have cH := c_has h n hn1 hn2 hp
  rw [hh] at cH
  have c13 : w.cell? ⟨a, 13, none⟩ = some (.bool v.down) := cell_at h.blk rfl
  rw [hd] at c13
  have h' := Hid.mk h
  clear h
  go_enter Tryz.func46, Tryz.ntmps46
  go_wp2_with (go_at_call 59; refine cH.mono ?_; rintro e w1 ⟨rfl, q, rfl⟩)
  go_ret2
  have t : To No κ κ w (w.drewN q) := (To.refl No κ w).drewN q
  exact ⟨rfl, ⟨cA, tA, mA, tk, wv, h'.out.no t⟩, t⟩
set_option maxRecDepth 100000 in
theorem c_get1 {κ c w a dA v d C cur} (h : VAt κ c w a dA v d) (H : Vm.VI v d C cur) (hz : Cz κ w) (hc0 : 1 ≤ c) (k : Nat) (hh : v.has (k : Int) = true) :
    Calls Tryz.prog 46 #[.pointer (some ⟨a, 0, none⟩), .int .i64 (k : Int)] w fun e w' => ∃ r, e = .returned (.tuple #[r, .int .i64 0]) ∧ ∃ κ', VAt κ' c w' a dA (v.get d k).2.2.1 (v.get d k).2.2.2 ∧ To (Vc c) κ κ' w w' ∧ Cz κ' w' ∧ PgV κ' w' r (cur k) := by
  obtain ⟨cA, tA, mA, tk, wv, h⟩ := h
  have hk : Hid (k < v.pl.pages) := Hid.mk (by have := (Vm.has_pos hh).2.1; simpa using this)
  have hk2 : k < 4611686018427387904 := by have := hk.out; have := H.one; omega
  have cH := c_has h (k : Int) (by omega) (by omega) H.one.2
  rw [hh] at cH
  have c13 : w.cell? ⟨a, 13, none⟩ = some (.bool v.down) := cell_at h.blk rfl
  rw [H.down] at c13
  have h' := Hid.mk h
  have hz' := Hid.mk hz
  have H' := Hid.mk H
  have hh' := Hid.mk hh
  clear h hz H hh
  have aft : ∀ q, ∃ W, Hid (W = w.drewN q) ∧ W.cell? ⟨a, 5, none⟩ = some (.pointer (some ⟨cA, 0, none⟩)) ∧ Hid (VB κ c W a dA cA tA mA tk wv v d) ∧ Hid (To No κ κ w W) := fun q => by
    have t : To No κ κ w (w.drewN q) := (To.refl No κ w).drewN q
    have V := h'.out.no t
    exact ⟨_, Hid.mk rfl, V.cells.2, Hid.mk V, Hid.mk t⟩
  cases hf : Vm.fnd k v.L with
  | some en =>
    obtain ⟨e1, e2, e3⟩ := get_some H'.out hh'.out hf
    rw [e2]
    have e3' := Hid.mk e3
    clear e2 e3
    have cG : ∀ W, Hid (VB κ c W a dA cA tA mA tk wv v d) → Hid (To No κ κ w W) → Calls Tryz.prog 68 #[.pointer (some ⟨cA, 0, none⟩), .int .i64 (k : Int)] W fun e w' => ∃ pv, e = .returned (.tuple #[pv, .bool true]) ∧ Hid (PgV κ w' pv (cur k)) ∧ Hid (VAt κ c w' a dA { v with L := Vm.usd k v.L } d) ∧ Hid (To (Vc c) κ κ w w') := by
      intro W VW tW
      refine (c_cget1 κ (c + 4) cA v.frames k v.L en W VW.out.cache hf).mono ?_
      rintro e w' ⟨pv, rfl, g1, g2, g3⟩
      rw [e1] at g1
      refine ⟨pv, rfl, Hid.mk g1, Hid.mk ⟨cA, tA, mA, tk, wv, VW.out.setL g2 g3 hc0⟩, Hid.mk ((ofNo tW.out).trans (g3.mono fun j hj => ⟨by have := hj.1; omega, by have := hj.2; omega⟩))⟩
    have cC : ∀ W pv, Hid (PgV κ W pv (cur k)) → Hid (VAt κ c W a dA { v with L := Vm.usd k v.L } d) → Hid (To (Vc c) κ κ w W) → Calls Tryz.prog 63 #[pv] W fun e w' => ∃ r, e = .returned r ∧ Hid (VAt κ c w' a dA { v with L := Vm.usd k v.L } d ∧ To (Vc c) κ κ w w' ∧ Cz κ w' ∧ PgV κ w' r (cur k)) := by
      intro W pv g1 g2 g3
      refine (clone_pg g1.out e3'.out (g3.out.cz hz'.out)).mono ?_
      rintro e w' ⟨r, rfl, k1, k2⟩
      have t := g3.out.trans (ofNo k2)
      exact ⟨r, rfl, Hid.mk ⟨g2.out.to k2 (fun _ _ h => h) (fun h => h), t, t.cz hz'.out, k1⟩⟩
    clear hf e1
    go_enter Tryz.func46, Tryz.ntmps46
    go_wp2_with (first | (go_at_call 59; refine cH.mono ?_; rintro e w1 ⟨rfl, q, rfl⟩; obtain ⟨W, hW, c5, VW, tW⟩ := aft q; rw [← hW.out]; clear hW aft) | (go_at_call 68; refine (cG _ VW tW).mono ?_; rintro e w2 ⟨pv, rfl, g1, g2, g3⟩) | (go_at_call 63; refine (cC _ _ g1 g2 g3).mono ?_; rintro e w3 ⟨r, rfl, hD⟩))
    go_ret2
    exact ⟨_, rfl, κ, hD.out⟩
  | none =>
    obtain ⟨st, d2, e1, e2, e3, e4, e5⟩ := get_none H'.out hh'.out hf
    rw [e2]
    have e3' := Hid.mk e3
    clear e2 e3
    have cG : ∀ W, Hid (VB κ c W a dA cA tA mA tk wv v d) → Calls Tryz.prog 68 #[.pointer (some ⟨cA, 0, none⟩), .int .i64 (k : Int)] W fun e w' => e = .returned (.tuple #[.slice none 0 0, .bool false]) ∧ w' = W ∧ W.cell? ⟨a, 0, none⟩ = some (.pointer (some ⟨dA, 0, none⟩)) := fun W VW =>
      (c_cget0 κ (c + 4) cA v.frames k v.L W VW.out.cache hk2 hf).mono fun e w' h => ⟨h.1, h.2, cell_at VW.out.blk rfl⟩
    have cP : ∀ W, Hid (VB κ c W a dA cA tA mA tk wv v d) → Hid (To No κ κ w W) → Calls Tryz.prog 56 #[.pointer (some ⟨dA, 0, none⟩), .int .i64 (k : Int)] W fun e w' => ∃ pv, e = .returned (.tuple #[pv, .int .u64 (st : Int), .int .i64 0]) ∧ w'.cell? ⟨a, 5, none⟩ = some (.pointer (some ⟨cA, 0, none⟩)) ∧ Hid (PgV κ w' pv (cur k)) ∧ Hid (VB κ c w' a dA cA tA mA tk wv v d2) ∧ Hid (To (Vc c) κ κ w w') := by
      intro W VW tW
      have cz := tW.out.cz hz'.out
      refine (c_pget κ c dA k d v.pl W VW.out.drum cz hc0 e4 e5).mono ?_
      rw [e1]
      rintro e w' ⟨pv, rfl, g1, g2, g3⟩
      have V := VW.out.setD g2 g3 hc0
      refine ⟨pv, rfl, V.cells.2, Hid.mk (.of_own e3'.out g1 cz), Hid.mk V, Hid.mk ((ofNo tW.out).trans (g3.mono fun j hj => ⟨hj.1, by have := hj.2; omega⟩))⟩
    have cQ : ∀ W pv, Hid (PgV κ W pv (cur k)) → Hid (VB κ c W a dA cA tA mA tk wv v d2) → Hid (To (Vc c) κ κ w W) → Calls Tryz.prog 98 #[.pointer (some ⟨cA, 0, none⟩), .int .i64 (k : Int), pv, .bool false] W fun e w' => e = .returned (.int .i64 0) ∧ Hid (∃ κ', VAt κ' c w' a dA { v with L := Vm.putL k (cur k) false v.frames v.L } d2 ∧ To (Vc c) κ κ' w w' ∧ Cz κ' w' ∧ PgV κ' w' pv (cur k)) := by
      intro W pv g1 g2 g3
      refine (c_cput κ (c + 4) cA v.frames k false pv (cur k) v.L W g2.out.cache (g3.out.cz hz'.out) hk2 g1.out (VI.room H'.out)).mono ?_
      rintro e w' ⟨rfl, κ', k1, k2, k3⟩
      exact ⟨rfl, Hid.mk ⟨κ', ⟨cA, tA, mA, tk, wv, g2.out.setL k1 k2 hc0⟩, g3.out.trans (k2.mono fun j hj => ⟨by have := hj.1; omega, by have := hj.2; omega⟩), k3, g1.out.to k2 (fun e => by have := e.1; omega)⟩⟩
    have cC : ∀ W pv, Hid (∃ κ', VAt κ' c W a dA { v with L := Vm.putL k (cur k) false v.frames v.L } d2 ∧ To (Vc c) κ κ' w W ∧ Cz κ' W ∧ PgV κ' W pv (cur k)) → Calls Tryz.prog 63 #[pv] W fun e w' => ∃ r, e = .returned r ∧ Hid (∃ κ', VAt κ' c w' a dA { v with L := Vm.putL k (cur k) false v.frames v.L } d2 ∧ To (Vc c) κ κ' w w' ∧ Cz κ' w' ∧ PgV κ' w' r (cur k)) := by
      intro W pv g
      obtain ⟨κ', g1, g2, g3, g4⟩ := g.out
      refine (clone_pg g4 e3'.out g3).mono ?_
      rintro e w' ⟨r, rfl, k1, k2⟩
      exact ⟨r, rfl, Hid.mk ⟨κ', g1.to k2 (fun _ _ h => h) (fun h => h), g2.trans (ofNo k2), k2.cz g3, k1⟩⟩
    clear hf e1 e4 e5
    go_enter Tryz.func46, Tryz.ntmps46
    go_wp2_with (first | (go_at_call 59; refine cH.mono ?_; rintro e w1 ⟨rfl, q, rfl⟩; obtain ⟨W, hW, c5, VW, tW⟩ := aft q; rw [← hW.out]; clear hW aft) | (go_at_call 68; refine (cG _ VW).mono ?_; rintro e w2 ⟨rfl, rfl, c0⟩) | (go_at_call 56; refine (cP _ VW tW).mono ?_; rintro e w3 ⟨pv, rfl, c5', g1, g2, g3⟩) | (go_at_call 98; refine (cQ _ _ g1 g2 g3).mono ?_; rintro e w4 ⟨rfl, hQ⟩) | (go_at_call 63; refine (cC _ _ hQ).mono ?_; rintro e w5 ⟨r, rfl, hD⟩))
    go_ret2
    exact ⟨_, rfl, hD.out⟩
end Go.Proofs.YtoacaikopcdkmaaGreat

namespace Go.Proofs.YtoacaikopcdkmaaGreat
open Go.RowKit Go.Sort Go.MapKept Go.Maps Go.WideElems Go.ChangeMaps
/-- The drum keeps its width, its loose writes grow by k at most. -/
def Kp (k : Nat) (d d' : Vm.Drum) : Prop := d'.now.length = d.now.length ∧ d'.loose.length ≤ d.loose.length + k
theorem Kp.refl (k : Nat) (d : Vm.Drum) : Kp k d d := ⟨rfl, by omega⟩
theorem Kp.trans {i j : Nat} {a b c : Vm.Drum} (h : Kp i a b) (g : Kp j b c) : Kp (i + j) a c := ⟨g.1.trans h.1, by have := h.2; have := g.2; omega⟩
theorem Kp.mono {i j : Nat} {a b : Vm.Drum} (h : Kp i a b) (hj : i ≤ j) : Kp j a b := ⟨h.1, by have := h.2; omega⟩
theorem step_kp (d : Vm.Drum) : Kp 0 d d.step.2 := by
  obtain ⟨h1, h2, h3, h4⟩ := step_same d
  exact ⟨by rw [h1], by rw [h3]; omega⟩
theorem read_kp (d : Vm.Drum) (k : Nat) : Kp 0 d (d.read k).2.2 := by
  have hs := step_kp d
  have h4 := (step_same d).2.2.2
  unfold Vm.Drum.read
  split
  · obtain ⟨er, d1, hst⟩ : ∃ er d1, d.step = (er, d1) := ⟨_, _, rfl⟩
    rw [hst] at hs h4 ⊢
    simp only at h4
    rcases h4 with e | e <;> subst e <;> exact hs
  · exact .refl _ _
theorem write_kp (d : Vm.Drum) (k : Nat) (p : List UInt8) : Kp 1 d (d.write k p).2 := by
  refine ⟨?_, write_loose d k p⟩
  have hs := step_same d
  unfold Vm.Drum.write
  split
  · rfl
  · split
    · rfl
    · obtain ⟨er, d1, hst⟩ : ∃ er d1, d.step = (er, d1) := ⟨_, _, rfl⟩
      rw [hst] at hs ⊢
      simp only at hs
      rcases hs.2.2.2 with e | e <;> subst e
      · simp [hs.1]
      · simp [hs.1]
theorem flush_kp (d : Vm.Drum) : Kp 0 d d.flush.2 := by
  have hs := step_same d
  unfold Vm.Drum.flush
  obtain ⟨er, d1, hst⟩ : ∃ er d1, d.step = (er, d1) := ⟨_, _, rfl⟩
  rw [hst] at hs ⊢
  simp only at hs
  rcases hs.2.2.2 with e | e <;> subst e
  · exact ⟨by simp [hs.1], by simp⟩
  · exact ⟨by simp [hs.1], by simp [hs.2.2.1]⟩
theorem pf_now (at_ : Nat) (b : List UInt8) (d : Vm.Drum) : ∀ k, (pf at_ b d k).2.now.length = d.now.length
  | 0 => rfl
  | k + 1 => by
    have ih := pf_now at_ b d k
    rw [pf]
    split
    · rw [(write_kp _ _ _).1]; exact ih
    · exact ih
theorem putPage_kp (d : Vm.Drum) (base n st : Nat) (p : List UInt8) : Kp 8 d (Vm.putPage d base n st p).2 := by
  rw [putPage_pf]; exact ⟨pf_now _ _ _ _, pf_loose _ _ _ _⟩
theorem scan_kp (gen lo : Nat) : ∀ (k pl : Nat) (d : Vm.Drum) (T : Vm.Tape) (all : List (List UInt8)) (grp : List UInt8) (due : Option Nat), Kp 0 d (Vm.Tape.scan gen lo k pl d T all grp due).2.2.2
  | 0, _, d, _, _, _, _ => .refl _ _
  | k + 1, pl, d, T, all, grp, due => by
    have hr := read_kp d (lo + pl)
    obtain ⟨er, b, d2, hd⟩ : ∃ er b d2, d.read (lo + pl) = (er, b, d2) := ⟨_, _, _, rfl⟩
    rw [hd] at hr
    cases er with
    | zero =>
      rw [scan_step hd rfl rfl rfl]
      split
      · exact hr
      · split
        · exact (hr.trans (scan_kp gen lo k _ d2 _ _ _ _)).mono (by omega)
        · exact (hr.trans (scan_kp gen lo k _ d2 _ _ _ _)).mono (by omega)
    | succ er =>
      rw [Vm.Tape.scan, hd]
      exact hr
theorem topen_kp (d : Vm.Drum) (lo hi gen : Nat) : Kp 0 d (Vm.Tape.open d lo hi gen).2.2.2 := by
  unfold Vm.Tape.open
  split
  · exact .refl _ _
  · exact scan_kp _ _ _ _ _ _ _ _ _
/-- The vault's struct and its drum, whatever the rest. -/
structure VR (κ : Nat → Nat) (c : Nat) (w : World) (a dA : Nat) (pl : Vm.Plan) (fr : Nat) (cv lv : Value) (h : Vm.Head) (tk wv mv : Value) (bz dn : Bool) (d : Vm.Drum) : Prop where
  col : κ a = c + 8
  blk : w.heap[a]? = some (.cells (vcs dA pl fr cv lv h tk wv mv bz dn) 96 (0, 0))
  drum : DrumAt κ c w dA d
def St (c : Nat) : Nat → Prop := fun j => Dc c j ∨ j = c + 7 ∨ j = c + 8
theorem keepS {w : World} {a i j : Nat} {u v : Value} (h : w.cell? ⟨a, i, none⟩ = some v) (hij : i ≠ j) : (w.setCell ⟨a, j, none⟩ u).cell? ⟨a, i, none⟩ = some v := by
  have hne : (⟨a, j, none⟩ : Addr) ≠ ⟨a, i, none⟩ := by intro e; injection e with _ e; exact hij e.symm
  exact (World.cell?_setCell_other w _ _ u hne).trans h
theorem VR.lt {κ c w a dA pl fr cv lv h tk wv mv bz dn d} (H : VR κ c w a dA pl fr cv lv h tk wv mv bz dn d) : a < w.heap.size := (Array.getElem?_eq_some_iff.1 H.blk).1
/-- The drum goes on. -/
theorem VR.setD {κ κ' c w w' a dA pl fr cv lv h tk wv mv bz dn d d'} (H : VR κ c w a dA pl fr cv lv h tk wv mv bz dn d) (hD : DrumAt κ' c w' dA d') (t : To (Dc c) κ κ' w w') : VR κ' c w' a dA pl fr cv lv h tk wv mv bz dn d' := by
  have s8 : ¬ Dc c (κ a) := by rw [H.col]; exact fun e => by have := e.2; omega
  exact ⟨(t.col a H.lt s8).trans H.col, (t.blk a H.lt s8).trans H.blk, hD⟩
theorem VR.no {κ c w w' a dA pl fr cv lv h tk wv mv bz dn d} (H : VR κ c w a dA pl fr cv lv h tk wv mv bz dn d) (t : To No κ κ w w') : VR κ c w' a dA pl fr cv lv h tk wv mv bz dn d :=
  ⟨H.col, (t.blk a H.lt (fun h => h)).trans H.blk, H.drum.to t (fun _ _ h => h)⟩
/-- A cell of the struct changes. -/
theorem VR.cell {κ c w a dA pl fr cv lv h tk wv mv bz dn d} (H : VR κ c w a dA pl fr cv lv h tk wv mv bz dn d) {pl' fr' cv' lv' h' tk' wv' mv' bz' dn'} (i : Nat) (u : Value) (e : (vcs dA pl fr cv lv h tk wv mv bz dn).setIfInBounds i u = vcs dA pl' fr' cv' lv' h' tk' wv' mv' bz' dn') :
    VR κ c (w.setCell ⟨a, i, none⟩ u) a dA pl' fr' cv' lv' h' tk' wv' mv' bz' dn' d ∧ To (St c) κ κ w (w.setCell ⟨a, i, none⟩ u) := by
  have t : To (fun j => j = c + 8) κ κ w (w.setCell ⟨a, i, none⟩ u) := (To.refl _ κ w).setCell _ (fun _ => H.col)
  refine ⟨⟨H.col, ?_, H.drum.to t fun j hj e => by have := hj.2; omega⟩, t.mono fun j e => .inr (.inr e)⟩
  rw [← e]
  exact heap_setCell_at _ H.blk
theorem VR.cells {κ c w a dA pl fr cv lv h tk wv mv bz dn d} (H : VR κ c w a dA pl fr cv lv h tk wv mv bz dn d) :
    w.cell? ⟨a, 0, none⟩ = some (.pointer (some ⟨dA, 0, none⟩)) ∧ w.cell? ⟨a, 1, none⟩ = some (.int .i64 (pl.log : Int)) ∧ w.cell? ⟨a, 6, none⟩ = some lv ∧ w.cell? ⟨a, 7, none⟩ = some (.int .i64 (h.gen : Int)) ∧ w.cell? ⟨a, 8, none⟩ = some (.int .u64 (h.stamp : Int)) ∧ ∀ i, w.frozen? ⟨a, i, none⟩ = false :=
  ⟨cell_at H.blk rfl, cell_at H.blk rfl, cell_at H.blk rfl, cell_at H.blk rfl, cell_at H.blk rfl, fun i => frozen_at H.blk⟩
/-- What a turn answers. -/
def TurnAns (κ : Nat → Nat) (c : Nat) (w : World) (a dA : Nat) (pl : Vm.Plan) (fr : Nat) (cv tk wv mv : Value) (bz dn : Bool) (R : Nat × Vm.Head × Vm.Tape × Vm.Drum) (e : Ending) (w' : World) : Prop :=
  e = .returned (.int .i64 (R.1 : Int)) ∧ ∃ κ' lv', VR κ' c w' a dA pl fr cv lv' R.2.1 tk wv mv bz dn R.2.2.2 ∧ To (St c) κ κ' w w' ∧ Cz κ' w' ∧ (R.1 = 0 → ∃ tA, lv' = pB tA ∧ TapeB κ' (c + 7) w' tA dA R.2.2.1 ∧ TapeOk R.2.2.1)
theorem VR.recol {κ κ' c w a dA pl fr cv lv h tk wv mv bz dn d} (H : VR κ c w a dA pl fr cv lv h tk wv mv bz dn d) (hk : ∀ b, b < w.heap.size → 1 ≤ κ b → κ' b = κ b) (hc0 : 1 ≤ c) : VR κ' c w a dA pl fr cv lv h tk wv mv bz dn d :=
  ⟨(hk a H.lt (by rw [H.col]; omega)).trans H.col, H.blk, H.drum.recol fun b hb e => hk b hb (by have := e.1; omega)⟩
/-- The tape's block is coloured, the struct takes it. -/
theorem turn_end {κ κ1 c w W2 W3 a dA pl fr cv lv h tk wv mv bz dn d3 tA T} (V : VR κ1 c W3 a dA pl fr cv lv h tk wv mv bz dn d3) (t0 : To (St c) κ κ1 w W2) (t1 : To (Dc c) κ1 κ1 W2 W3) (hz1 : Cz κ1 W2) (hc0 : 1 ≤ c) (hge : W2.heap.size ≤ tA)
    (hrow : W3.heap[tA]? = some (.cells #[.pointer (some ⟨dA, 0, none⟩), .int .i64 (T.lo : Int), .int .i64 (T.hi : Int), .int .i64 (T.gen : Int), .int .i64 (T.place : Int), .int .i64 (T.groups : Int), .bool T.down] 168 (0, 0))) (W4 : World) (hW4 : W4 = W3.setCell ⟨a, 6, none⟩ (pB tA)) :
    ∃ κ', VR κ' c W4 a dA pl fr cv (pB tA) h tk wv mv bz dn d3 ∧ To (St c) κ κ' w W4 ∧ Cz κ' W4 ∧ TapeB κ' (c + 7) W4 tA dA T := by
  have hlt : tA < W3.heap.size := (Array.getElem?_eq_some_iff.1 hrow).1
  obtain ⟨κ', hκ⟩ : ∃ κ' : Nat → Nat, κ' = fun b => if b = tA then c + 7 else κ1 b := ⟨_, rfl⟩
  have k1 : κ' tA = c + 7 := by rw [hκ]; exact if_pos rfl
  have k0 : κ1 tA = 0 := hz1 _ hge
  have k2 : ∀ b, b ≠ tA → κ' b = κ1 b := fun b hb => by rw [hκ]; exact if_neg hb
  have hne : a ≠ tA := fun e => by have := V.col; rw [e, k0] at this; omega
  have V' : VR κ' c W3 a dA pl fr cv lv h tk wv mv bz dn d3 := V.recol (fun b _ hb => k2 b fun e => by rw [e, k0] at hb; omega) hc0
  obtain ⟨V4, t4⟩ := V'.cell (h' := h) (lv' := pB tA) (tk' := tk) (wv' := wv) (mv' := mv) (bz' := bz) (dn' := dn) (cv' := cv) (fr' := fr) (pl' := pl) 6 (pB tA) rfl
  rw [← hW4] at V4 t4
  have t2 : To (St c) κ1 κ' W2 W4 := by
    refine ⟨t4.os.trans t1.os, t4.tape.trans t1.tape, t4.output.trans t1.output, Nat.le_trans t1.size t4.size, fun b hb _ => k2 b (by omega), fun b hb hn => ?_⟩
    have hb2 : b ≠ tA := by omega
    rw [t4.blk b (Nat.lt_of_lt_of_le hb t1.size) (by rw [k2 b hb2]; exact hn)]
    exact t1.blk b hb fun e => hn (.inl e)
  refine ⟨κ', V4, t0.trans t2, fun b hb => ?_, ⟨k1, ?_⟩⟩
  · have := t4.size
    rw [k2 b (by omega)]
    exact hz1 b (by have := t1.size; omega)
  · rw [hW4, Below.heap_setCell _ _ _ _ (Ne.symm hne)]
    exact hrow
set_option maxRecDepth 100000 in
set_option maxHeartbeats 1600000 in
theorem c_turn {κ c w a dA pl fr cv lv h tk wv mv bz dn d} (H : VR κ c w a dA pl fr cv lv h tk wv mv bz dn d) (hz : Cz κ w) (hc0 : 1 ≤ c) (hp : Vm.draft d.now.length = some pl) (hlv : ∃ x, lv = .pointer x) (hg : h.gen < 4294967295) (hst : h.stamp < 18446744073709551616) (hL : d.loose.length ≤ 500000) :
    Calls Tryz.prog 108 #[.pointer (some ⟨a, 0, none⟩)] w (TurnAns κ c w a dA pl fr cv tk wv mv bz dn (Vm.turn2 d pl h)) := by
  obtain ⟨lp, rfl⟩ := hlv
  obtain ⟨gn, st⟩ := h
  simp only at hg hst
  obtain ⟨c0, c1, c6, c7, c8, hfz⟩ := H.cells
  have f7 := hfz 7
  clear hfz
  obtain ⟨G, hG⟩ : ∃ G, Hid (gn + 1 = G) := ⟨_, Hid.mk rfl⟩
  have hG1 : 1 ≤ G := by rw [← hG.out]; omega
  have hG2 : G ≤ 4294967295 := by rw [← hG.out]; omega
  have hall : Hid (Vm.turn2 d pl ⟨gn, st⟩ = match d.write (G % 2) (Vm.layHead ⟨G, st⟩) with
    | (0, d) => match d.flush with
      | (0, d) => match Vm.Tape.open d 2 (2 + pl.log) G with
        | (e, t, _, d) => (e, ⟨G, st⟩, t, d)
      | (e, d) => (e, ⟨G, st⟩, Vm.z0, d)
    | (e, d) => (e, ⟨G, st⟩, Vm.z0, d)) := by
    show _ = _
    unfold Vm.turn2
    rw [if_neg (by show ¬ gn = 4294967295; omega), ← hG.out]
    rfl
  obtain ⟨R, hR⟩ : ∃ R, Hid (Vm.turn2 d pl ⟨gn, st⟩ = R) := ⟨_, Hid.mk rfl⟩
  rw [hR.out]
  obtain ⟨er, d1, hw1⟩ := pair_ex (d.write (G % 2) (Vm.layHead ⟨G, st⟩))
  have hk1 : Hid (Kp 1 d d1) := by have := write_kp d (G % 2) (Vm.layHead ⟨G, st⟩); rw [hw1.out] at this; exact Hid.mk this
  have hs1 : Hid (pl.log ≤ 4096 ∧ 1 ≤ pl.log ∧ 2 + pl.log ≤ d.now.length) := by
    obtain ⟨h1, h2, h3, h4, h5⟩ := draft_some hp
    exact Hid.mk ⟨by omega, by omega, by omega⟩
  have b1 : ((gn : Int) == 4294967295) = false := by rw [beq_eq_false_iff_ne]; omega
  have x1 : IntKind.i64.wrap ((gn : Int) + 1) = (G : Int) := by rw [IntKind.wrap_i64, ← hG.out]; omega
  have H' := Hid.mk H
  have hz' := Hid.mk hz
  have hp' := Hid.mk hp
  clear H hz hp
  have s0 : ∀ W, W = w.setCell ⟨a, 7, none⟩ (.int .i64 (G : Int)) → Hid (VR κ c W a dA pl fr cv (.pointer lp) ⟨G, st⟩ tk wv mv bz dn d) ∧ Hid (To (St c) κ κ w W) := by
    rintro W rfl
    obtain ⟨h1, h2⟩ := H'.out.cell (h' := ⟨G, st⟩) (lv' := .pointer lp) (tk' := tk) (wv' := wv) (mv' := mv) (bz' := bz) (dn' := dn) (cv' := cv) (fr' := fr) (pl' := pl) 7 (.int .i64 (G : Int)) rfl
    exact ⟨Hid.mk h1, Hid.mk h2⟩
  -- the head is written
  have cH : ∀ W, Hid (VR κ c W a dA pl fr cv (.pointer lp) ⟨G, st⟩ tk wv mv bz dn d) → Hid (To (St c) κ κ w W) → Calls Tryz.prog 140 #[.pointer (some ⟨dA, 0, none⟩), .agg #[.int .i64 (G : Int), .int .u64 (st : Int)]] W fun e w' => e = .returned (.int .i64 (er : Int)) ∧ w'.cell? ⟨a, 0, none⟩ = some (.pointer (some ⟨dA, 0, none⟩)) ∧ w'.cell? ⟨a, 1, none⟩ = some (.int .i64 (pl.log : Int)) ∧ w'.cell? ⟨a, 7, none⟩ = some (.int .i64 (G : Int)) ∧ w'.cell? ⟨a, 8, none⟩ = some (.int .u64 (st : Int)) ∧
      Hid (∃ κ1, VR κ1 c w' a dA pl fr cv (.pointer lp) ⟨G, st⟩ tk wv mv bz dn d1 ∧ To (St c) κ κ1 w w' ∧ Cz κ1 w') := by
    intro W HW TW
    refine (c_phead κ c dA G st d pl W HW.out.drum (TW.out.cz hz'.out) hc0 hp'.out hG1 hG2 hst hL).mono ?_
    rw [hw1.out]
    rintro e w' ⟨rfl, κ1, g1, g2, g3⟩
    have V := HW.out.setD g1 g2
    obtain ⟨k0, k1, k6, k7, k8, _⟩ := V.cells
    exact ⟨rfl, k0, k1, k7, k8, Hid.mk ⟨κ1, V, TW.out.trans (g2.mono fun j e => .inl e), g3⟩⟩
  have x2 : IntKind.i64.wrap ((2 : Int) + (pl.log : Int)) = ((2 + pl.log : Nat) : Int) := by rw [IntKind.wrap_i64]; have := hs1.out; omega
  have fin1 : er ≠ 0 → Hid (R = (er, ⟨G, st⟩, Vm.z0, d1)) := fun he => by
    show _ = _
    rw [← hR.out, hall.out, hw1.out]
    cases er with
    | zero => exact absurd rfl he
    | succ n => rfl
  go_enter Tryz.func108, Tryz.ntmps108
  go_wp2
  obtain ⟨W0, hW0⟩ : ∃ W, Hid (W = w.setCell ⟨a, 7, none⟩ (.int .i64 (G : Int))) := ⟨_, Hid.mk rfl⟩
  obtain ⟨V0, T0⟩ := s0 W0 hW0.out
  obtain ⟨e0, e1, e6, e7, e8, _⟩ := V0.out.cells
  rw [← hW0.out]
  have cH0 := cH W0.drew (Hid.mk (V0.out.no ((To.refl No κ W0).drew))) (Hid.mk T0.out.drew)
  clear cH s0 c0 c1 c6 c7 c8 f7 hW0
  go_region_held3 (fun w' => w'.cell? ⟨a, 0, none⟩ = some (.pointer (some ⟨dA, 0, none⟩)) ∧ w'.cell? ⟨a, 7, none⟩ = some (.int .i64 (G : Int)) ∧ w'.cell? ⟨a, 8, none⟩ = some (.int .u64 (st : Int))) (first | go_keep | (exact ⟨by assumption, by assumption, by assumption⟩)) (first | (go_at_call 140; refine cH0.mono ?_; rintro e w2 ⟨rfl, k0, k1, k7, k8, hE1⟩))
  by_cases he : er = 0
  · subst he
    obtain ⟨er2, d2, hf2⟩ := pair_ex d1.flush
    have hk2 : Hid (Kp 0 d1 d2) := by have := flush_kp d1; rw [hf2.out] at this; exact Hid.mk this
    have cF : Calls Tryz.prog 115 #[.pointer (some ⟨dA, 0, none⟩)] w2 fun e w' => e = .returned (.int .i64 (er2 : Int)) ∧ w'.cell? ⟨a, 0, none⟩ = some (.pointer (some ⟨dA, 0, none⟩)) ∧ w'.cell? ⟨a, 1, none⟩ = some (.int .i64 (pl.log : Int)) ∧ w'.cell? ⟨a, 7, none⟩ = some (.int .i64 (G : Int)) ∧
        Hid (∃ κ1, VR κ1 c w' a dA pl fr cv (.pointer lp) ⟨G, st⟩ tk wv mv bz dn d2 ∧ To (St c) κ κ1 w w' ∧ Cz κ1 w') := by
      obtain ⟨κ1, g1, g2, g3⟩ := hE1.out
      refine (c_flush κ1 c dA d1 w2 g1.drum).mono ?_
      rw [hf2.out]
      rintro e w' ⟨rfl, j1, j2⟩
      have V := g1.setD j1 j2
      obtain ⟨k0, k1, k6, k7, k8, _⟩ := V.cells
      exact ⟨rfl, k0, k1, k7, Hid.mk ⟨κ1, V, g2.trans (j2.mono fun j e => .inl e), j2.cz g3⟩⟩
    by_cases he2 : er2 = 0
    · subst he2
      obtain ⟨er3, R3, hop⟩ := pair_ex (Vm.Tape.open d2 2 (2 + pl.log) G)
      obtain ⟨T3, R4, hR4⟩ := pair_ex R3
      obtain ⟨gs3, d3, hR5⟩ := pair_ex R4
      rw [hR4.out, hR5.out] at hop
      have fin3 : Hid (R = (er3, ⟨G, st⟩, T3, d3)) := by
        show _ = _
        rw [← hR.out, hall.out, hw1.out]
        simp only
        rw [hf2.out]
        simp only
        rw [hop.out]
      have cO : ∀ W, Hid (∃ κ1, VR κ1 c W a dA pl fr cv (.pointer lp) ⟨G, st⟩ tk wv mv bz dn d2 ∧ To (St c) κ κ1 w W ∧ Cz κ1 W) → Calls Tryz.prog 102 #[.pointer (some ⟨dA, 0, none⟩), .int .i64 2, .int .i64 ((2 + pl.log : Nat) : Int), .int .i64 (G : Int)] W fun e w' => ∃ (tv : Option Addr) (gv : Value), e = .returned (.tuple #[.pointer tv, gv, .int .i64 (er3 : Int)]) ∧ w'.cell? ⟨a, 0, none⟩ = some (.pointer (some ⟨dA, 0, none⟩)) ∧ w'.cell? ⟨a, 1, none⟩ = some (.int .i64 (pl.log : Int)) ∧ w'.cell? ⟨a, 7, none⟩ = some (.int .i64 (G : Int)) ∧ w'.cell? ⟨a, 6, none⟩ = some (.pointer lp) ∧ w'.frozen? ⟨a, 6, none⟩ = false ∧
          Hid (∀ W4, W4 = w'.setCell ⟨a, 6, none⟩ (.pointer tv) → ∃ κ' lv', VR κ' c W4 a dA pl fr cv lv' ⟨G, st⟩ tk wv mv bz dn d3 ∧ To (St c) κ κ' w W4 ∧ Cz κ' W4 ∧ (er3 = 0 → ∃ tA, lv' = pB tA ∧ TapeB κ' (c + 7) W4 tA dA T3 ∧ TapeOk T3)) := by
        intro W hW
        obtain ⟨κ1, g1, g2, g3⟩ := hW.out
        have hN : d2.now.length = d.now.length := hk2.out.1.trans hk1.out.1
        refine (c_topen κ1 c dA 2 (2 + pl.log) G d2 W g1.drum g3 hc0 (by rw [hN]; exact hs1.out.2.2) (by have := hs1.out; omega) hG1 hG2).mono ?_
        rw [hop.out]
        rintro e w' ⟨tv, gv, rfl, j1, j2, j3⟩
        have V := g1.setD j1 j2
        obtain ⟨k0, k1, k6, k7, k8, kf⟩ := V.cells
        refine ⟨tv, gv, rfl, k0, k1, k7, k6, kf 6, Hid.mk fun W4 hW4 => ?_⟩
        by_cases he3 : er3 = 0
        · obtain ⟨tA, vals, rfl, q1, q2, q3, q4⟩ := j3 he3
          obtain ⟨κ', m1, m2, m3, m4⟩ := turn_end V g2 j2 g3 hc0 q1 q2 W4 hW4
          exact ⟨κ', _, m1, m2, m3, fun _ => ⟨tA, rfl, m4, q3⟩⟩
        · obtain ⟨m1, m2⟩ := V.cell (h' := ⟨G, st⟩) (lv' := .pointer tv) (tk' := tk) (wv' := wv) (mv' := mv) (bz' := bz) (dn' := dn) (cv' := cv) (fr' := fr) (pl' := pl) 6 (.pointer tv) rfl
          rw [← hW4] at m1 m2
          have t := (g2.trans (j2.mono fun j e => Or.inl e)).trans m2
          exact ⟨κ1, _, m1, t, m2.cz (j2.cz g3), fun h => absurd h he3⟩
      go_wp2_with (first | (go_at_call 115; refine cF.mono ?_; rintro e w3 ⟨rfl, q0, q1, q7, hE2⟩))
      have cO0 := cO w3.drew (by
        obtain ⟨κ1, g1, g2, g3⟩ := hE2.out
        exact Hid.mk ⟨κ1, g1.no ((To.refl No κ1 w3).drew), g2.drew, g3⟩)
      clear cO cF cH0 k0 k1 k7 k8 e0 e1 e6 e7 e8
      go_region_held3 (fun w' => w'.cell? ⟨a, 0, none⟩ = some (.pointer (some ⟨dA, 0, none⟩)) ∧ w'.cell? ⟨a, 1, none⟩ = some (.int .i64 (pl.log : Int)) ∧ w'.cell? ⟨a, 7, none⟩ = some (.int .i64 (G : Int))) (first | go_keep | (exact ⟨by assumption, by assumption, by assumption⟩) | (exact ⟨keepS (by assumption) (by decide), keepS (by assumption) (by decide), keepS (by assumption) (by decide)⟩)) (first | (go_at_call 102; refine cO0.mono ?_; rintro e w4 ⟨tv, gv, rfl, k0, k1, k7, k6, f6, hE3⟩))
      go_wp2
      go_ret
      rw [fin3.out]
      obtain ⟨κ', lv', m1, m2, m3, m4⟩ := hE3.out _ rfl
      exact ⟨rfl, κ', lv', m1, m2, m3, m4⟩
    · have hne : ((er2 : Int) == 0) = false := by rw [beq_eq_false_iff_ne]; omega
      have fin2 : Hid (R = (er2, ⟨G, st⟩, Vm.z0, d2)) := by
        show _ = _
        rw [← hR.out, hall.out, hw1.out]
        simp only
        rw [hf2.out]
        cases er2 with
        | zero => exact absurd rfl he2
        | succ n => rfl
      go_wp2_with (first | (go_at_call 115; refine cF.mono ?_; rintro e w3 ⟨rfl, q0, q1, q7, hE2⟩))
      go_ret
      rw [fin2.out]
      obtain ⟨κ1, g1, g2, g3⟩ := hE2.out
      exact ⟨rfl, κ1, _, g1, g2, g3, fun h => absurd h he2⟩
  · have hne : ((er : Int) == 0) = false := by rw [beq_eq_false_iff_ne]; omega
    go_wp2
    go_ret
    rw [(fin1 he).out]
    obtain ⟨κ1, g1, g2, g3⟩ := hE1.out
    exact ⟨rfl, κ1, _, g1, g2, g3, fun h => absurd h he⟩
end Go.Proofs.YtoacaikopcdkmaaGreat

namespace Go.Proofs.YtoacaikopcdkmaaGreat
open Go.RowKit Go.Sort Go.MapKept Go.Maps Go.WideElems Go.ChangeMaps
def chk2 (d : Vm.Drum) (pl : Vm.Plan) (h : Vm.Head) : Nat × Vm.Head × Vm.Tape × Vm.Drum := match d.flush with
  | (0, d) => Vm.turn2 d pl h
  | (e, d) => (e, h, Vm.z0, d)
theorem TurnAns.from {κ κ1 c w w1 a dA pl fr cv tk wv mv bz dn R e w'} (t : To (St c) κ κ1 w w1) (h : TurnAns κ1 c w1 a dA pl fr cv tk wv mv bz dn R e w') : TurnAns κ c w a dA pl fr cv tk wv mv bz dn R e w' := by
  obtain ⟨h1, κ', lv', h2, h3, h4, h5⟩ := h
  exact ⟨h1, κ', lv', h2, t.trans h3, h4, h5⟩
set_option maxRecDepth 100000 in
set_option maxHeartbeats 800000 in
theorem c_chk {κ c w a dA pl fr cv lv h tk wv mv bz dn d} (H : VR κ c w a dA pl fr cv lv h tk wv mv bz dn d) (hz : Cz κ w) (hc0 : 1 ≤ c) (hp : Vm.draft d.now.length = some pl) (hlv : ∃ x, lv = .pointer x) (hg : h.gen < 4294967295) (hst : h.stamp < 18446744073709551616) (hL : d.loose.length ≤ 500000) :
    Calls Tryz.prog 70 #[.pointer (some ⟨a, 0, none⟩)] w (TurnAns κ c w a dA pl fr cv tk wv mv bz dn (chk2 d pl h)) := by
  obtain ⟨c0, c1, c6, c7, c8, hfz⟩ := H.cells
  clear hfz
  obtain ⟨R, hR⟩ : ∃ R, Hid (chk2 d pl h = R) := ⟨_, Hid.mk rfl⟩
  rw [hR.out]
  obtain ⟨er, d2, hf⟩ := pair_ex d.flush
  have hk2 : Hid (Kp 0 d d2) := by have := flush_kp d; rw [hf.out] at this; exact Hid.mk this
  have H' := Hid.mk H
  have hz' := Hid.mk hz
  have hp' := Hid.mk hp
  have hlv' := Hid.mk hlv
  clear H hz hp hlv
  have cF : Calls Tryz.prog 115 #[.pointer (some ⟨dA, 0, none⟩)] w fun e w' => e = .returned (.int .i64 (er : Int)) ∧ Hid (VR κ c w' a dA pl fr cv lv h tk wv mv bz dn d2) ∧ Hid (To (Dc c) κ κ w w') := by
    refine (c_flush κ c dA d w H'.out.drum).mono ?_
    rw [hf.out]
    rintro e w' ⟨rfl, j1, j2⟩
    exact ⟨rfl, Hid.mk (H'.out.setD j1 j2), Hid.mk j2⟩
  by_cases he : er = 0
  · subst he
    have hR2 : Hid (Vm.turn2 d2 pl h = R) := by
      show _ = _
      rw [← hR.out]; unfold chk2; rw [hf.out]; rfl
    have cT : ∀ W, Hid (VR κ c W a dA pl fr cv lv h tk wv mv bz dn d2) → Hid (To (Dc c) κ κ w W) → Calls Tryz.prog 108 #[.pointer (some ⟨a, 0, none⟩)] W fun e w' => ∃ er, e = .returned (.int .i64 er) ∧ Hid (TurnAns κ c w a dA pl fr cv tk wv mv bz dn R (.returned (.int .i64 er)) w') := by
      intro W V T
      refine (c_turn V.out (T.out.cz hz'.out) hc0 (by rw [hk2.out.1]; exact hp'.out) hlv'.out hg hst (by have := hk2.out.2; omega)).mono ?_
      rw [hR2.out]
      intro e w' h
      have h' := h.from (T.out.mono fun j e => Or.inl e)
      obtain ⟨rfl, hh⟩ := h'
      exact ⟨_, rfl, Hid.mk ⟨rfl, hh⟩⟩
    go_enter Tryz.func70, Tryz.ntmps70
    go_wp2_with (first | (go_at_call 115; refine cF.mono ?_; rintro e w1 ⟨rfl, V, T⟩) | (go_at_call 108; refine (cT _ V T).mono ?_; rintro e w2 ⟨er, rfl, hD⟩))
    go_ret
    exact hD.out
  · have hne : ((er : Int) != 0) = true := by rw [bne_iff_ne]; omega
    have hR2 : Hid (R = (er, h, Vm.z0, d2)) := by
      show _ = _
      rw [← hR.out]; unfold chk2; rw [hf.out]
      cases er with
      | zero => exact absurd rfl he
      | succ n => rfl
    go_enter Tryz.func70, Tryz.ntmps70
    go_wp2_with (first | (go_at_call 115; refine cF.mono ?_; rintro e w1 ⟨rfl, V, T⟩))
    go_ret
    rw [hR2.out]
    exact ⟨rfl, κ, _, V.out, T.out.mono fun j e => .inl e, T.out.cz hz'.out, fun h => absurd h he⟩
/-! ## a byte that is not zero -/
theorem c_nz (b : UInt8) (w : World) : Calls Tryz.prog 107 #[.int .u8 (b.toNat : Int)] w fun e w' => e = .returned (.bool (b != 0)) ∧ w' = w := by
  have e : ((b.toNat : Int) != 0) = (b != 0) := by
    by_cases h : b = 0
    · subst h; rfl
    · have h1 : b.toNat ≠ 0 := fun e => h (by rw [← UInt8.toNat_inj]; exact e)
      have h2 : (b != 0) = true := by simpa using h
      rw [h2, bne_iff_ne]; omega
  go_enter Tryz.func107, Tryz.ntmps107
  go_wp2
  go_ret
  exact ⟨by rw [← e]; rfl, rfl⟩
set_option maxRecDepth 100000 in
theorem c_ixnz (g cap n : Nat) (b : List UInt8) (hl : b.length = n) (hn : n ≤ 100000) (w : World) (hr : w.rangeAt g 0 (byC b)) :
    Calls Tryz.prog 139 #[.slice (some ⟨g, 0, none⟩) n cap, .func (.func 107) #[] #[]] w fun e w' => ∃ i : Int, e = .returned (.int .i64 i) ∧ -1 ≤ i ∧ decide (0 ≤ i) = !(b.all (· == 0)) ∧ w' = w := by
  have hl' := Hid.mk hl
  have hr' := Hid.mk hr
  clear hl hr
  go_enter Tryz.func139, Tryz.ntmps139
  go_wp2
  go_loop [8] (fun i => ∃ j : Nat, j ≤ n ∧ i = .int .i64 (j : Int) ∧ Hid ((b.take j).all (· == 0) = true)) (fun i => 200000 - (intOf i).toNat)
  case atStart => exact ⟨0, Nat.zero_le _, rfl, Hid.mk (by simp)⟩
  case round =>
    obtain ⟨j, hj, rfl, hz⟩ := hrel
    by_cases hlt : (j : Int) < n
    · have hjb : j < b.length := by rw [hl'.out]; omega
      obtain ⟨x, hx⟩ : ∃ x, Hid (b.getD j 0 = x) := ⟨_, Hid.mk rfl⟩
      have hc : w.cell? ⟨g, j, none⟩ = some (.int .u8 (x.toNat : Int)) := by
        have := range_byte hr'.out j hjb
        rw [Nat.zero_add, hx.out] at this
        exact this
      have cN := c_nz x w
      have hget : Hid (b[j]? = some x) := by
        show _ = _
        rw [List.getElem?_eq_getElem hjb, ← hx.out, List.getD_eq_getElem?_getD, List.getElem?_eq_getElem hjb]; rfl
      by_cases h0 : x = 0
      · subst h0
        have e0 : ((0 : UInt8) != 0) = false := rfl
        rw [e0] at cN
        go_wp2_with (go_at_call 107; refine cN.mono ?_; rintro e w1 ⟨rfl, rfl⟩)
        refine ⟨⟨j + 1, by omega, by go_num, Hid.mk ?_⟩, ?_⟩
        · rw [List.take_add_one, hget.out, List.all_append, hz.out]; rfl
        · simp [intOf]; omega
      · have e0 : (x != 0) = true := by simpa using h0
        rw [e0] at cN
        go_wp2_with (go_at_call 107; refine cN.mono ?_; rintro e w1 ⟨rfl, rfl⟩)
        go_ret
        refine ⟨_, rfl, by omega, ?_, rfl⟩
        rw [decide_eq_true (by omega)]
        have hf : b.all (· == 0) = false := by
          rw [List.all_eq_false]
          exact ⟨x, List.mem_of_getElem? hget.out, by simpa using h0⟩
        rw [hf]; rfl
    · have : j = n := by omega
      subst this
      go_wp2
      go_ret
      refine ⟨_, rfl, by omega, ?_, rfl⟩
      have := hz.out
      rw [← hl'.out, List.take_length] at this
      rw [this]; rfl
theorem c_anynz (g cap n : Nat) (b : List UInt8) (hl : b.length = n) (hn : n ≤ 100000) (w : World) (hr : w.rangeAt g 0 (byC b)) :
    Calls Tryz.prog 106 #[.slice (some ⟨g, 0, none⟩) n cap, .func (.func 107) #[] #[]] w fun e w' => e = .returned (.bool (!(b.all (· == 0)))) ∧ w' = w := by
  have cI := c_ixnz g cap n b hl hn w hr
  clear hl hr
  go_enter Tryz.func106, Tryz.ntmps106
  go_wp2_with (go_at_call 139; refine cI.mono ?_; rintro e w1 ⟨i, rfl, h1, h2, rfl⟩)
  go_ret
  refine ⟨?_, rfl⟩
  rw [← h2]
  rfl
end Go.Proofs.YtoacaikopcdkmaaGreat

namespace Go.Proofs.YtoacaikopcdkmaaGreat
open Go.RowKit Go.Sort Go.MapKept Go.Maps Go.WideElems Go.ChangeMaps
def blk (base : Nat) (d : Vm.Drum) : Nat → Nat × Vm.Drum
  | 0 => (0, d)
  | k + 1 => Vm.blank1 base (blk base d k) k
theorem blk_fold (base : Nat) (d : Vm.Drum) : ∀ k, (List.range k).foldl (Vm.blank1 base) (0, d) = blk base d k
  | 0 => rfl
  | k + 1 => by rw [List.range_succ, List.foldl_append, blk_fold base d k]; rfl
theorem blk_stop {base : Nat} {d : Vm.Drum} {i : Nat} (h : (blk base d i).1 ≠ 0) : ∀ j, blk base d (i + j) = blk base d i
  | 0 => rfl
  | j + 1 => by
    rw [← Nat.add_assoc, blk, blk_stop h j]
    unfold Vm.blank1
    rw [if_neg h]
theorem blk_kp (base : Nat) (d : Vm.Drum) : ∀ k, Kp 0 d (blk base d k).2
  | 0 => .refl _ _
  | k + 1 => by
    have ih := blk_kp base d k
    have hr := read_kp (blk base d k).2 (base + k)
    rw [blk]
    unfold Vm.blank1
    split
    · obtain ⟨er, b, d2, hd⟩ : ∃ er b d2, (blk base d k).2.read (base + k) = (er, b, d2) := ⟨_, _, _, rfl⟩
      rw [hd] at hr ⊢
      cases er with
      | zero => exact (ih.trans hr).mono (by omega)
      | succ er => exact (ih.trans hr).mono (by omega)
    · exact ih
set_option maxRecDepth 100000 in
set_option maxHeartbeats 1600000 in
theorem c_fresh {κ c w a dA pl fr cv lv h tk wv mv bz dn d} (H : VR κ c w a dA pl fr cv lv h tk wv mv bz dn d) (hz : Cz κ w) (hc0 : 1 ≤ c) (hp : Vm.draft d.now.length = some pl) (hlv : ∃ x, lv = .pointer x) (hg : h.gen < 4294967295) (hst : h.stamp < 18446744073709551616) (hL : d.loose.length ≤ 500000) :
    Calls Tryz.prog 55 #[.pointer (some ⟨a, 0, none⟩)] w (TurnAns κ c w a dA pl fr cv tk wv mv bz dn (Vm.fresh2 d pl h)) := by
  obtain ⟨R, hR⟩ : ∃ R, Hid (Vm.fresh2 d pl h = R) := ⟨_, Hid.mk rfl⟩
  rw [hR.out]
  obtain ⟨B, hB⟩ : ∃ B, Hid (pl.base = B) := ⟨_, Hid.mk rfl⟩
  have hB1 : B ≤ 50000 := by
    obtain ⟨h1, h2, h3, h4, h5⟩ := draft_some hp
    rw [← hB.out]; omega
  have hall : Hid (R = match blk B d 8 with
    | (0, d) => Vm.turn2 d pl h
    | (e, d) => (e, h, Vm.z0, d)) := by
    show _ = _
    rw [← hR.out, ← blk_fold, ← hB.out]
    unfold Vm.fresh2
    generalize (List.range 8).foldl (Vm.blank1 pl.base) (0, d) = X
    obtain ⟨e, d⟩ := X
    cases e <;> rfl
  have H' := Hid.mk H
  have hz' := Hid.mk hz
  have hp' := Hid.mk hp
  have hlv' := Hid.mk hlv
  clear H hz hp hlv
  have fin : ∀ k e d2, k ≤ 8 → e ≠ 0 → Hid (blk B d k = (e, d2)) → Hid (R = (e, h, Vm.z0, d2)) := fun k e d2 hk he hb => by
    show _ = _
    have h8 : blk B d 8 = blk B d k := by
      have := blk_stop (base := B) (d := d) (i := k) (by rw [hb.out]; exact he) (8 - k)
      rwa [show k + (8 - k) = 8 by omega] at this
    rw [hall.out, h8, hb.out]
    cases e with
    | zero => exact absurd rfl he
    | succ e => rfl
  go_enter Tryz.func55, Tryz.ntmps55
  go_wp2
  go_loopw [6] (fun i wr => ∃ k : Nat, k ≤ 8 ∧ i = .int .i64 (k : Int) ∧ Hid ((blk B d k).1 = 0) ∧ Hid (VR κ c wr a dA pl fr cv lv h tk wv mv bz dn (blk B d k).2) ∧ Hid (To (Dc c) κ κ w wr)) (fun i _ => 20 - (intOf i).toNat)
  case atStart => exact ⟨0, Nat.zero_le _, rfl, Hid.mk rfl, H', Hid.mk (.refl _ _ _)⟩
  case round =>
    obtain ⟨k, hk, rfl, h0, V, T⟩ := hrel
    by_cases hlt : (k : Int) < 8
    · obtain ⟨dk, hdk⟩ : ∃ dk, Hid ((blk B d k).2 = dk) := ⟨_, Hid.mk rfl⟩
      rw [hdk.out] at V
      have hbk : Hid (blk B d k = (0, dk)) := Hid.mk (Prod.ext h0.out hdk.out)
      obtain ⟨c0, c1, c6, c7, c8, _⟩ := V.out.cells
      have c2 : wr.cell? ⟨a, 2, none⟩ = some (.int .i64 (pl.base : Int)) := cell_at V.out.blk rfl
      rw [hB.out] at c2
      have x1 : IntKind.i64.wrap ((B : Int) + k) = ((B + k : Nat) : Int) := by rw [IntKind.wrap_i64]; omega
      obtain ⟨er, r2, hrd⟩ := pair_ex (dk.read (B + k))
      obtain ⟨s2, d2, hr2⟩ := pair_ex r2
      rw [hr2.out] at hrd
      by_cases he : er = 0
      · subst he
        have hs2 : Hid (s2.length = 64) := Hid.mk (read_wid V.out.drum.1 hrd.out)
        have cR : Calls Tryz.prog 97 #[.pointer (some ⟨dA, 0, none⟩), .int .i64 ((B + k : Nat) : Int)] wr.drew fun e w' => ∃ g cp, e = .returned (.tuple #[.slice (some ⟨g, 0, none⟩) 64 cp, .int .i64 0]) ∧ w'.cell? ⟨a, 0, none⟩ = some (.pointer (some ⟨dA, 0, none⟩)) ∧ w'.cell? ⟨a, 2, none⟩ = some (.int .i64 (B : Int)) ∧ Hid (w'.rangeAt g 0 (byC s2)) ∧ Hid (VR κ c w' a dA pl fr cv lv h tk wv mv bz dn d2) ∧ Hid (To (Dc c) κ κ w w') := by
          have Vd := V.out.no ((To.refl No κ wr).drew)
          refine (c_read0 κ c dA (B + k) dk wr.drew Vd.drum hrd.out).mono ?_
          rintro e w' ⟨g, cp, rfl, j1, j2, j3, j4, j5⟩
          have V2 := Vd.setD j4 j5
          have q2 : w'.cell? ⟨a, 2, none⟩ = some (.int .i64 (pl.base : Int)) := cell_at V2.blk rfl
          rw [hB.out] at q2
          exact ⟨g, cp, rfl, V2.cells.1, q2, Hid.mk j3, Hid.mk V2, Hid.mk (T.out.drew.trans j5)⟩
        have hnext : Hid (blk B d (k + 1) = (if s2.all (· == 0) = true then 0 else 11, d2)) := by
          show _ = _
          rw [blk, hbk.out]
          unfold Vm.blank1
          rw [if_pos rfl]
          simp only
          rw [hrd.out]
          rfl
        have cN : ∀ W g cp, Hid (W.rangeAt g 0 (byC s2)) → Calls Tryz.prog 106 #[.slice (some ⟨g, 0, none⟩) 64 cp, .func (.func 107) #[] #[]] W fun e w' => e = .returned (.bool (!(s2.all (· == 0)))) ∧ w' = W := fun W g cp hr => c_anynz g cp 64 s2 hs2.out (by decide) W hr.out
        go_wp2
        go_region_held3 (fun w' => w'.cell? ⟨a, 0, none⟩ = some (.pointer (some ⟨dA, 0, none⟩)) ∧ w'.cell? ⟨a, 2, none⟩ = some (.int .i64 (B : Int))) (first | go_keep | (exact ⟨by assumption, by assumption⟩)) (first | (go_at_call 97; refine cR.mono ?_; rintro e w2 ⟨g, cp, rfl, q0, q2, hrg, V2, T2⟩))
        obtain ⟨az, haz⟩ : ∃ az, Hid (s2.all (· == 0) = az) := ⟨_, Hid.mk rfl⟩
        rw [haz.out] at hnext cN
        clear c0 c1 c2 c6 c7 c8 q0 q2 cR
        cases az with
        | true =>
          go_wp2_with (first | (go_at_call 106; refine (cN _ g cp hrg).mono ?_; rintro e w3 ⟨rfl, rfl⟩))
          go_roundw
          case rel =>
            have e2 : blk B d (k + 1) = (0, d2) := hnext.out.trans (by simp)
            exact ⟨k + 1, by omega, by go_num, Hid.mk (by rw [e2]), Hid.mk (by rw [e2]; exact V2.out), T2⟩
          case measure => simp [intOf]; omega
        | false =>
          go_wp2_with (first | (go_at_call 106; refine (cN _ g cp hrg).mono ?_; rintro e w3 ⟨rfl, rfl⟩))
          go_ret
          rw [(fin (k + 1) 11 d2 (by omega) (by decide) (Hid.mk (hnext.out.trans (by simp)))).out]
          exact ⟨rfl, κ, _, V2.out, T2.out.mono fun j e => .inl e, T2.out.cz hz'.out, fun h => by cases h⟩
      · have hne : ((er : Int) != 0) = true := by rw [bne_iff_ne]; omega
        have cR : Calls Tryz.prog 97 #[.pointer (some ⟨dA, 0, none⟩), .int .i64 ((B + k : Nat) : Int)] wr.drew fun e w' => ∃ v, e = .returned (.tuple #[v, .int .i64 (er : Int)]) ∧ w'.cell? ⟨a, 0, none⟩ = some (.pointer (some ⟨dA, 0, none⟩)) ∧ w'.cell? ⟨a, 2, none⟩ = some (.int .i64 (B : Int)) ∧ Hid (VR κ c w' a dA pl fr cv lv h tk wv mv bz dn d2) ∧ Hid (To (Dc c) κ κ w w') := by
          have Vd := V.out.no ((To.refl No κ wr).drew)
          refine (c_read1 κ c dA (B + k) dk wr.drew Vd.drum hrd.out).mono ?_
          rintro e w' ⟨v, rfl, j4, j5⟩
          have V2 := Vd.setD j4 j5
          have q2 : w'.cell? ⟨a, 2, none⟩ = some (.int .i64 (pl.base : Int)) := cell_at V2.blk rfl
          rw [hB.out] at q2
          exact ⟨v, rfl, V2.cells.1, q2, Hid.mk V2, Hid.mk (T.out.drew.trans j5)⟩
        have hnext : Hid (blk B d (k + 1) = (er, d2)) := by
          show _ = _
          rw [blk, hbk.out]
          unfold Vm.blank1
          rw [if_pos rfl]
          simp only
          rw [hrd.out]
          cases er with
          | zero => exact absurd rfl he
          | succ er => rfl
        go_wp2
        go_region_held3 (fun w' => w'.cell? ⟨a, 0, none⟩ = some (.pointer (some ⟨dA, 0, none⟩)) ∧ w'.cell? ⟨a, 2, none⟩ = some (.int .i64 (B : Int))) (first | go_keep | (exact ⟨by assumption, by assumption⟩)) (first | (go_at_call 97; refine cR.mono ?_; rintro e w2 ⟨v, rfl, q0, q2, V2, T2⟩))
        go_wp2_with fail
        go_ret
        rw [(fin (k + 1) er d2 (by omega) he hnext).out]
        exact ⟨rfl, κ, _, V2.out, T2.out.mono fun j e => .inl e, T2.out.cz hz'.out, fun h => absurd h he⟩
    · have : k = 8 := by omega
      subst this
      obtain ⟨dk, hdk⟩ : ∃ dk, Hid ((blk B d 8).2 = dk) := ⟨_, Hid.mk rfl⟩
      rw [hdk.out] at V
      have hR2 : Hid (Vm.turn2 dk pl h = R) := by
        show _ = _
        rw [hall.out, show blk B d 8 = (0, dk) from Prod.ext h0.out hdk.out]; rfl
      have hkp : Hid (Kp 0 d dk) := by have := blk_kp B d 8; rw [hdk.out] at this; exact Hid.mk this
      have cT : Calls Tryz.prog 108 #[.pointer (some ⟨a, 0, none⟩)] wr fun e w' => ∃ er, e = .returned (.int .i64 er) ∧ Hid (TurnAns κ c w a dA pl fr cv tk wv mv bz dn R (.returned (.int .i64 er)) w') := by
        refine (c_turn V.out (T.out.cz hz'.out) hc0 (by rw [hkp.out.1]; exact hp'.out) hlv'.out hg hst (by have := hkp.out.2; omega)).mono ?_
        rw [hR2.out]
        intro e w' h
        have h' := h.from (T.out.mono fun j e => Or.inl e)
        obtain ⟨rfl, hh⟩ := h'
        exact ⟨_, rfl, Hid.mk ⟨rfl, hh⟩⟩
      go_wp2_with (first | (go_at_call 108; refine cT.mono ?_; rintro e w2 ⟨er, rfl, hD⟩))
      go_ret
      exact hD.out
end Go.Proofs.YtoacaikopcdkmaaGreat
