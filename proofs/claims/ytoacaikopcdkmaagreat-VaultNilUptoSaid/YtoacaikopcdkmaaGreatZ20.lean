/- The vault in memory; ask, fell. The vault: Begin, has. The vault: has. The vault: may. The vault: put. No condition. -/
import Derived.Test.YtoacaikopcdkmaaGreatZ19
import Derived.Test.YtoacaikopcdkmaaGreatZ14
set_option linter.unusedSimpArgs false
set_option linter.unusedVariables false
namespace Go.Proofs.YtoacaikopcdkmaaGreat
open Go.RowKit Go.Sort Go.MapKept Go.Maps Go.WideElems Go.ChangeMaps
def vcs (dA : Nat) (pl : Vm.Plan) (frames : Nat) (cv lv : Value) (h : Vm.Head) (tk wv mv : Value) (busy down : Bool) : Array Value :=
  #[.pointer (some ⟨dA, 0, none⟩), .int .i64 (pl.log : Int), .int .i64 (pl.base : Int), .int .i64 (pl.pages : Int), .int .i64 (frames : Int), cv, lv, .int .i64 (h.gen : Int), .int .u64 (h.stamp : Int), tk, wv, mv, .bool busy, .bool down]
structure VB (κ : Nat → Nat) (c : Nat) (w : World) (a dA cA tA mA : Nat) (tk wv : Value) (v : Vm.Va) (d : Vm.Drum) : Prop where
  col : κ a = c + 8
  blk : w.heap[a]? = some (.cells (vcs dA v.pl v.frames (pB cA) (pB tA) v.head tk wv (.map (some mA)) v.busy v.down) 96 (0, 0))
  cache : CacheAt κ (c + 4) w cA v.frames v.L
  tape : TapeB κ (c + 7) w tA dA v.tape
  tok : TapeOk v.tape
  rtk : Row κ (c + 9) w 5 1 tk v.taken.length (byC v.taken)
  tkl : v.taken.length = 496
  was : v.busy = true → Row κ (c + 9) w 5 1 wv v.was.length (byC v.was) ∧ v.was.length = 496 ∧ tk.ownBlock ≠ wv.ownBlock
  colm : κ mA = c + 10
  map : MapB w mA (v.ch.map fun k => (k, .bool true))
  drum : DrumAt κ c w dA d
def VAt (κ : Nat → Nat) (c : Nat) (w : World) (a dA : Nat) (v : Vm.Va) (d : Vm.Drum) : Prop := ∃ cA tA mA tk wv, VB κ c w a dA cA tA mA tk wv v d
def Vc (c : Nat) : Nat → Prop := fun j => c ≤ j ∧ j < c + 11
theorem VB.lt {κ c w a dA cA tA mA tk wv v d} (h : VB κ c w a dA cA tA mA tk wv v d) : a < w.heap.size := (Array.getElem?_eq_some_iff.1 h.blk).1
theorem VB.to {S κ κ' c w w' a dA cA tA mA tk wv v d} (h : VB κ c w a dA cA tA mA tk wv v d) (t : To S κ κ' w w') (hS : ∀ j, Vc c j → ¬ S j) (h0 : ¬ S 0) : VB κ' c w' a dA cA tA mA tk wv v d := by
  have s8 : ¬ S (κ a) := by rw [h.col]; exact hS _ ⟨by omega, by omega⟩
  have sm : ¬ S (κ mA) := by rw [h.colm]; exact hS _ ⟨by omega, by omega⟩
  exact ⟨(t.col a h.lt s8).trans h.col, (t.blk a h.lt s8).trans h.blk, h.cache.to t (fun j hj => hS j ⟨by have := hj.1; omega, by have := hj.2; omega⟩) h0, h.tape.to t (hS _ ⟨by omega, by omega⟩), h.tok, h.rtk.to t (hS _ ⟨by omega, by omega⟩), h.tkl, fun hb => ⟨(h.was hb).1.to t (hS _ ⟨by omega, by omega⟩), (h.was hb).2⟩, (t.col mA h.map.lt sm).trans h.colm, h.map.to t sm, h.drum.to t fun j hj => hS j ⟨hj.1, by have := hj.2; omega⟩⟩
theorem VAt.to {S κ κ' c w w' a dA v d} (h : VAt κ c w a dA v d) (t : To S κ κ' w w') (hS : ∀ j, Vc c j → ¬ S j) (h0 : ¬ S 0) : VAt κ' c w' a dA v d := by
  obtain ⟨cA, tA, mA, tk, wv, h⟩ := h
  exact ⟨cA, tA, mA, tk, wv, h.to t hS h0⟩
/-- The struct's cells change, not what they lead to. -/
theorem VB.re {κ c w w' a dA cA tA mA tk wv v v' d} (h : VB κ c w a dA cA tA mA tk wv v d) (t : To (fun j => j = c + 8) κ κ w w') (hb : w'.heap[a]? = some (.cells (vcs dA v'.pl v'.frames (pB cA) (pB tA) v'.head tk wv (.map (some mA)) v'.busy v'.down) 96 (0, 0)))
    (h1 : v'.frames = v.frames) (h2 : v'.L = v.L) (h3 : v'.tape = v.tape) (h4 : v'.taken = v.taken) (h5 : v'.ch = v.ch) (h6 : v'.busy = true → v.busy = true ∧ v'.was = v.was) (hc0 : 1 ≤ c) : VB κ c w' a dA cA tA mA tk wv v' d := by
  refine ⟨h.col, hb, ?_, ?_, ?_, ?_, ?_, fun hb' => ?_, h.colm, ?_, h.drum.to t fun j hj => by have := hj.2; omega⟩
  · rw [h1, h2]; exact h.cache.to t (fun j hj => by have := hj.2; omega) (by omega)
  · rw [h3]; exact h.tape.to t (by omega)
  · rw [h3]; exact h.tok
  · rw [h4]; exact h.rtk.to t (by omega)
  · rw [h4]; exact h.tkl
  · obtain ⟨e1, e2⟩ := h6 hb'
    rw [e2]
    exact ⟨(h.was e1).1.to t (by omega), (h.was e1).2⟩
  · rw [h5]; exact h.map.to t (by rw [h.colm]; omega)
theorem c_ask {κ c w a dA cA tA mA tk wv v d} (h : VB κ c w a dA cA tA mA tk wv v d) (b : Bool) :
    Calls Tryz.prog 58 #[.pointer (some ⟨a, 0, none⟩), .bool b] w fun e w' => e = .returned (.int .i64 (v.ask b : Int)) ∧ w' = w := by
  have c12 : w.cell? ⟨a, 12, none⟩ = some (.bool v.busy) := cell_at h.blk rfl
  have c13 : w.cell? ⟨a, 13, none⟩ = some (.bool v.down) := cell_at h.blk rfl
  have hask : v.ask b = if v.down = true then 9 else if v.busy ≠ b then 3 else 0 := rfl
  rw [hask]
  obtain ⟨down, hd⟩ : ∃ x, v.down = x := ⟨_, rfl⟩
  obtain ⟨busy, hb⟩ : ∃ x, v.busy = x := ⟨_, rfl⟩
  rw [hd] at c13 ⊢
  rw [hb] at c12 ⊢
  clear h hask hd hb
  cases down <;> cases busy <;> cases b <;>
  · go_enter Tryz.func58, Tryz.ntmps58
    go_wp2
    go_ret
    exact ⟨rfl, rfl⟩
theorem c_fell {κ c w a dA cA tA mA tk wv v d} (h : VB κ c w a dA cA tA mA tk wv v d) (hc0 : 1 ≤ c) (er : Nat) :
    Calls Tryz.prog 75 #[.pointer (some ⟨a, 0, none⟩), .int .i64 (er : Int)] w fun e w' => e = .returned (.int .i64 (er : Int)) ∧ VB κ c w' a dA cA tA mA tk wv { v with down := v.down || decide (er = 9) } d ∧ To (fun j => j = c + 8) κ κ w w' := by
  have c13 : w.cell? ⟨a, 13, none⟩ = some (.bool v.down) := cell_at h.blk rfl
  have f13 : w.frozen? ⟨a, 13, none⟩ = false := frozen_at h.blk
  have hend : ∀ u, u = (v.down || decide (er = 9)) → VB κ c (w.setCell ⟨a, 13, none⟩ (.bool u)) a dA cA tA mA tk wv { v with down := v.down || decide (er = 9) } d ∧ To (fun j => j = c + 8) κ κ w (w.setCell ⟨a, 13, none⟩ (.bool u)) := fun u hu => by
    have t : To (fun j => j = c + 8) κ κ w (w.setCell ⟨a, 13, none⟩ (.bool u)) := (To.refl _ κ w).setCell _ (fun _ => h.col)
    refine ⟨h.re t ?_ rfl rfl rfl rfl rfl (fun e => ⟨e, rfl⟩) hc0, t⟩
    have := heap_setCell_at (i := 13) (.bool u) h.blk
    rw [hu] at this ⊢
    exact this
  have hend' := Hid.mk hend
  clear hend
  obtain ⟨down, hd⟩ : ∃ x, Hid (v.down = x) := ⟨_, Hid.mk rfl⟩
  rw [hd.out] at c13
  cases down with
  | true =>
    go_enter Tryz.func75, Tryz.ntmps75
    go_wp2
    go_ret
    exact ⟨rfl, hend'.out true (by rw [hd.out]; rfl)⟩
  | false =>
    have hb : ((er : Int) == 9) = decide (er = 9) := by
      by_cases h9 : er = 9
      · subst h9; rfl
      · rw [decide_eq_false h9, beq_eq_false_iff_ne]; omega
    go_enter Tryz.func75, Tryz.ntmps75
    go_wp2
    go_ret
    exact ⟨rfl, hend'.out _ (by rw [hd.out]; rfl)⟩
end Go.Proofs.YtoacaikopcdkmaaGreat

namespace Go.Proofs.YtoacaikopcdkmaaGreat
open Go.RowKit Go.Sort Go.MapKept Go.Maps Go.WideElems Go.ChangeMaps
theorem CacheAt.recol {κ κ' c w a n L} (h : CacheAt κ c w a n L) (hk : ∀ b, b < w.heap.size → κ' b = κ b) : CacheAt κ' c w a n L := by
  obtain ⟨m, r, M, R, h, hL⟩ := h
  exact ⟨m, r, M, R, ⟨(hk a h.lt).trans h.col, (hk m h.map.lt).trans h.colm, fun y hy => (hk y.b (h.ring.lt hy)).trans (h.colr y hy), h.blk, h.map, h.perm, h.ring, fun x hx => (h.rows x hx).recol hk, h.len, h.le⟩, hL⟩
theorem Row.recolA {κ κ' w k e size v n xs} (h : Row κ k w e size v n xs) (hk : ∀ b, b < w.heap.size → κ' b = κ b) : Row κ' k w e size v n xs := h.recol fun b hb e => (hk b hb).trans e
theorem VB.recol {κ κ' c w a dA cA tA mA tk wv v d} (h : VB κ c w a dA cA tA mA tk wv v d) (hk : ∀ b, b < w.heap.size → κ' b = κ b) : VB κ' c w a dA cA tA mA tk wv v d :=
  ⟨(hk a h.lt).trans h.col, h.blk, h.cache.recol hk, ⟨(hk tA h.tape.lt).trans h.tape.col, h.tape.blk⟩, h.tok, h.rtk.recolA hk, h.tkl, fun hb => ⟨(h.was hb).1.recolA hk, (h.was hb).2⟩, (hk mA h.map.lt).trans h.colm, h.map, h.drum.recol fun b hb _ => hk b hb⟩
theorem Row.form {κ k w v p} (h : Row κ k w 5 1 v p.length (byC p)) (hl : p.length = 496) : ∃ g cap, v = .slice (some ⟨g, 0, none⟩) 496 cap ∧ g < w.heap.size ∧ κ g = k ∧ w.rangeAt g 0 (byC p) ∧ 496 ≤ cap := by
  rcases h.1.2 with ⟨e1, e2⟩ | ⟨g, cap, cur, e1, e2⟩
  · omega
  · have h1 := h.1
    subst e1
    rw [hl] at h1 h
    refine ⟨g, cap, by rw [hl], (h1.lt g rfl).2, h.2 g (by rw [← hl]; rfl), own_range h1, ?_⟩
    rw [hl] at e2
    exact e2.2.2.1
/-- The end of Begin. -/
theorem begin_end {κ c w a dA cA tA mA tk wv v d} (h : VB κ c w a dA cA tA mA tk wv v d) (hz : Cz κ w) (hc0 : 1 ≤ c) (w1 : World) (hw1 : w1 = w.setCell ⟨a, 12, none⟩ (.bool true)) (w2 : World) (hb : Below w1.heap.size w1 w2) (g : Nat) (cap : Nat) (hg : w1.heap.size ≤ g)
    (hr : w2.ownsRow w1.heap.size 5 1 (.slice (some ⟨g, 0, none⟩) 496 cap) 496 (byC v.taken)) : ∃ κ', VAt κ' c (w2.setCell ⟨a, 10, none⟩ (.slice (some ⟨g, 0, none⟩) 496 cap)) a dA { v with busy := true, was := v.taken } d ∧ To (Vc c) κ κ' w (w2.setCell ⟨a, 10, none⟩ (.slice (some ⟨g, 0, none⟩) 496 cap)) ∧ Cz κ' (w2.setCell ⟨a, 10, none⟩ (.slice (some ⟨g, 0, none⟩) 496 cap)) := by
  have s1 : w1.heap.size = w.heap.size := by rw [hw1]; simp
  obtain ⟨κ', hκ⟩ : ∃ κ' : Nat → Nat, κ' = fun b => if b = g then c + 9 else κ b := ⟨_, rfl⟩
  have k1 : κ' g = c + 9 := by rw [hκ]; simp
  have k2 : ∀ b, b < w.heap.size → κ' b = κ b := fun b hb => by rw [hκ]; exact if_neg (by omega)
  have H := h.recol k2
  have gl : g < w2.heap.size := (hr.lt g rfl).2
  obtain ⟨W, hW⟩ : ∃ W, W = w2.setCell ⟨a, 10, none⟩ (.slice (some ⟨g, 0, none⟩) 496 cap) := ⟨_, rfl⟩
  have t1 : To (fun j => j = c + 8) κ' κ' w w1 := by rw [hw1]; exact (To.refl _ κ' w).setCell _ (fun _ => H.col)
  have t2 : To (fun j => j = c + 8) κ' κ' w w2 := t1.below hb (by omega)
  have t3 : To (fun j => j = c + 8) κ' κ' w2 W := by rw [hW]; exact (To.refl _ κ' w2).setCell _ (fun _ => H.col)
  have t : To (fun j => j = c + 8) κ' κ' w W := t2.trans t3
  have b1 : w1.heap[a]? = some (.cells ((vcs dA v.pl v.frames (pB cA) (pB tA) v.head tk wv (.map (some mA)) v.busy v.down).setIfInBounds 12 (.bool true)) 96 (0, 0)) := by rw [hw1]; exact heap_setCell_at _ h.blk
  have b2 := (hb.block a (by rw [s1]; exact h.lt)).trans b1
  have b3 := heap_setCell_at (i := 10) (.slice (some ⟨g, 0, none⟩) 496 cap) b2
  rw [← hW] at b3 ⊢
  refine ⟨κ', ⟨cA, tA, mA, tk, .slice (some ⟨g, 0, none⟩) 496 cap, ⟨H.col, b3, H.cache.to t (fun j hj => by have := hj.2; omega) (by omega), H.tape.to t (by omega), h.tok, H.rtk.to t (by omega), h.tkl, fun _ => ⟨⟨?_, ?_⟩, h.tkl, ?_⟩, H.colm, H.map.to t (by rw [H.colm]; omega), H.drum.to t fun j hj => by have := hj.2; omega⟩⟩, ?_, fun b hb' => ?_⟩
  · rw [h.tkl]
    refine own_base (base := w1.heap.size) (own_to hr t3 fun b h1 h2 => ?_) (Nat.zero_le _)
    by_cases e : b = g
    · rw [e, k1]; omega
    · rw [hκ]; simp only; rw [if_neg e, hz b (by omega)]; omega
  · intro b hb'; injection hb' with hb'; rw [← hb']; exact k1
  · intro e
    have e' : tk.ownBlock = some g := e
    have := (h.rtk.1.lt g e').2
    omega
  · refine ⟨t.os, t.tape, t.output, t.size, fun b hb' _ => k2 b hb', fun b hb' hn => t.blk b hb' fun e => hn ?_⟩
    rw [← k2 b hb', e]; exact ⟨by omega, by omega⟩
  · have := t3.size
    have := t2.size
    rw [hκ]
    simp only
    rw [if_neg (by omega)]
    exact hz b (by omega)
theorem c_begin {κ c w a dA v d} (h : VAt κ c w a dA v d) (hz : Cz κ w) (hc0 : 1 ≤ c) :
    Calls Tryz.prog 20 #[.pointer (some ⟨a, 0, none⟩)] w fun e w' => e = .returned (.int .i64 (v.begin.1 : Int)) ∧ ∃ κ', VAt κ' c w' a dA v.begin.2 d ∧ To (Vc c) κ κ' w w' ∧ Cz κ' w' := by
  obtain ⟨cA, tA, mA, tk, wv, h⟩ := h
  have cA' := c_ask h false
  have hbg : v.begin = if v.ask false ≠ 0 then (v.ask false, v) else (0, { v with busy := true, was := v.taken }) := rfl
  rw [hbg]
  obtain ⟨ea, hea⟩ : ∃ ea, Hid (v.ask false = ea) := ⟨_, Hid.mk rfl⟩
  rw [hea.out] at cA' ⊢
  by_cases h0 : ea = 0
  · subst h0
    rw [if_neg (by omega)]
    obtain ⟨g, cap, rfl, hgl, hgk, hgr, hgc⟩ := h.rtk.form h.tkl
    have c9 : w.cell? ⟨a, 9, none⟩ = some (.slice (some ⟨g, 0, none⟩) 496 cap) := cell_at h.blk rfl
    have c10 : w.cell? ⟨a, 10, none⟩ = some wv := cell_at h.blk rfl
    have c12 : w.cell? ⟨a, 12, none⟩ = some (.bool v.busy) := cell_at h.blk rfl
    have f10 : w.frozen? ⟨a, 10, none⟩ = false := frozen_at h.blk
    have f12 : w.frozen? ⟨a, 12, none⟩ = false := frozen_at h.blk
    have hga : a ≠ g := fun e => by have := h.col; rw [e, hgk] at this; omega
    have hal := h.lt
    have cC : ∀ W, W = w.setCell ⟨a, 12, none⟩ (.bool true) → Calls Tryz.prog 63 #[.slice (some ⟨g, 0, none⟩) 496 cap] W fun e w' => ∃ h' c', e = .returned (.slice (some ⟨h', 0, none⟩) 496 c') ∧ w'.cell? ⟨a, 10, none⟩ = some wv ∧ w'.frozen? ⟨a, 10, none⟩ = false ∧ Hid (W.heap.size ≤ h') ∧ Hid (w'.ownsRow W.heap.size 5 1 (.slice (some ⟨h', 0, none⟩) 496 c') 496 (byC v.taken)) ∧ Hid (Below W.heap.size W w') := by
      rintro W rfl
      have hr : (w.setCell ⟨a, 12, none⟩ (.bool true)).rangeAt g 0 (byC v.taken) := rangeAt_setCell hgr _ _ hga
      refine (c_clone1 g 0 496 cap _ _ (by omega) (by rw [byC_len, h.tkl]) hr (byC_one _) (by omega)).mono ?_
      rintro e w' ⟨h', c', rfl, h1, h2, h3⟩
      have hb : (w.setCell ⟨a, 12, none⟩ (.bool true)).heap[a]? = _ := heap_setCell_at (i := 12) (.bool true) h.blk
      have hb' := (h3.block a (by simpa using hal)).trans hb
      exact ⟨h', c', rfl, cell_at hb' rfl, frozen_at hb', Hid.mk h1, Hid.mk h2, Hid.mk h3⟩
    have h' := Hid.mk h
    have hz' := Hid.mk hz
    clear h hgr hz hbg
    go_enter Tryz.func20, Tryz.ntmps20
    go_wp2_with (first | (go_at_call 58; refine cA'.mono ?_; rintro e w1 ⟨rfl, rfl⟩) | (go_at_call 63; refine (cC _ rfl).mono ?_; rintro e w2 ⟨h2, c2, rfl, d10, g10, hb1, hb2, hb3⟩))
    go_ret
    exact ⟨rfl, begin_end h'.out hz'.out hc0 _ rfl _ hb3.out _ _ hb1.out hb2.out⟩
  · rw [if_pos h0]
    have hne : ((ea : Int) != 0) = true := by rw [bne_iff_ne]; omega
    have h' := Hid.mk h
    have hz' := Hid.mk hz
    clear h hz hbg
    go_enter Tryz.func20, Tryz.ntmps20
    go_wp2_with (first | (go_at_call 58; refine cA'.mono ?_; rintro e w1 ⟨rfl, rfl⟩))
    go_ret
    exact ⟨rfl, κ, ⟨cA, tA, mA, tk, wv, h'.out⟩, .refl _ _ _, hz'.out⟩
end Go.Proofs.YtoacaikopcdkmaaGreat

namespace Go.Proofs.YtoacaikopcdkmaaGreat
open Go.RowKit Go.Sort Go.MapKept Go.Maps Go.WideElems Go.ChangeMaps
theorem and_bit : ∀ (j : Fin 8) (b : Fin 256), (bits .and .u8 (b.val : Int) ((2 : Int) ^ j.val % 256) != 0) = decide (b.val / 2 ^ j.val % 2 = 1) := by decide +kernel
theorem and_bit8 (k : Nat) (b : UInt8) : (bits .and .u8 (b.toNat : Int) ((2 : Int) ^ (k % 8) % 256) != 0) = decide (b.toNat / 2 ^ (k % 8) % 2 = 1) :=
  and_bit ⟨k % 8, by omega⟩ ⟨b.toNat, b.toNat_lt⟩
theorem c_has {κ c w a dA cA tA mA tk wv v d} (h : VB κ c w a dA cA tA mA tk wv v d) (n : Int) (hn1 : -9223372036854775808 ≤ n) (hn2 : n ≤ 9223372036854775807) (hp : v.pl.pages ≤ 2048) :
    Calls Tryz.prog 59 #[.pointer (some ⟨a, 0, none⟩), .int .i64 n] w fun e w' => e = .returned (.bool (v.has n)) ∧ ∃ q, w' = w.drewN q := by
  obtain ⟨g, cap, rfl, hgl, hgk, hgr, hgc⟩ := h.rtk.form h.tkl
  have c9 : w.cell? ⟨a, 9, none⟩ = some (.slice (some ⟨g, 0, none⟩) 496 cap) := cell_at h.blk rfl
  have c3 : w.cell? ⟨a, 3, none⟩ = some (.int .i64 (v.pl.pages : Int)) := cell_at h.blk rfl
  have hv : v.has n = (decide (0 < n) && decide (n < v.pl.pages) && Vm.bitAt v.taken n.toNat) := rfl
  rw [hv]
  have htl := h.tkl
  have h' := Hid.mk h
  clear h hv
  by_cases h0 : 0 < n
  · by_cases h1 : n < v.pl.pages
    · obtain ⟨k, hk⟩ : ∃ k : Nat, n = (k : Int) := ⟨n.toNat, by omega⟩
      subst hk
      obtain ⟨pg, hpg⟩ : ∃ pg, Hid (v.pl.pages = pg) := ⟨_, Hid.mk rfl⟩
      rw [hpg.out] at c3 h1 hp ⊢
      have hk8 : k / 8 < 496 := by omega
      obtain ⟨b, hb⟩ : ∃ b, Hid (v.taken.getD (k / 8) 0 = b) := ⟨_, Hid.mk rfl⟩
      have cg : w.cell? ⟨g, k / 8, none⟩ = some (.int .u8 (b.toNat : Int)) := by
        have := range_byte hgr (k / 8) (by omega)
        rw [Nat.zero_add, hb.out] at this
        exact this
      have d0 : decide (0 < k) = true := decide_eq_true (by omega)
      have d1 : decide (k < pg) = true := decide_eq_true (by omega)
      have hk0 : ¬ ((k : Int) < 0) := by omega
      go_enter Tryz.func59, Tryz.ntmps59
      go_wp2
      go_quiet (fail)
      go_wp2_with fail
      go_ret
      rw [and_bit8]
      refine ⟨?_, _, rfl⟩
      have e2 : Vm.bitAt v.taken ((k : Int).toNat) = decide (b.toNat / 2 ^ (k % 8) % 2 = 1) := by
        unfold Vm.bitAt
        rw [Int.toNat_natCast, hb.out]
      rw [e2, decide_eq_true h0, decide_eq_true h1]; rfl
    · have d0 : decide (0 < n) = true := decide_eq_true h0
      have d1 : decide (n < (v.pl.pages : Int)) = false := decide_eq_false h1
      go_enter Tryz.func59, Tryz.ntmps59
      go_wp2
      go_quiet (fail)
      go_wp2_with fail
      go_ret
      refine ⟨?_, _, rfl⟩
      rw [decide_eq_false (show ¬ n < (v.pl.pages : Int) by omega), Bool.and_false, Bool.false_and]; rfl
  · have d0 : decide (0 < n) = false := decide_eq_false h0
    go_enter Tryz.func59, Tryz.ntmps59
    go_wp2
    go_quiet (fail)
    go_wp2_with fail
    go_ret
    refine ⟨?_, _, rfl⟩
    rw [decide_eq_false (show ¬ 0 < n by omega), Bool.false_and, Bool.false_and]; rfl
end Go.Proofs.YtoacaikopcdkmaaGreat

namespace Go.Proofs.YtoacaikopcdkmaaGreat
open Go.RowKit Go.Sort Go.MapKept Go.Maps Go.WideElems Go.ChangeMaps
theorem ul90 : Tryz.prog.underlying 90 = some (.map 3 4) := by kernel_rfl
theorem zv4 (w : World) : (zeroValue 4).run Tryz.prog w = .ok (.bool false) w := by kernel_rfl
theorem look_ch (k : Nat) : ∀ ch : List Nat, (lookM k (ch.map fun k => (k, Value.bool true))).getD (.bool false) = .bool (decide (k ∈ ch))
  | [] => by simp [lookM]
  | x :: ch => by
    have ih := look_ch k ch
    unfold lookM at ih ⊢
    by_cases h : x = k
    · subst h; simp
    · rw [List.map_cons, List.find?_cons_of_neg (by simpa using h), ih]
      simp [Ne.symm h]
theorem VB.look {κ c w a dA cA tA mA tk wv v d} (h : VB κ c w a dA cA tA mA tk wv v d) {k : Nat} (hk : k < 4611686018427387904) :
    (Instr.lookup 90 (.map (some mA)) (.int .i64 (k : Int)) false).run Tryz.prog w = .ok (.bool (decide (k ∈ v.ch))) w := by
  rw [← look_ch k v.ch]; exact run_mlook ul90 ul3 (zv4 w) h.map hk
theorem VB.fle {κ c w a dA cA tA mA tk wv v d} (h : VB κ c w a dA cA tA mA tk wv v d) : v.frames ≤ 65536 := by
  obtain ⟨m, r, M, R, h, _⟩ := h.cache
  exact h.le
def notIn (ch ns : List Nat) : Nat := (ns.filter fun n => decide (n ∉ ch)).length
theorem notIn_snoc (ch ns : List Nat) (x : Nat) : notIn ch (ns ++ [x]) = notIn ch ns + if x ∈ ch then 0 else 1 := by
  unfold notIn
  rw [List.filter_append]
  by_cases h : x ∈ ch <;> simp [h]
set_option maxRecDepth 100000 in
theorem c_may {κ c w a dA cA tA mA tk wv v d} (h : VB κ c w a dA cA tA mA tk wv v d) (g cap : Nat) (ns : List Nat) (N : Nat) (hN : ns.length = N) (hN2 : N ≤ 2) (hns : ∀ n ∈ ns, n < 4611686018427387904) (hch : v.ch.length ≤ 100000) (hr : w.rangeAt g 0 (ns.map kV)) :
    Calls Tryz.prog 60 #[.pointer (some ⟨a, 0, none⟩), .slice (some ⟨g, 0, none⟩) N cap] w fun e w' => e = .returned (.bool (v.may ns)) ∧ w' = w := by
  have c11 : w.cell? ⟨a, 11, none⟩ = some (.map (some mA)) := cell_at h.blk rfl
  have c4 : w.cell? ⟨a, 4, none⟩ = some (.int .i64 (v.frames : Int)) := cell_at h.blk rfl
  have hlook := fun k (hk : k < 4611686018427387904) => h.look hk
  have hlen : ∀ ty, (Builtin.len_ #[90] ty #[.map (some mA)]).run Tryz.prog w = .ok (.int .i64 (v.ch.length : Int)) w := fun ty => by
    have := run_mlen ul90 h.map ty
    rwa [List.length_map] at this
  have hfr := h.fle
  have hmay : v.may ns = decide (v.ch.length + notIn v.ch (ns.take N) < v.frames) := by
    rw [← hN, List.take_length]; rfl
  rw [hmay]
  have hnl : ∀ j, notIn v.ch (ns.take j) ≤ 2 := fun j => by
    unfold notIn
    refine Nat.le_trans (List.length_filter_le _ _) ?_
    rw [List.length_take]; omega
  obtain ⟨fr, hfrE⟩ : ∃ x, Hid (v.frames = x) := ⟨_, Hid.mk rfl⟩
  obtain ⟨cl, hcl⟩ : ∃ x, Hid (v.ch.length = x) := ⟨_, Hid.mk rfl⟩
  rw [hfrE.out] at c4 hfr ⊢
  rw [hcl.out] at hlen hch ⊢
  have hcell : ∀ (j x : Nat), ns[j]? = some x → w.cell? ⟨g, j, none⟩ = some (.int .i64 (x : Int)) := fun j x hx => by
    have := hr j (kV x) (by rw [List.getElem?_map, hx]; rfl)
    rw [Nat.zero_add] at this
    exact this
  clear h hr hmay
  go_enter Tryz.func60, Tryz.ntmps60
  go_wp2
  go_loop [5, 15] (fun t i => ∃ j : Nat, j ≤ N ∧ i = .int .i64 (j : Int) ∧ t = .int .i64 ((cl + notIn v.ch (ns.take j) : Nat) : Int)) (fun _ i => 200 - (intOf i).toNat)
  case atStart => exact ⟨0, Nat.zero_le _, rfl, by simp [notIn]⟩
  case round =>
    obtain ⟨j, hm, rfl, rfl⟩ := hrel
    have hj2 := hnl j
    by_cases hlt : (j : Int) < N
    · obtain ⟨x, hx⟩ : ∃ x, ns[j]? = some x := ⟨_, List.getElem?_eq_getElem (by omega)⟩
      have hcx := hcell j x hx
      have hlx := hlook x (hns x (List.mem_of_getElem? hx))
      have hst : notIn v.ch (ns.take (j + 1)) = notIn v.ch (ns.take j) + if x ∈ v.ch then 0 else 1 := by
        rw [List.take_add_one, hx]; exact notIn_snoc _ _ _
      have hst' := Hid.mk hst
      clear hst hcell hlook hns
      obtain ⟨q, hq⟩ : ∃ q, Hid (notIn v.ch (ns.take j) = q) := ⟨_, Hid.mk rfl⟩
      rw [hq.out] at hj2 hst' ⊢
      by_cases hxc : x ∈ v.ch
      · rw [decide_eq_true hxc] at hlx
        go_wp2
        have e := hst'.out
        rw [if_pos hxc] at e
        refine ⟨⟨j + 1, by omega, by go_num, by rw [e]; rfl⟩, ?_⟩
        simp [intOf]
        omega
      · rw [decide_eq_false hxc] at hlx
        go_wp2
        have e := hst'.out
        rw [if_neg hxc] at e
        refine ⟨⟨j + 1, by omega, by go_num, by rw [e]; go_num⟩, ?_⟩
        simp [intOf]
        omega
    · have : j = N := by omega
      subst this
      go_wp2
      go_ret
      refine ⟨?_, rfl⟩
      have e : decide ((cl : Int) + (notIn v.ch (ns.take j) : Int) < (fr : Int)) = decide (cl + notIn v.ch (ns.take j) < fr) := by
        rw [decide_eq_decide]; omega
      rw [← e]
      rfl
end Go.Proofs.YtoacaikopcdkmaaGreat

namespace Go.Proofs.YtoacaikopcdkmaaGreat
open Go.RowKit Go.Sort Go.MapKept Go.Maps Go.WideElems Go.ChangeMaps
/-- Bytes that stand in memory, or none. -/
def Src (w : World) (sv : Value) (p : List UInt8) : Prop := (p = [] ∧ sv = .slice none 0 0) ∨ ∃ g o cap, sv = .slice (some ⟨g, o, none⟩) p.length cap ∧ g < w.heap.size ∧ w.rangeAt g o (byC p)
theorem Src.form {w sv p} (h : Src w sv p) : ∃ sp cap, sv = .slice sp p.length cap ∧ (0 < (byC p).length → ∃ g o, sp = some ⟨g, o, none⟩ ∧ g < w.heap.size ∧ w.rangeAt g o (byC p)) := by
  rcases h with ⟨rfl, rfl⟩ | ⟨g, o, cap, rfl, hg, hr⟩
  · exact ⟨none, 0, rfl, fun h => absurd h (by simp [byC])⟩
  · exact ⟨_, cap, rfl, fun _ => ⟨g, o, rfl, hg, hr⟩⟩
theorem splice_fill (p : List UInt8) (h : p.length ≤ 496) : splice (List.replicate 496 (Value.int .u8 0)) 0 (byC p) = byC (Vm.fill 496 p) := by
  unfold splice Vm.fill
  rw [List.take_zero, List.nil_append, Nat.zero_add, byC_len, List.drop_replicate, byC_app]
  congr 1
  simp [byC]
/-- Cache.Put. -/
theorem c_cput (κ : Nat → Nat) (c a n k : Nat) (d : Bool) (v : Value) (p : List UInt8) (L : List Vm.En) (w : World) (h : CacheAt κ c w a n L) (hz : Cz κ w) (hk : k < 4611686018427387904) (hv : PgV κ w v p) (hr : L.length = n → L.any Vm.freeE = true) :
    Calls Tryz.prog 98 #[.pointer (some ⟨a, 0, none⟩), .int .i64 (k : Int), v, .bool d] w fun e w' => e = .returned (.int .i64 0) ∧ ∃ κ', CacheAt κ' c w' a n (Vm.putL k p d n L) ∧ To (Cc c) κ κ' w w' ∧ Cz κ' w' := by
  cases hf : Vm.fnd k L with
  | none => exact c_cput0 κ c a n k d v p L w h hz hk hv hf hr
  | some en =>
    refine (c_cput1 κ c a n k d v p L en w h hv hf).mono ?_
    rintro e w' ⟨rfl, h1, h2⟩
    exact ⟨rfl, κ, h1, h2, h2.cz hz⟩
theorem VB.setL {κ κ' c w w' a dA cA tA mA tk wv v d} (h : VB κ c w a dA cA tA mA tk wv v d) {L : List Vm.En} (hL : CacheAt κ' (c + 4) w' cA v.frames L) (t : To (Cc (c + 4)) κ κ' w w') (hc0 : 1 ≤ c) : VB κ' c w' a dA cA tA mA tk wv { v with L := L } d := by
  have t' : ∀ j, ¬ (c + 4 ≤ j ∧ j < c + 7) → ¬ Cc (c + 4) j := fun j hj e => hj ⟨e.1, e.2⟩
  have s8 : ¬ Cc (c + 4) (κ a) := t' _ (by rw [h.col]; omega)
  have sm : ¬ Cc (c + 4) (κ mA) := t' _ (by rw [h.colm]; omega)
  exact ⟨(t.col a h.lt s8).trans h.col, (t.blk a h.lt s8).trans h.blk, hL, h.tape.to t (t' _ (by omega)), h.tok, h.rtk.to t (t' _ (by omega)), h.tkl, fun hb => ⟨(h.was hb).1.to t (t' _ (by omega)), (h.was hb).2⟩, (t.col mA h.map.lt sm).trans h.colm, h.map.to t sm, h.drum.to t fun j hj => t' _ (by have := hj.2; omega)⟩
theorem VB.setM {κ c w w' a dA cA tA mA tk wv v d} (h : VB κ c w a dA cA tA mA tk wv v d) {ch : List Nat} (hM : MapB w' mA (ch.map fun k => (k, .bool true))) (t : To (fun j => j = c + 10) κ κ w w') (hc0 : 1 ≤ c) : VB κ c w' a dA cA tA mA tk wv { v with ch := ch } d := by
  have s8 : ¬ (κ a = c + 10) := by rw [h.col]; omega
  exact ⟨h.col, (t.blk a h.lt s8).trans h.blk, h.cache.to t (fun j hj => by have := hj.2; omega) (by omega), h.tape.to t (by omega), h.tok, h.rtk.to t (by omega), h.tkl, fun hb => ⟨(h.was hb).1.to t (by omega), (h.was hb).2⟩, h.colm, hM, h.drum.to t fun j hj => by have := hj.2; omega⟩
theorem look_ch2 (k : Nat) (ch : List Nat) : (lookM k (ch.map fun k => (k, Value.bool true))).isSome = decide (k ∈ ch) := by
  induction ch with
  | nil => simp [lookM]
  | cons x ch ih =>
    unfold lookM at ih ⊢
    by_cases h : x = k
    · subst h; simp
    · rw [List.map_cons, List.find?_cons_of_neg (by simpa using h), ih]
      simp [Ne.symm h]
theorem put_ch (k : Nat) (ch : List Nat) : putM k (.bool true) (ch.map fun k => (k, Value.bool true)) = (Vm.chAdd k ch).map fun k => (k, Value.bool true) := by
  unfold putM Vm.chAdd
  rw [look_ch2]
  by_cases h : k ∈ ch
  · rw [decide_eq_true h, if_pos rfl, if_pos h, List.map_map]
    refine List.map_congr_left fun x hx => ?_
    show (if x = k then (k, Value.bool true) else (x, Value.bool true)) = (x, Value.bool true)
    split
    · rename_i e; rw [e]
    · rfl
  · rw [decide_eq_false h, if_neg (by simp), if_neg h, List.map_append]; rfl
theorem VB.cells {κ c w a dA cA tA mA tk wv v d} (h : VB κ c w a dA cA tA mA tk wv v d) : w.cell? ⟨a, 11, none⟩ = some (.map (some mA)) ∧ w.cell? ⟨a, 5, none⟩ = some (.pointer (some ⟨cA, 0, none⟩)) := ⟨cell_at h.blk rfl, cell_at h.blk rfl⟩
set_option maxRecDepth 100000 in
set_option maxHeartbeats 3200000 in
theorem c_vset {κ c w a dA v d} (h : VAt κ c w a dA v d) (hz : Cz κ w) (hc0 : 1 ≤ c) (n : Nat) (hn : n < 4611686018427387904) (sv : Value) (p : List UInt8) (hp : p.length ≤ 496) (hs : Src w sv p) (hr : v.L.length = v.frames → v.L.any Vm.freeE = true) :
    Calls Tryz.prog 62 #[.pointer (some ⟨a, 0, none⟩), .int .i64 (n : Int), sv] w fun e w' => e = .returned (.tuple #[]) ∧ ∃ κ', VAt κ' c w' a dA (v.put n p) d ∧ To (Vc c) κ κ' w w' ∧ Cz κ' w' := by
  obtain ⟨cA, tA, mA, tk, wv, h⟩ := h
  obtain ⟨sp, cap, rfl, hsrc⟩ := hs.form
  obtain ⟨Z, hZ, hMk⟩ := makeZ 496 496 (by decide) (by decide)
  have hMk' : ∀ W : World, (Instr.makeSlice 22 (.int .i64 496) (.int .i64 496)).run Tryz.prog W = .ok (.slice (some ⟨W.heap.size, 0, none⟩) 496 496) (W.alloc (.cells Z 5)) := hMk
  obtain ⟨pl, hpl⟩ : ∃ pl, Hid (pl = p.length) := ⟨_, Hid.mk rfl⟩
  obtain ⟨B, hB⟩ : ∃ B, Hid (B = w.heap.size) := ⟨_, Hid.mk rfl⟩
  have hZ' := Hid.mk hZ
  have h' := Hid.mk h
  have hz' := Hid.mk hz
  have hr' := Hid.mk hr
  have hsrc' := Hid.mk hsrc
  have hi5 : Hid ((Tryz.prog.info? 5).map (·.size) = some 1) := by show _ = _; kernel_rfl
  clear hMk hZ h hz hs hsrc hr
  rw [← hpl.out]
  -- the world behind the copy
  have hcp : ∀ w2, Hid (w2.heap[w.heap.size]? = some (.cells (splice (List.replicate 496 (Value.int .u8 0)) 0 (byC p)).toArray 5 (0, 0))) → Below w.heap.size w w2 →
      w2.cell? ⟨a, 11, none⟩ = some (.map (some mA)) ∧ w2.cell? ⟨a, 5, none⟩ = some (.pointer (some ⟨cA, 0, none⟩)) ∧ Hid (VB κ c w2 a dA cA tA mA tk wv v d) ∧ Hid (PgV κ w2 (.slice (some ⟨w.heap.size, 0, none⟩) 496 496) (Vm.fill 496 p)) ∧ Hid (Cz κ w2) ∧ Hid (To No κ κ w w2) := by
    intro w2 hw2 hb
    have t : To No κ κ w w2 := To.of_below _ _ hb
    have H2 := h'.out.to t (fun _ _ h => h) (fun h => h)
    have hb0 := (Array.getElem?_eq_some_iff.1 hw2.out).1
    have hfl : (Vm.fill 496 p).length = 496 := Vm.fill_len hp
    refine ⟨H2.cells.1, H2.cells.2, Hid.mk H2, Hid.mk ⟨w.heap.size, 496, by rw [hfl], by rw [hfl]; omega, hz'.out _ (Nat.le_refl _), hb0, fun j u hj => ?_⟩, Hid.mk (t.cz hz'.out), Hid.mk t⟩
    rw [← splice_fill p hp] at hj
    rw [Nat.zero_add]
    exact cell_at hw2.out (by rw [List.getElem?_toArray]; exact hj)
  have hend : ∀ w2 ob, Hid (VB κ c w2 a dA cA tA mA tk wv v d) → Hid (PgV κ w2 (.slice (some ⟨w.heap.size, 0, none⟩) 496 496) (Vm.fill 496 p)) → Hid (Cz κ w2) → Hid (To No κ κ w w2) → MapB (setBlock w2 mA ob) mA (putM n (.bool true) (v.ch.map fun k => (k, .bool true))) →
      ∃ w3, Hid (w3 = setBlock w2 mA ob) ∧ w3.cell? ⟨a, 5, none⟩ = some (.pointer (some ⟨cA, 0, none⟩)) ∧
      Calls Tryz.prog 98 #[.pointer (some ⟨cA, 0, none⟩), .int .i64 (n : Int), .slice (some ⟨B, 0, none⟩) 496 496, .bool true] w3 fun e w' => e = .returned (.int .i64 0) ∧ Hid (∃ κ', VAt κ' c w' a dA (v.put n p) d ∧ To (Vc c) κ κ' w w' ∧ Cz κ' w') := by
    intro w2 ob H2 P2 Z2 T2 hM
    have t : To (fun j => j = c + 10) κ κ w2 (setBlock w2 mA ob) := (To.refl _ κ w2).setB mA ob (fun _ => H2.out.colm)
    rw [put_ch] at hM
    have H3 := H2.out.setM hM t hc0
    refine ⟨_, Hid.mk rfl, H3.cells.2, ?_⟩
    rw [hB.out]
    refine (c_cput κ (c + 4) cA v.frames n true _ (Vm.fill 496 p) v.L _ H3.cache (t.cz Z2.out) hn (P2.out.to t (by omega)) hr'.out).mono ?_
    rintro e w' ⟨rfl, κ', h1, h2, h3⟩
    refine ⟨rfl, Hid.mk ⟨κ', ⟨cA, tA, mA, tk, wv, H3.setL h1 h2 hc0⟩, ?_, h3⟩⟩
    exact ((T2.out.mono fun j hj => absurd hj id).trans (t.mono fun j hj => ⟨by omega, by omega⟩)).trans (h2.mono fun j hj => ⟨by have := hj.1; omega, by have := hj.2; omega⟩)
  go_enter Tryz.func62, Tryz.ntmps62
  go_wp2_with (first
    | (refine wpList_copy_splice (o := ⟨some 10, _, _, _, _, _⟩) rfl (.tmp 8) (.tmp 9) 22 22 rfl 5 Tryz.underlying22 hi5.out (some ⟨w.heap.size, 0, none⟩) sp 496 496 pl cap rfl rfl w.heap.size 0 (List.replicate 496 (Value.int .u8 0)) 5 (by rw [← hZ'.out]; exact heap_alloc_new w _) (byC p) (by rw [byC_len, hpl.out]; exact (Nat.min_eq_left hp).symm) (fun hpos => ⟨rfl, by
          obtain ⟨g, o, h1, h2, h3⟩ := hsrc'.out hpos
          exact ⟨_, h1, src_mid (rangeAt_below h3 ((Below.refl _ _).alloc (Nat.le_refl _) _) h2)⟩⟩) (by rw [byC_len, List.length_replicate]; omega) (byC_one _) w.heap.size w ((Below.refl _ _).alloc (Nat.le_refl _) _) (Nat.le_refl _) ?_
       intro w2 hw2 hb2
       obtain ⟨c11, c5, H2, P2, Z2, T2⟩ := hcp w2 hw2 hb2
       rw [← hB.out]
       clear hw2 hb2)
    | (at_mapUpdate; refine wpList_mput _ rfl _ _ _ 90 rfl 3 4 ul90 ul3 mA _ rfl H2.out.map n hn rfl (.bool true) rfl ?_; intro ob hM; obtain ⟨w3, hw3, c5', hC⟩ := hend _ ob H2 P2 Z2 T2 hM; rw [← hw3.out]; clear hM c11 c5)
    | (go_at_call 98; refine hC.mono ?_; rintro e w4 ⟨rfl, hD⟩))
  go_end0
  exact ⟨rfl, hD.out⟩
end Go.Proofs.YtoacaikopcdkmaaGreat
