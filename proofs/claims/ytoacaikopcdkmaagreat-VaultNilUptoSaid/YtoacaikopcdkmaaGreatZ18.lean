/- The cache in memory: Put. The cache in memory: Put of a new entry, the walk. No condition. -/
import Derived.Test.YtoacaikopcdkmaaGreatZ17
import Derived.Deep.CutRange
import Derived.Deep.RegionLaw
set_option linter.unusedSimpArgs false
set_option linter.unusedVariables false
namespace Go.Proofs.YtoacaikopcdkmaaGreat
open Go.RowKit Go.Sort Go.MapKept Go.Maps Go.WideElems Go.ChangeMaps
theorem putL_old {l1 l2 : List Nd} {x : Nd} {p : List UInt8} {d : Bool} {n : Nat} (hn : ((l1 ++ x :: l2).map (·.key)).Nodup) (hf : Vm.fnd x.key ((l1 ++ x :: l2).map Nd.en) = some x.en) :
    Vm.putL x.key p d n ((l1 ++ x :: l2).map Nd.en) = (l1 ++ l2).map Nd.en ++ [⟨x.key, p, x.dirty || d⟩] := by
  unfold Vm.putL
  rw [hf]
  simp only
  rw [rem_split hn]; rfl
/-- The entry that is found takes the value. -/
theorem c_cput1 (κ : Nat → Nat) (c a n k : Nat) (d : Bool) (v : Value) (p : List UInt8) (L : List Vm.En) (en : Vm.En) (w : World) (h : CacheAt κ c w a n L) (hv : PgV κ w v p) (hf : Vm.fnd k L = some en) :
    Calls Tryz.prog 98 #[.pointer (some ⟨a, 0, none⟩), .int .i64 (k : Int), v, .bool d] w fun e w' => e = .returned (.int .i64 0) ∧ CacheAt κ c w' a n (Vm.putL k p d n L) ∧ To (Cc c) κ κ w w' := by
  obtain ⟨m, r, M, R, h, rfl⟩ := h
  rcases fnd_case k R with h0 | ⟨l1, x, l2, rfl, rfl, h1⟩
  · rw [hf] at h0; cases h0.1
  rw [putL_old h.keys h1]
  have hx : x ∈ l1 ++ x :: l2 := by simp
  have cF := h.find1 hx
  have hE : ∃ p q, w.heap[x.b]? = some (.cells (eC x p q) 149 (0, 0)) := by
    obtain ⟨nx, pv, hR⟩ := h.ring
    exact ⟨_, _, hR.ents x (List.mem_cons_of_mem _ hx)⟩
  obtain ⟨q1, q2, hE⟩ := hE
  have c1 : w.cell? ⟨x.b, 1, none⟩ = some x.v := cell_at hE rfl
  have c2 : w.cell? ⟨x.b, 2, none⟩ = some (.bool x.dirty) := cell_at hE rfl
  have f1 : w.frozen? ⟨x.b, 1, none⟩ = false := frozen_at hE
  have f2 : w.frozen? ⟨x.b, 2, none⟩ = false := frozen_at hE
  have hend : ∀ W, W = (w.setCell ⟨x.b, 1, none⟩ v).setCell ⟨x.b, 2, none⟩ (.bool (x.dirty || d)) → Calls Tryz.prog 114 #[.pointer (some ⟨a, 0, none⟩), .pointer (some ⟨x.b, 0, none⟩)] W fun e w' => e = .returned (.tuple #[]) ∧ Hid (CacheAt κ c w' a n ((l1 ++ l2).map Nd.en ++ [⟨x.key, p, x.dirty || d⟩]) ∧ To (Cc c) κ κ w w') := by
    rintro W rfl
    have hcx := h.colr x (List.mem_cons_of_mem _ hx)
    have t : To (fun j => j = c + 2) κ κ w ((w.setCell ⟨x.b, 1, none⟩ v).setCell ⟨x.b, 2, none⟩ (.bool (x.dirty || d))) := ((To.refl _ κ w).setCell _ (fun _ => hcx)).setCell _ (fun _ => hcx)
    have hC := h.set (x' := { x with val := p, v := v, dirty := x.dirty || d }) rfl rfl t (hv.to t (by omega)) (fun b hb => (Below.heap_setCell _ _ _ _ hb).trans (Below.heap_setCell _ _ _ _ hb)) (fun p q e => heap_setCell_at (i := 2) _ (heap_setCell_at (i := 1) _ e))
    refine hC.use.mono ?_
    rintro e w' ⟨rfl, hC2, hT⟩
    refine ⟨rfl, Hid.mk ⟨⟨m, r, M, _, hC2, ?_⟩, (t.trans hT).mono fun j e => by unfold Cc; omega⟩⟩
    rw [List.map_append]; rfl
  obtain ⟨g, cap, rfl, -⟩ := hv
  clear h h1 hx hf hE
  cases hd : x.dirty with
  | true =>
    rw [hd] at c2 hend
    rw [Bool.true_or] at hend ⊢
    clear hd
    go_enter Tryz.func98, Tryz.ntmps98
    go_wp2_with (first | (go_at_call 113; refine cF.mono ?_; rintro e w1 ⟨rfl, rfl⟩) | (go_at_call 114; refine (hend _ rfl).mono ?_; rintro e w2 ⟨rfl, hD⟩))
    go_ret
    exact ⟨rfl, hD.out.1, hD.out.2⟩
  | false =>
    rw [hd] at c2 hend
    rw [Bool.false_or] at hend ⊢
    clear hd
    go_enter Tryz.func98, Tryz.ntmps98
    go_wp2_with (first | (go_at_call 113; refine cF.mono ?_; rintro e w1 ⟨rfl, rfl⟩) | (go_at_call 114; refine (hend _ rfl).mono ?_; rintro e w2 ⟨rfl, hD⟩))
    go_ret
    exact ⟨rfl, hD.out.1, hD.out.2⟩
/-- The list where a new entry goes in. -/
def roomL (n : Nat) (L : List Vm.En) : List Vm.En := if L.length = n then L.eraseP Vm.freeE else L
theorem putL_new {k : Nat} {p : List UInt8} {d : Bool} {n : Nat} {L : List Vm.En} (hf : Vm.fnd k L = none) (hr : L.length = n → L.any Vm.freeE = true) : Vm.putL k p d n L = roomL n L ++ [⟨k, p, d⟩] := by
  unfold Vm.putL roomL
  rw [hf]
  simp only
  by_cases h : L.length = n
  · rw [if_pos h, if_pos h, if_pos (hr h)]
  · rw [if_neg h, if_neg h]
/-- There is room, and no entry of the key k. -/
structure PutMid (κ : Nat → Nat) (c : Nat) (w wx : World) (a n m r k : Nat) (L : List Vm.En) (M : List (Nat × Value)) (R : List Nd) : Prop where
  cb : CB κ c wx a n m r M R
  eq : R.map Nd.en = L
  tt : To (fun j => j = c + 1 ∨ j = c + 2) κ κ w wx
  len : R.length < n
  keys : ∀ x ∈ R, x.key ≠ k
theorem putM_new {k : Nat} {v : Value} {M : List (Nat × Value)} (h : lookM k M = none) : putM k v M = M ++ [(k, v)] := by
  unfold putM; rw [h, if_neg (by simp)]
/-- A new entry goes in. -/
theorem put_new {κ : Nat → Nat} {c : Nat} {w wx : World} {a n m r k : Nat} {L : List Vm.En} {M : List (Nat × Value)} {R : List Nd} (H : PutMid κ c w wx a n m r k L M R) (hz : Cz κ wx) (hk : k < 4611686018427387904) (d : Bool) (v : Value) (p : List UInt8) (hv : PgV κ wx v p) (ob : Obj) (xb : Nat) (hxb : xb = wx.heap.size)
    (V : World) (hV : V = setBlock (wx.alloc (.cells #[.int .i64 (k : Int), .slice none 0 0, .bool false, .int .i64 0, .pointer none, .pointer none] 149)) m ob) (hM : MapB V m (putM k (pB xb) M)) (W : World) (hW : W = (V.setCell ⟨xb, 1, none⟩ v).setCell ⟨xb, 2, none⟩ (.bool d)) :
    Calls Tryz.prog 114 #[.pointer (some ⟨a, 0, none⟩), .pointer (some ⟨xb, 0, none⟩)] W fun e w' => e = .returned (.tuple #[]) ∧ ∃ κ', CacheAt κ' c w' a n (L ++ [⟨k, p, d⟩]) ∧ To (Cc c) κ κ' w w' ∧ Cz κ' w' := by
  obtain ⟨κ', hκ⟩ : ∃ κ' : Nat → Nat, κ' = fun b => if b = xb then c + 2 else κ b := ⟨_, rfl⟩
  have k1 : κ' xb = c + 2 := by rw [hκ]; exact if_pos rfl
  have k2 : ∀ b, b < wx.heap.size → κ' b = κ b := fun b hb => by rw [hκ]; exact if_neg (by omega)
  have C := H.cb
  have hml : m < wx.heap.size := C.map.lt
  have hN : (wx.alloc (.cells #[.int .i64 (k : Int), .slice none 0 0, .bool false, .int .i64 0, .pointer none, .pointer none] 149)).heap[xb]? = some (.cells #[.int .i64 (k : Int), .slice none 0 0, .bool false, .int .i64 0, .pointer none, .pointer none] 149 (0, 0)) := by rw [hxb]; exact heap_alloc_new wx _
  have hVx : V.heap[xb]? = some (.cells #[.int .i64 (k : Int), .slice none 0 0, .bool false, .int .i64 0, .pointer none, .pointer none] 149 (0, 0)) := by
    rw [hV]
    have : (setBlock (wx.alloc (.cells #[.int .i64 (k : Int), .slice none 0 0, .bool false, .int .i64 0, .pointer none, .pointer none] 149)) m ob).heap[xb]? = (wx.alloc (.cells #[.int .i64 (k : Int), .slice none 0 0, .bool false, .int .i64 0, .pointer none, .pointer none] 149)).heap[xb]? := by
      unfold setBlock
      simp only
      rw [Array.getElem?_setIfInBounds_ne (by omega)]
    rw [this]; exact hN
  have hWx : W.heap[xb]? = some (.cells (eX ⟨k, p, d, xb, v⟩ (.pointer none) (.pointer none)) 149 (0, 0)) := by
    rw [hW]; exact heap_setCell_at (i := 2) _ (heap_setCell_at (i := 1) _ hVx)
  have tV : To (fun j => j = c + 1) κ κ wx V := by
    rw [hV]; exact ((To.refl _ κ wx).alloc _).setB m ob (fun _ => C.colm)
  have tW : To (fun j => j = c + 1) κ κ wx W := by
    rw [hW]; exact (tV.setCell _ (fun h => absurd h (by simp only; omega))).setCell _ (fun h => absurd h (by simp only; omega))
  have tW' : To (fun j => j = c + 1) κ' κ' wx W := ⟨tW.os, tW.tape, tW.output, tW.size, fun _ _ _ => rfl, fun b hb hn => tW.blk b hb (by rw [← k2 b hb]; exact hn)⟩
  have C' : CB κ' c wx a n m r M R := ⟨(k2 a C.lt).trans C.col, (k2 m hml).trans C.colm, fun y hy => (k2 y.b (C.ring.lt hy)).trans (C.colr y hy), C.blk, C.map, C.perm, C.ring, fun y hy => (C.rows y hy).recol k2, C.len, C.le⟩
  have hring : RingAt W r R := C'.ring.to tW' fun y hy => by rw [C'.colr y hy]; omega
  have haW : W.heap[a]? = wx.heap[a]? := tW.blk a C.lt (by rw [C.col]; omega)
  have hxR : xb ∉ r :: R.map (·.b) := fun h => by
    have : xb < wx.heap.size := by
      rcases List.mem_cons.1 h with e | h
      · rw [e]; exact C.ring.lt (x := rN r) List.mem_cons_self
      · obtain ⟨y, hy, e⟩ := List.mem_map.1 h
        rw [← e]; exact C.ring.lt (List.mem_cons_of_mem _ hy)
    omega
  have cO : Calls Tryz.prog 119 #[.pointer (some ⟨xb, 0, none⟩)] W fun e w' => e = .returned (.tuple #[]) ∧ RingAt w' r R ∧ (∃ u4 u5, w'.heap[xb]? = some (.cells (eX ⟨k, p, d, xb, v⟩ u4 u5) 149 (0, 0))) ∧ To (fun j => j = c + 2) κ' κ' W w' :=
    (c_out0 xb W (cell_at hWx rfl)).mono (by rintro e w' ⟨rfl, rfl⟩; exact ⟨rfl, hring, ⟨_, _, hWx⟩, .refl _ _ _⟩)
  have hak : κ' a ≠ c + 2 := by rw [C'.col]; omega
  refine (c_use κ' (c + 2) a r R ⟨k, p, d, xb, v⟩ W (cell_at (haW.trans C.blk) rfl) (Nat.lt_of_lt_of_le C.lt tW.size) hak cO hxR C'.colr k1).mono ?_
  rintro e w' ⟨rfl, hR, hT⟩
  have hMW : MapB w' m (M ++ [(k, pB xb)]) := by
    have h0 : MapB V m (M ++ [(k, pB xb)]) := by rw [putM_new (C.look0 H.keys)] at hM; exact hM
    have tX : To (fun j => j = c + 2) κ' κ' V W := by
      rw [hW]; exact ((To.refl _ κ' V).setCell _ (fun _ => k1)).setCell _ (fun _ => k1)
    exact (h0.to tX (by rw [C'.colm]; omega)).to hT (by rw [C'.colm]; omega)
  have hall : To (Cc c) κ κ' w w' := by
    have h1 : To (Cc c) κ κ w wx := H.tt.mono fun j e => by unfold Cc; omega
    have h2 : To (Cc c) κ κ' wx W := ⟨tW.os, tW.tape, tW.output, tW.size, fun b hb _ => k2 b hb, fun b hb hn => tW.blk b hb (fun e => hn (by rw [e]; unfold Cc; omega))⟩
    have h3 : To (Cc c) κ' κ' W w' := hT.mono fun j e => by unfold Cc; omega
    exact (h1.trans h2).trans h3
  have tAll : To (fun j => j = c + 1 ∨ j = c + 2) κ' κ' wx w' := (tW'.mono fun j e => .inl e).trans (hT.mono fun j e => .inr e)
  refine ⟨rfl, κ', ⟨m, r, M ++ [(k, pB xb)], R ++ [⟨k, p, d, xb, v⟩], ⟨C'.col, C'.colm, fun y hy => ?_, (tAll.blk a C.lt (by rw [C'.col]; omega)).trans C.blk, hMW, ?_, hR, fun y hy => ?_, by rw [List.length_append, List.length_singleton]; exact H.len, C.le⟩, by rw [List.map_append, H.eq]; rfl⟩, hall, fun b hb => ?_⟩
  · rcases List.mem_cons.1 hy with rfl | hy
    · exact C'.colr _ List.mem_cons_self
    · rcases List.mem_append.1 hy with hy | hy
      · exact C'.colr y (List.mem_cons_of_mem _ hy)
      · rw [List.mem_singleton.1 hy]; exact k1
  · rw [List.map_append]; exact C.perm.append_right _
  · rcases List.mem_append.1 hy with hy | hy
    · exact (C'.rows y hy).to tAll (by omega)
    · rw [List.mem_singleton.1 hy]; exact (hv.recol k2).to tAll (by omega)
  · have h1 := tAll.size
    have h2 : W.heap.size ≤ w'.heap.size := hT.size
    have h3 : wx.heap.size < W.heap.size := by
      have := (Array.getElem?_eq_some_iff.1 hWx).1
      omega
    rw [hκ]
    simp only
    rw [if_neg (by omega)]
    exact hz b (by omega)
end Go.Proofs.YtoacaikopcdkmaaGreat

namespace Go.Proofs.YtoacaikopcdkmaaGreat
open Go.RowKit Go.Sort Go.MapKept Go.Maps Go.WideElems Go.ChangeMaps
theorem room_split {l1 l2 : List Nd} {x : Nd} (hd : x.dirty = false) (h1 : ∀ y ∈ l1, y.dirty = true) : ((l1 ++ x :: l2).map Nd.en).eraseP Vm.freeE = (l1 ++ l2).map Nd.en := by
  rw [List.map_append, List.map_cons, List.eraseP_append_right, List.eraseP_cons_of_pos, List.map_append]
  · show (!x.dirty) = true
    rw [hd]; rfl
  · intro e he
    obtain ⟨y, hy, rfl⟩ := List.mem_map.1 he
    show ¬ (!y.dirty) = true
    rw [h1 y hy]; simp
theorem put_cells {wc : World} {m k : Nat} (hm : m < wc.heap.size) (ob : Obj) {xb : Nat} (hxb : xb = wc.heap.size) : ∃ V, Hid (V = setBlock (wc.alloc (.cells #[.int .i64 (k : Int), .slice none 0 0, .bool false, .int .i64 0, .pointer none, .pointer none] 149)) m ob) ∧
    V.cell? ⟨xb, 1, none⟩ = some (.slice none 0 0) ∧ V.cell? ⟨xb, 2, none⟩ = some (.bool false) ∧ V.frozen? ⟨xb, 1, none⟩ = false ∧ V.frozen? ⟨xb, 2, none⟩ = false := by
  subst hxb
  have hVx : (setBlock (wc.alloc (.cells #[.int .i64 (k : Int), .slice none 0 0, .bool false, .int .i64 0, .pointer none, .pointer none] 149)) m ob).heap[wc.heap.size]? = some (.cells #[.int .i64 (k : Int), .slice none 0 0, .bool false, .int .i64 0, .pointer none, .pointer none] 149 (0, 0)) := by
    unfold setBlock
    simp only
    rw [Array.getElem?_setIfInBounds_ne (by omega)]
    exact heap_alloc_new wc _
  exact ⟨_, Hid.mk rfl, cell_at hVx rfl, cell_at hVx rfl, frozen_at hVx, frozen_at hVx⟩
set_option maxRecDepth 100000 in
theorem c_cput0 (κ : Nat → Nat) (c a n k : Nat) (d : Bool) (v : Value) (p : List UInt8) (L : List Vm.En) (w : World) (h : CacheAt κ c w a n L) (hz : Cz κ w) (hk : k < 4611686018427387904) (hv : PgV κ w v p) (hf : Vm.fnd k L = none) (hr : L.length = n → L.any Vm.freeE = true) :
    Calls Tryz.prog 98 #[.pointer (some ⟨a, 0, none⟩), .int .i64 (k : Int), v, .bool d] w fun e w' => e = .returned (.int .i64 0) ∧ ∃ κ', CacheAt κ' c w' a n (Vm.putL k p d n L) ∧ To (Cc c) κ κ' w w' ∧ Cz κ' w' := by
  rw [putL_new hf hr]
  obtain ⟨m, r, M, R, h, rfl⟩ := h
  have h0 : ∀ x ∈ R, x.key ≠ k := by
    rcases fnd_case k R with h | ⟨l1, x, l2, _, _, h⟩
    · exact h.2
    · rw [hf] at h; cases h
  have cF := h.find0 hk h0
  have ca0 : w.cell? ⟨a, 0, none⟩ = some (.int .i64 (n : Int)) := cell_at h.blk rfl
  have ca1 : w.cell? ⟨a, 1, none⟩ = some (.map (some m)) := cell_at h.blk rfl
  have hMl : M.length = R.length := by have := h.perm.length_eq; simpa using this
  have hlen : ∀ q ty, (Builtin.len_ #[146] ty #[.map (some m)]).run Tryz.prog (w.drewN q) = .ok (.int .i64 (R.length : Int)) (w.drewN q) := fun q ty => by
    rw [← hMl]
    exact run_mlen (w := w.drewN q) ul146 (show MapB (w.drewN q) m M from h.map) ty
  have hlen2 : ∀ ty, (Builtin.len_ #[146] ty #[.map (some m)]).run Tryz.prog w.drew = .ok (.int .i64 (R.length : Int)) w.drew := fun ty => by
    rw [← hMl]
    exact run_mlen (w := w.drew) ul146 (show MapB w.drew m M from h.map) ty
  have hdr : ∀ q, To (fun j => j = c + 1 ∨ j = c + 2) κ κ w (w.drewN q) := fun q => ⟨rfl, rfl, rfl, Nat.le_refl _, fun _ _ _ => rfl, fun _ _ _ => rfl⟩
  have cR : R.length = n → Calls Tryz.prog 134 #[.pointer (some ⟨a, 0, none⟩)] w.drew fun e w' => e = .returned (.bool true) ∧ w'.cell? ⟨a, 0, none⟩ = some (.int .i64 (n : Int)) ∧ w'.cell? ⟨a, 1, none⟩ = some (.map (some m)) ∧ Hid (∃ M' R', PutMid κ c w w' a n m r k (roomL n (R.map Nd.en)) M' R') := fun hRn => by
    have hL : (R.map Nd.en).length = n := by rw [List.length_map]; exact hRn
    have hd := h.to (S := No) (κ' := κ) (w' := w.drew) ⟨rfl, rfl, rfl, Nat.le_refl _, fun _ _ _ => rfl, fun _ _ _ => rfl⟩ (fun _ _ h => h) (fun h => h)
    refine (hd.room (hr hL)).mono ?_
    rintro e w' ⟨rfl, x, l1, l2, rfl, hx, h1, hC, hT⟩
    have hT' : To (fun j => j = c + 1 ∨ j = c + 2) κ κ w w' := (hdr 1).trans hT
    refine ⟨rfl, cell_at hC.blk rfl, cell_at hC.blk rfl, Hid.mk ⟨_, _, hC, ?_, hT', ?_, fun y hy => h0 y ?_⟩⟩
    · unfold roomL
      rw [if_pos hL, room_split hx h1]
    · rw [← hRn]; simp
    · rcases List.mem_append.1 hy with hy | hy
      · exact List.mem_append_left _ hy
      · exact List.mem_append_right _ (List.mem_cons_of_mem _ hy)
  obtain ⟨N, hN⟩ : ∃ N, Hid (N = R.length) := ⟨_, Hid.mk rfl⟩
  rw [← hN.out] at hlen hlen2 cR
  have hNn : N ≤ n := by rw [hN.out]; exact h.len
  have h' := Hid.mk h
  have hz' := Hid.mk hz
  have hv' := Hid.mk hv
  have hf' := Hid.mk hf
  have hr' := Hid.mk hr
  have h0' := Hid.mk h0
  obtain ⟨g, cap, rfl, -⟩ := hv
  obtain ⟨pl, hpl⟩ : ∃ pl, Hid (pl = p.length) := ⟨_, Hid.mk rfl⟩
  rw [← hpl.out] at hv' ⊢
  clear h hf h0 hr hMl hz
  go_enter Tryz.func98, Tryz.ntmps98
  go_wp2_with (go_at_call 113; refine cF.mono ?_; rintro e w1 ⟨rfl, rfl⟩)
  go_cut [31] from 17 to 31 (fun s wx => s = .bool false ∧ Hid (∃ M' R', PutMid κ c w1 wx a n m r k (roomL n (R.map Nd.en)) M' R'))
  case first =>
    by_cases hN2 : N = n
    · subst hN2
      have hee : ((N : Int) == (N : Int)) = true := beq_self_eq_true _
      have cR' := cR rfl
      clear cR
      have hSw : (fun w' : World => w'.cell? ⟨a, 0, none⟩ = some (.int .i64 (N : Int)) ∧ w'.cell? ⟨a, 1, none⟩ = some (.map (some m))) w1.drew := ⟨by first | assumption | (simp; assumption), by first | assumption | (simp; assumption)⟩
      refine wp_region_held_drew (S := (fun w' : World => w'.cell? ⟨a, 0, none⟩ = some (.int .i64 (N : Int)) ∧ w'.cell? ⟨a, 1, none⟩ = some (.map (some m)))) (by kernel_rfl) hSw (fun hHeld => ?_)
      refine wpAnyH_take (i := 0) (oi := _) (v := ?v0) rfl (by kernel_rfl) (by kernel_rfl) (by kernel_rfl) (fun _ _ _ h => h) (Or.inl ⟨by rfl, ?hy0⟩) hSw ?r0
      case hy0 =>
        intro w hSw
        obtain ⟨h1, h2⟩ := hSw
        go_simp
        try rfl
      try simp only [Act.put, List.setIfInBounds_toArray, List.set_cons_zero, List.set_cons_succ]
      refine wpAnyH_take (i := 1) (oi := _) (v := ?v1) rfl (by kernel_rfl) (by kernel_rfl) (by kernel_rfl) (fun _ _ _ h => h) (Or.inl ⟨by rfl, ?hy1⟩) hSw ?r1
      case hy1 =>
        intro w hSw
        obtain ⟨h1, h2⟩ := hSw
        go_simp
        try rfl
      try simp only [Act.put, List.setIfInBounds_toArray, List.set_cons_zero, List.set_cons_succ]
      refine wpAnyH_take (i := 2) (oi := _) (v := ?v2) rfl (by kernel_rfl) (by kernel_rfl) (by kernel_rfl) (fun _ _ _ h => h) (Or.inl ⟨by rfl, ?hy2⟩) hSw ?r2
      case hy2 =>
        intro w hSw
        obtain ⟨h1, h2⟩ := hSw
        go_simp
        try rfl
      try simp only [Act.put, List.setIfInBounds_toArray, List.set_cons_zero, List.set_cons_succ]
      refine wpAnyH_take (i := 3) (oi := _) (v := ?v3) rfl (by kernel_rfl) (by kernel_rfl) (by kernel_rfl) (fun _ _ _ h => h) (Or.inl ⟨by rfl, ?hy3⟩) hSw ?r3
      case hy3 =>
        intro w hSw
        obtain ⟨h1, h2⟩ := hSw
        go_simp
        try rfl
      try simp only [Act.put, List.setIfInBounds_toArray, List.set_cons_zero, List.set_cons_succ]
      refine wpAnyH_take (i := 5) (oi := _) (v := ?v5) rfl (by kernel_rfl) (by kernel_rfl) (by kernel_rfl) (fun _ _ _ h => h) (Or.inl ⟨by rfl, ?hy5⟩) hSw ?r5
      case hy5 =>
        intro w hSw
        obtain ⟨h1, h2⟩ := hSw
        go_simp
        try rfl
      try simp only [Act.put, List.setIfInBounds_toArray, List.set_cons_zero, List.set_cons_succ]
      refine wpAnyH_take (i := 6) (oi := _) (v := ?v6) rfl (by kernel_rfl) (by kernel_rfl) (by kernel_rfl) (fun _ _ _ h => h) (Or.inl ⟨by rfl, ?hy6⟩) hSw ?r6
      case hy6 =>
        intro w hSw
        obtain ⟨h1, h2⟩ := hSw
        go_simp
        try rfl
      try simp only [Act.put, List.setIfInBounds_toArray, List.set_cons_zero, List.set_cons_succ]
      refine wpAnyH_take (i := 7) (oi := _) (v := ?v7) rfl (by kernel_rfl) (by kernel_rfl) (by kernel_rfl) (fun _ _ _ h => h) (Or.inl ⟨by rfl, ?hy7⟩) hSw ?r7
      case hy7 =>
        intro w hSw
        obtain ⟨h1, h2⟩ := hSw
        go_simp
        try rfl
      try simp only [Act.put, List.setIfInBounds_toArray, List.set_cons_zero, List.set_cons_succ]
      refine wpAnyH_take (i := 8) (oi := _) (v := ?v8) rfl (by kernel_rfl) (by kernel_rfl) (by kernel_rfl) (fun _ _ _ h => h) (Or.inl ⟨by rfl, ?hy8⟩) hSw ?r8
      case hy8 =>
        intro w hSw
        obtain ⟨h1, h2⟩ := hSw
        go_simp
        try rfl
      try simp only [Act.put, List.setIfInBounds_toArray, List.set_cons_zero, List.set_cons_succ]
      refine wpAnyH_ready (rs := [4]) (by kernel_rfl) (by decide) (AllReadyH.cons (o := _) rfl (fun K' hK' => ?_) AllReadyH.nil)
      rw [if_pos (by rfl)]
      unfold Oper.wp
      go_simp
      refine hK'.out _ _ hSw fun _ => ?_
      clear hK' K'
      try simp only [Act.put, List.setIfInBounds_toArray, List.set_cons_zero, List.set_cons_succ]
      refine wpAnyH_take (i := 9) (oi := _) (v := ?v9) rfl (by kernel_rfl) (by kernel_rfl) (by kernel_rfl) (fun _ _ _ h => h) (Or.inl ⟨by rfl, ?hy9⟩) hSw ?r9
      case hy9 =>
        intro w hSw
        obtain ⟨h1, h2⟩ := hSw
        go_simp
        try rfl
      try simp only [Act.put, List.setIfInBounds_toArray, List.set_cons_zero, List.set_cons_succ]
      refine wpAnyH_take (i := 10) (oi := _) (v := ?v10) rfl (by kernel_rfl) (by kernel_rfl) (by kernel_rfl) (fun _ _ _ h => h) (Or.inl ⟨by rfl, ?hy10⟩) hSw ?r10
      case hy10 =>
        intro w hSw
        obtain ⟨h1, h2⟩ := hSw
        go_simp
        try rfl
      try simp only [Act.put, List.setIfInBounds_toArray, List.set_cons_zero, List.set_cons_succ]
      refine wpAnyH_take (i := 11) (oi := _) (v := ?v11) rfl (by kernel_rfl) (by kernel_rfl) (by kernel_rfl) (fun _ _ _ h => h) (Or.inl ⟨by rfl, ?hy11⟩) hSw ?r11
      case hy11 =>
        intro w hSw
        obtain ⟨h1, h2⟩ := hSw
        go_simp
        try rfl
      try simp only [Act.put, List.setIfInBounds_toArray, List.set_cons_zero, List.set_cons_succ]
      refine wpAnyH_ready (rs := [12]) (by kernel_rfl) (by decide) (AllReadyH.cons (o := _) rfl (fun K' hK' => ?_) AllReadyH.nil)
      rw [if_pos (by rfl)]
      unfold Oper.wp
      go_simp
      refine cR'.mono ?_
      rintro e w2 ⟨rfl, s0, s1, hP⟩
      have hSw : (fun w' : World => w'.cell? ⟨a, 0, none⟩ = some (.int .i64 (N : Int)) ∧ w'.cell? ⟨a, 1, none⟩ = some (.map (some m))) w2 := ⟨s0, s1⟩
      refine hK'.out _ _ hSw fun _ => ?_
      clear hK' K'
      try simp only [Act.put, List.setIfInBounds_toArray, List.set_cons_zero, List.set_cons_succ]
      refine wpAnyH_take (i := 13) (oi := _) (v := ?v13) rfl (by kernel_rfl) (by kernel_rfl) (by kernel_rfl) (fun _ _ _ h => h) (Or.inl ⟨by rfl, ?hy13⟩) hSw ?r13
      case hy13 =>
        intro w hSw
        obtain ⟨h1, h2⟩ := hSw
        go_simp
        try rfl
      try simp only [Act.put, List.setIfInBounds_toArray, List.set_cons_zero, List.set_cons_succ]
      refine wpAnyH_take (i := 14) (oi := _) (v := ?v14) rfl (by kernel_rfl) (by kernel_rfl) (by kernel_rfl) (fun _ _ _ h => h) (Or.inl ⟨by rfl, ?hy14⟩) hSw ?r14
      case hy14 =>
        intro w hSw
        obtain ⟨h1, h2⟩ := hSw
        go_simp
        try rfl
      try simp only [Act.put, List.setIfInBounds_toArray, List.set_cons_zero, List.set_cons_succ]
      refine wpAnyH_done (by kernel_rfl) ?_ _
      go_wp2_with fail
      go_meet
      exact ⟨rfl, hP⟩
    · have hne : ((N : Int) == (n : Int)) = false := by rw [beq_eq_false_iff_ne]; omega
      go_quiet (fail)
      go_wp2_with fail
      go_meet
      have tq : ∀ q, To No κ κ w1 (w1.drewN q) := fun q => ⟨rfl, rfl, rfl, Nat.le_refl _, fun _ _ _ => rfl, fun _ _ _ => rfl⟩
      refine ⟨rfl, Hid.mk ⟨M, R, h'.out.to (tq _) (fun _ _ h => h) (fun h => h), ?_, hdr _, ?_, h0'.out⟩⟩
      · unfold roomL
        rw [if_neg (by rw [List.length_map, ← hN.out]; exact hN2)]
      · rw [← hN.out]; omega
  case rest =>
    obtain ⟨rfl, hPM⟩ := hcut
    obtain ⟨M', R', hPM'⟩ := hPM.out
    have hPM2 := Hid.mk hPM'
    clear hPM hPM' cR hlen hlen2
    have hM0 : ∀ W : World, W = wc.alloc (.cells #[.int .i64 (k : Int), .slice none 0 0, .bool false, .int .i64 0, .pointer none, .pointer none] 149) → MapB W m M' := by
      rintro W rfl
      exact hPM2.out.cb.map.to ((To.refl No κ wc).alloc _) (fun h => h)
    have ca1c : wc.cell? ⟨a, 1, none⟩ = some (.map (some m)) := cell_at hPM2.out.cb.blk rfl
    have hab : a < wc.heap.size := hPM2.out.cb.lt
    have hml : Hid (m < wc.heap.size) := Hid.mk hPM2.out.cb.map.lt
    obtain ⟨xb, hxb⟩ : ∃ xb, Hid (xb = wc.heap.size) := ⟨_, Hid.mk rfl⟩
    have hU0 : ∀ ob V, Hid (V = setBlock (wc.alloc (.cells #[.int .i64 (k : Int), .slice none 0 0, .bool false, .int .i64 0, .pointer none, .pointer none] 149)) m ob) → MapB V m (putM k (.pointer (some ⟨xb, 0, none⟩)) M') → ∀ W, W = (V.setCell ⟨xb, 1, none⟩ (.slice (some ⟨g, 0, none⟩) pl cap)).setCell ⟨xb, 2, none⟩ (.bool d) → Calls Tryz.prog 114 #[.pointer (some ⟨a, 0, none⟩), .pointer (some ⟨xb, 0, none⟩)] W fun e w' => e = .returned (.tuple #[]) ∧ Hid (∃ κ', CacheAt κ' c w' a n (roomL n (R.map Nd.en) ++ [⟨k, p, d⟩]) ∧ To (Cc c) κ κ' w1 w' ∧ Cz κ' w') := by
      intro ob V hV hM W hW
      have hzc : Cz κ wc := hPM2.out.tt.cz hz'.out
      refine (put_new hPM2.out hzc hk d _ p (hv'.out.to hPM2.out.tt (by omega)) ob xb hxb.out V hV.out hM W hW).mono ?_
      rintro e w' ⟨rfl, h⟩
      exact ⟨rfl, Hid.mk h⟩
    go_wp2_with (first | (at_mapUpdate; refine wpList_mput _ rfl _ _ _ 146 rfl 3 147 ul146 ul3 m M' rfl (hM0 _ rfl) k hk rfl (.pointer (some ⟨wc.heap.size, 0, none⟩)) rfl ?_; intro ob hM; obtain ⟨V, hV, cx1, cx2, fx1, fx2⟩ := put_cells (k := k) hml.out ob hxb.out; rw [← hV.out] at hM ⊢; rw [← hxb.out] at hM ⊢; have hU := hU0 ob V hV hM; clear hM) | (go_at_call 114; refine (hU _ rfl).mono ?_; rintro e w2 ⟨rfl, hD⟩))
    go_ret
    exact ⟨rfl, hD.out⟩
end Go.Proofs.YtoacaikopcdkmaaGreat
