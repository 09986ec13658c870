/- The drum: Write. No condition. -/
import Derived.Test.YtoacaikopcdkmaaGreatZ06
import Derived.Laws.CopyOwn
import Derived.Deep.Cut
set_option linter.unusedSimpArgs false
set_option linter.unusedVariables false
namespace Go.Proofs.YtoacaikopcdkmaaGreat
open Go.RowKit Go.Sort
theorem src_of {w : World} {g o : Nat} {cs : List Value} (h : w.rangeAt g o cs) (X : Obj) : ∀ j v, cs[j]? = some v → (w.alloc X).cell? ((⟨g, o, none⟩ : Addr).add j) = some v := fun j v hv => by
  rw [Addr.add_mid]; exact World.rangeAt_alloc h X j v hv
theorem rangeAt_to {S κ κ' w w' b o cs} (h : w.rangeAt b o cs) (t : To S κ κ' w w') (hS : ¬ S (κ b)) : w'.rangeAt b o cs := fun j v hv => by
  have h1 := h j v hv
  rw [World.cell?_of_block (t.blk b (World.block_lt_of_cell? w _ h1) hS)]; exact h1
theorem write_eq {d : Vm.Drum} {k : Nat} {p : List UInt8} (hk : k < d.now.length) (hp : p.length = 64) {er : Nat} {d1 : Vm.Drum} (h : d.step = (er, d1)) :
    d.write k p = if er = 0 then (0, { d1 with now := d1.now.set k p, loose := d1.loose ++ [(k, p)] }) else (er, d1) := by
  have hs := step_same d
  rw [h] at hs
  have hf : Vm.fill 64 p = p := by unfold Vm.fill; rw [hp]; simp
  unfold Vm.Drum.write
  rw [if_neg (by omega), if_neg (by omega), h, hf]
  rcases hs.2.2.2 with e | e <;> simp only at e <;> subst e <;> rfl
theorem write_end {κ c w w1 w3 w4 a s sc n nc lv gg cap k p} {d1 : Vm.Drum} (A : Array Value) (hz : Cz κ w) (hT : To (fun k => k = c) κ κ w w1) (hO : DrumOk d1) (hS : DrumB κ c w1 a s sc n nc lv d1) (hk : k < d1.now.length) (hp : p.length = 64)
    (w2 : World) (hbel : Below w1.heap.size w1 w2) (hw3 : w2.drew.setCells n (k * 64) (byC p) = w3)
    (hown1 : w4.ownsRow 0 110 65 (.slice (some ⟨gg, 0, none⟩) (d1.loose.length + 1) cap) (d1.loose.length + 1) (looC d1.loose ++ Value.int .i64 (k : Int) :: byC p))
    (hgrow : (w3.alloc (.cells A 110)).drew.grownBy w4 lv.ownBlock) (hat : lv.ownBlock = some gg ∨ gg = w3.heap.size + 1) (hlt : gg < w4.heap.size) :
    ∃ κ', DrumAt κ' c (w4.setCell ⟨a, 2, none⟩ (.slice (some ⟨gg, 0, none⟩) (d1.loose.length + 1) cap)) a { d1 with now := d1.now.set k p, loose := d1.loose ++ [(k, p)] } ∧
      To (Dc c) κ κ' w (w4.setCell ⟨a, 2, none⟩ (.slice (some ⟨gg, 0, none⟩) (d1.loose.length + 1) cap)) ∧ Cz κ' (w4.setCell ⟨a, 2, none⟩ (.slice (some ⟨gg, 0, none⟩) (d1.loose.length + 1) cap)) := by
  obtain ⟨V, hV⟩ : ∃ V, V = Value.slice (some ⟨gg, 0, none⟩) (d1.loose.length + 1) cap := ⟨_, rfl⟩
  rw [← hV] at hown1 ⊢
  have hbl : ∀ b, lv.ownBlock = some b → κ b = c + 3 := hS.loose.2
  have hnC : κ n = c + 2 := hS.now.2 n rfl
  have haC : κ a = c := hS.col
  have z1 : Cz κ w1 := hT.cz hz
  -- frames
  have tA : To (fun j => j = c + 3) κ κ w3 w4 := ((To.refl _ κ w3).alloc _).drew.grown hgrow (fun b hb _ => hbl b hb)
  have t13 : To (fun j => j = c + 2) κ κ w1 w3 := by rw [← hw3]; exact ((To.of_below _ κ hbel).drew).setCells _ _ _ (fun _ => hnC)
  have tS : To (fun j => j = c) κ κ w4 (w4.setCell ⟨a, 2, none⟩ V) := (To.refl _ κ w4).setCell _ (fun _ => haC)
  have z3 : Cz κ w3 := t13.cz z1
  have hgg : κ gg = c + 3 ∨ κ gg = 0 ∧ w3.heap.size ≤ gg := by
    rcases hat with h | h
    · exact .inl (hbl gg h)
    · exact .inr ⟨z3 gg (by omega), by omega⟩
  have hx : ∀ b, κ b = c ∨ κ b = c + 1 ∨ κ b = c + 2 → b < w4.heap.size → b < w3.heap.size → b ≠ gg := fun b hb _ h3 e => by
    subst e
    rcases hgg with h | h
    · omega
    · omega
  obtain ⟨κ', hκ⟩ : ∃ κ' : Nat → Nat, κ' = fun b => if b = gg then c + 3 else κ b := ⟨_, rfl⟩
  have k1 : ∀ b, b ≠ gg → κ' b = κ b := fun b h => by rw [hκ]; exact if_neg h
  have k2 : κ' gg = c + 3 := by rw [hκ]; exact if_pos rfl
  have a3 : a < w3.heap.size := Nat.lt_of_lt_of_le (Array.getElem?_eq_some_iff.1 hS.blk).1 t13.size
  have n3 : n < w3.heap.size := Nat.lt_of_lt_of_le (hS.now.1.lt n rfl).2 t13.size
  have s3 : s < w3.heap.size := Nat.lt_of_lt_of_le (hS.safe.1.lt s rfl).2 t13.size
  have hsC : κ s = c + 1 := hS.safe.2 s rfl
  have ag : a ≠ gg := hx a (.inl haC) (Nat.lt_of_lt_of_le a3 tA.size) a3
  have ng : n ≠ gg := hx n (.inr (.inr hnC)) (Nat.lt_of_lt_of_le n3 tA.size) n3
  have sg : s ≠ gg := hx s (.inr (.inl hsC)) (Nat.lt_of_lt_of_le s3 tA.size) s3
  have b4 : w4.heap[a]? = w1.heap[a]? := (tA.blk a a3 (by omega)).trans (t13.blk a (Array.getElem?_eq_some_iff.1 hS.blk).1 (by omega))
  have hnow3 : Row κ (c + 2) w3 108 64 (.slice (some ⟨n, 0, none⟩) d1.now.length nc) d1.now.length (secsC (d1.now.set k p)) := by
    rw [← secsC_set hO.wn hk p hp, ← hw3]
    have r2 := hS.now.to (To.of_below No κ hbel) (fun h => h)
    exact ⟨own_put (own_drew r2.1) _ _ (by rw [byC_len, hp]; have := Nat.mul_le_mul_right 64 (Nat.succ_le_of_lt hk); omega), r2.2⟩
  refine ⟨κ', ⟨⟨?_, ?_, ?_, hO.ws, ?_, ?_, hO.fu⟩, s, sc, n, nc, V, ⟨?_, ?_, ?_, ?_, ?_⟩⟩, ?_, ?_⟩
  · simpa using hO.len
  · simpa using hO.pos
  · simpa using hO.le
  · intro q hq
    rcases List.mem_or_eq_of_mem_set hq with h | h
    · exact hO.wn q h
    · rw [h]; exact hp
  · intro x hx
    rcases List.mem_append.1 hx with h | h
    · simpa using hO.wl x h
    · rw [List.mem_singleton.1 h]; exact ⟨by simpa using hk, hp⟩
  · rw [k1 a ag]; exact haC
  · have h1 := heap_setCell_at (i := 2) V (b4.trans hS.blk)
    simp only [List.length_set]
    exact h1
  · have r := ((hS.safe.to t13 (by omega)).to tA (by omega)).to tS (by omega)
    simp only [List.length_set]
    refine ⟨r.1, fun b hb => ?_⟩
    cases hb
    rw [k1 s sg]; exact hsC
  · have r := (hnow3.to tA (by omega)).to tS (by omega)
    simp only [List.length_set]
    refine ⟨r.1, fun b hb => ?_⟩
    cases hb
    rw [k1 n ng]; exact hnC
  · rw [List.length_append, List.length_singleton, looC_snoc]
    have r : Row κ' (c + 3) w4 110 65 V (d1.loose.length + 1) (looC d1.loose ++ Value.int .i64 (k : Int) :: byC p) := ⟨hown1, fun b hb => by rw [hV] at hb; cases hb; exact k2⟩
    have tS' : To (fun j => j = c) κ' κ' w4 (w4.setCell ⟨a, 2, none⟩ V) := (To.refl _ κ' w4).setCell _ (fun _ => by rw [k1 a ag]; exact haC)
    exact r.to tS' (by omega)
  · have t : To (Dc c) κ κ w (w4.setCell ⟨a, 2, none⟩ V) := hT.one.trans (((t13.mono fun j e => ⟨by omega, by omega⟩).trans (tA.mono fun j e => ⟨by omega, by omega⟩)).trans (tS.mono fun j e => ⟨by omega, by omega⟩))
    refine ⟨t.os, t.tape, t.output, t.size, fun b hb hn => ?_, t.blk⟩
    refine k1 b fun e => ?_
    subst e
    rcases hgg with h | h
    · exact hn ⟨by omega, by omega⟩
    · have := hT.size; have := t13.size; omega
  · intro b hb
    have e : (w4.setCell ⟨a, 2, none⟩ V).heap.size = w4.heap.size := by simp
    rw [e] at hb
    rw [k1 b (by omega)]
    exact tA.cz z3 b hb
set_option maxRecDepth 100000 in
set_option maxHeartbeats 800000 in
theorem c_write (κ : Nat → Nat) (c a k g o cp : Nat) (p : List UInt8) (d : Vm.Drum) (w : World) (hD : DrumAt κ c w a d) (hz : Cz κ w) (hp : p.length = 64) (hg : w.rangeAt g o (byC p)) (hgc : ¬ Dc c (κ g)) (hL : d.loose.length ≤ 1000000) :
    Calls Tryz.prog 16 #[.pointer (some ⟨a, 0, none⟩), .int .i64 k, .slice (some ⟨g, o, none⟩) 64 cp] w fun e w' => e = .returned (.int .i64 ((d.write k p).1 : Int)) ∧
      ∃ κ', DrumAt κ' c w' a (d.write k p).2 ∧ To (Dc c) κ κ' w w' ∧ Cz κ' w' := by
  obtain ⟨h0, s, sc, n, nc, lv, hB⟩ := hD
  have h0' := Hid.mk h0
  have hB' := Hid.mk hB
  have hb := hB.blk
  have hp' := Hid.mk hp
  have hg' := Hid.mk hg
  have hz' := Hid.mk hz
  obtain ⟨N, hN⟩ : ∃ N, Hid (N = d.now.length) := ⟨_, rfl⟩
  rw [← hN.out] at hb
  have c1 : w.cell? ⟨a, 1, none⟩ = some (.slice (some ⟨n, 0, none⟩) N nc) := cell_at hb rfl
  have hn1 : N ≤ nc := by
    rcases hB.now.1.2 with h | ⟨g, cp, cur, h, _, _, h2, _⟩
    · exact absurd h.1 (by simp)
    · cases h; rw [hN.out]; exact h2
  have hN2 : N ≤ 16384 := by rw [hN.out]; exact h0.le
  clear h0 hB hb hp hg hz
  by_cases hk : k < N
  · obtain ⟨er, d1, hst⟩ := pair_ex d.step
    have hs := Hid.mk (step_same d)
    have cS : Calls Tryz.prog 57 #[.pointer (some ⟨a, 0, none⟩)] w fun e w' => e = .returned (.int .i64 (er : Int)) ∧ DrumOk d1 ∧ w'.cell? ⟨a, 1, none⟩ = some (.slice (some ⟨n, 0, none⟩) N nc) ∧ w'.cell? ⟨a, 2, none⟩ = some lv ∧ Hid (w'.rangeAt g o (byC p)) ∧ Hid (d1.now = d.now ∧ d1.safe = d.safe ∧ d1.loose = d.loose) ∧ DrumB κ c w' a s sc n nc lv d1 ∧ To (fun k => k = c) κ κ w w' := by
      refine (c_step κ c a s sc n nc lv d w h0'.out hB'.out).mono ?_
      rintro e w1 ⟨rfl, hO, hS, hT⟩
      have h1 := hS.blk
      have hsd : Hid (d1.now = d.now ∧ d1.safe = d.safe ∧ d1.loose = d.loose) := by
        have := hs.out; rw [hst.out] at this; exact ⟨this.1, this.2.1, this.2.2.1⟩
      rw [hs.out.1, ← hN.out] at h1
      rw [hst.out] at hO hS ⊢
      exact ⟨rfl, hO, cell_at h1 rfl, cell_at h1 rfl, rangeAt_to hg'.out hT (fun e => hgc (e ▸ ⟨Nat.le_refl _, by omega⟩)), hsd, hS, hT⟩
    by_cases he : (er : Int) = 0
    · have hk0 : (0 : Int) ≤ (k : Int) := Int.natCast_nonneg _
      have hkN : (k : Int) < (N : Int) := by omega
      have hu := Tryz.underlying108
      obtain ⟨cs, hcs⟩ : ∃ cs, Hid (cs = byC p) := ⟨_, rfl⟩
      have hcl : cs.length = 64 := by rw [hcs.out, byC_len, hp'.out]
      have hi : (Tryz.prog.info? 108).map (·.size) = some cs.length := by rw [hcl]; kernel_rfl
      have hc1 : ∀ v ∈ cs, v.oneCell' = true := by rw [hcs.out]; exact byC_one p
      have hi5 : Hid ((Tryz.prog.info? 5).map (·.size) = some 1) := by show _ = _; kernel_rfl
      rw [← hcs.out] at hg' cS
      obtain ⟨A, hA⟩ : ∃ A, Hid (A = (Value.int .i64 k :: cs).toArray) := ⟨_, rfl⟩
      have hAs : A.size = 65 := by rw [hA.out]; simp [hcl]
      have hF := fold_pair (.int .i64 k) cs hcl
      rw [← hA.out] at hF
      have hF2 : ∀ B : Array Value, B.size = 65 → Array.foldl (fun (cs : Array Value) (x : Value × Nat) => cs.setIfInBounds x.snd x.fst) B A.zipIdx 0 65 = A := fun B h => fold_all A B h hAs
      have hAl : ∀ w3 : World, ∀ j u, (Value.int .i64 k :: cs)[j]? = some u → (w3.alloc (.cells A 110)).cell? ((⟨w3.heap.size, 0, none⟩ : Addr).add j) = some u := fun w3 => by rw [hA.out]; exact World.news_of_block (heap_alloc_new w3 _)
      have hAl' := Hid.mk hAl
      clear hAl
      obtain ⟨i0, z0, ei, ez, e65, e72, ezs⟩ := zero110
      go_enter Tryz.func16, Tryz.ntmps16
      go_wp2_with (first
        | (go_at_call 57; refine cS.mono ?_; rintro e w1 ⟨rfl, hO, c1, c2, hg1, hsd, hS, hT⟩)
        | (refine wpList_copy_splice (o := ⟨some 35, _, _, _, _, _⟩) rfl (.tmp 33) (.tmp 34) 22 22 rfl 5 Tryz.underlying22 hi5.out (some ⟨w1.heap.size, 0, none⟩) (some ⟨g, o, none⟩) 64 64 64 cp rfl rfl w1.heap.size 0 (List.replicate 64 (Value.int .u8 0)) 108 (heap_alloc_new w1 _) cs (by rw [hcl]; rfl) (fun _ => ⟨rfl, ⟨g, o, none⟩, rfl, src_of hg1.out _⟩) (by rw [hcl]; decide) hc1 w1.heap.size w1 (Below.alloc (.refl _ _) (Nat.le_refl _) _) (Nat.le_refl _) ?_; intro w2 hw2 hbel))
      have ha1 : a < w1.heap.size := (Array.getElem?_eq_some_iff.1 hS.blk).1
      have hn1' : n < w1.heap.size := (hS.now.1.lt n rfl).2
      have c12 : w2.cell? ⟨a, 1, none⟩ = some (.slice (some ⟨n, 0, none⟩) N nc) := by rw [hbel.cell (p := ⟨a, 1, none⟩) ha1]; exact c1
      have c22 : w2.cell? ⟨a, 2, none⟩ = some lv := by rw [hbel.cell (p := ⟨a, 2, none⟩) ha1]; exact c2
      have hH : w2.rangeAt w1.heap.size 0 cs := by
        have e : splice (List.replicate 64 (Value.int .u8 0)) 0 cs = cs := by
          unfold splice; rw [List.take_zero, List.nil_append, Nat.zero_add, List.drop_of_length_le (by rw [hcl]; decide), List.append_nil]
        have h1 := hw2.out
        rw [e] at h1
        have := World.rangeAt_of_block h1 0 64
        have e2 : (cs.toArray.extract 0 (0 + 64)).toList = cs := by rw [Array.toList_extract]; simp [List.extract, hcl, List.take_of_length_le]
        rwa [e2] at this
      have hth : w2.there n (k * 64) 64 := fun j hj => by
        have hk' : k < d1.now.length := by rw [hsd.out.1, ← hN.out]; exact hk
        have := own_there hS.now.1 (k * 64) 64 (by omega) j hj
        rw [hbel.cell (p := ⟨n, k * 64 + j, none⟩) hn1', hbel.frozen (p := ⟨n, k * 64 + j, none⟩) hn1']
        exact this
      have hne : a ≠ n := fun e => by
        have h1 := hS.col
        have h2 := hS.now.2 n rfl
        rw [e] at h1; omega
      clear c1 c2
      go_region_held3 (fun w' => w'.cell? ⟨a, 1, none⟩ = some (.slice (some ⟨n, 0, none⟩) N nc) ∧ w'.rangeAt w1.heap.size 0 cs ∧ w'.there n (k * 64) 64) (first | go_keep | go_keep_ranges | (go_split_ands; exact ⟨(World.cell?_setCells_out n cs (k * 64) _ ⟨a, 1, none⟩ (fun h _ => absurd h hne)).trans (by first | assumption | (simp only [World.cell?_drew]; assumption)), World.rangeAt_setCells_apart (by first | assumption | (simp only [World.rangeAt_drew]; assumption)) _ _ _ (by left; omega), World.there_setCells (by first | assumption | (simp only [World.there_drew]; assumption)) _ _ _⟩)) (fail)
      have t13 : To (fun j => j = c + 2) κ κ w1 (w2.drew.setCells n (k * 64) cs) := ((To.of_below _ κ hbel).drew).setCells _ _ _ (fun _ => hS.now.2 n rfl)
      have hH3 : (w2.drew.setCells n (k * 64) cs).rangeAt w1.heap.size 0 cs := World.rangeAt_setCells_apart (by simpa using hH) _ _ _ (by left; omega)
      generalize hw3 : w2.drew.setCells n (k * 64) cs = w3 at *
      have hlo := hS.loose.to t13 (by omega)
      have c23 : w3.cell? ⟨a, 2, none⟩ = some lv := by
        rw [World.cell?_of_block (t13.blk a ha1 (by rw [hS.col]; omega)), ← hbel.cell (p := ⟨a, 2, none⟩) ha1]; exact c22
      clear c12 c22 hth hH
      have hw3' := Hid.mk hw3
      clear hw3
      go_wp2
      have hl3 : ∀ b, lv.ownBlock = some b → b ≠ a ∧ κ b = c + 3 := fun b hb => by
        have h1 := hS.loose.2 b hb
        exact ⟨fun e => by rw [e, hS.col] at h1; omega, h1⟩
      have ha3 : a < w3.heap.size := Nat.lt_of_lt_of_le ha1 t13.size
      have f3 : w3.frozen? ⟨a, 2, none⟩ = false := by
        rw [World.frozen?_of_block (t13.blk a ha1 (by rw [hS.col]; omega))]
        exact frozen_at hS.blk
      have hL1 : d1.loose.length ≤ 1000000 := by rw [hsd.out.2.2]; exact hL
      have hl3' := Hid.mk hl3
      have hcA : Hid (∀ u ∈ (Value.int .i64 (k : Int) :: cs), u.oneCell' = true) := fun u hu => by
        rcases List.mem_cons.1 hu with h | h
        · rw [h]; rfl
        · exact hc1 u h
      clear hl3
      have hlH : ∀ b, lv.ownBlock = some b → b ≠ w1.heap.size := fun b hb e => by
        have := (hlo.1.lt b hb).2
        have h2 := (hl3'.out b hb).2
        have h3 := hz'.out w1.heap.size hT.size
        rw [e, h3] at h2; omega
      have hlH' := Hid.mk hlH
      clear hlH
      have hHa : a ≠ w1.heap.size := by omega
      have hSw : (fun w' : World => w'.rangeAt w1.heap.size 0 cs) w3.drew := by first | exact hH3 | simpa using hH3
      refine wp_region_held_drew (S := (fun w' : World => w'.rangeAt w1.heap.size 0 cs)) (by kernel_rfl) hSw (fun hHeld => ?_)
      refine wpAnyH_take (i := 0) (oi := _) (v := ?v1) rfl (by kernel_rfl) (by kernel_rfl) (by kernel_rfl) (fun _ _ _ h => h) (Or.inl ⟨by rfl, ?hy1⟩) hSw ?r1
      case hy1 =>
        intro w hSw
        try dsimp only at hSw
        go_simp
        try rfl
      try simp only [Act.put, List.setIfInBounds_toArray, List.set_cons_zero, List.set_cons_succ]
      refine wpAnyH_take (i := 1) (oi := _) (v := ?v2) rfl (by kernel_rfl) (by kernel_rfl) (by kernel_rfl) (fun _ _ _ h => h) (Or.inl ⟨by rfl, ?hy2⟩) hSw ?r2
      case hy2 =>
        intro w hSw
        try dsimp only at hSw
        go_simp
        try rfl
      try simp only [Act.put, List.setIfInBounds_toArray, List.set_cons_zero, List.set_cons_succ]
      refine wpAnyH_take (i := 2) (oi := _) (v := ?v3) rfl (by kernel_rfl) (by kernel_rfl) (by kernel_rfl) (fun _ _ _ h => h) (Or.inl ⟨by rfl, ?hy3⟩) hSw ?r3
      case hy3 =>
        intro w hSw
        try dsimp only at hSw
        go_simp
        try rfl
      try simp only [Act.put, List.setIfInBounds_toArray, List.set_cons_zero, List.set_cons_succ]
      refine wpAnyH_take (i := 3) (oi := _) (v := ?v4) rfl (by kernel_rfl) (by kernel_rfl) (by kernel_rfl) (fun _ _ _ h => h) (Or.inl ⟨by rfl, ?hy4⟩) hSw ?r4
      case hy4 =>
        intro w hSw
        try dsimp only at hSw
        go_simp
        try rfl
      try simp only [Act.put, List.setIfInBounds_toArray, List.set_cons_zero, List.set_cons_succ]
      refine wpAnyH_take (i := 5) (oi := _) (v := ?v5) rfl (by kernel_rfl) (by kernel_rfl) (by kernel_rfl) (fun _ _ _ h => h) (Or.inl ⟨by rfl, ?hy5⟩) hSw ?r5
      case hy5 =>
        intro w hSw
        try dsimp only at hSw
        go_simp
        try rfl
      try simp only [Act.put, List.setIfInBounds_toArray, List.set_cons_zero, List.set_cons_succ]
      refine' wpAnyH_take (i := 6) (oi := _) (v := _) rfl (by kernel_rfl) (by kernel_rfl) (by kernel_rfl) (fun _ _ _ h => h) (yieldsIf_load_mid (by rfl) _ _ rfl _ _ rfl _ _ ?hS ?hu ?hd ?hi) hSw ?rest
      case hS =>
        intro w hSw
        try dsimp only at hSw
        assumption
      case hu => assumption
      case hd => rfl
      case hi => first | assumption | (simp only [*]; done)
      try simp only [Act.put, List.setIfInBounds_toArray, List.set_cons_zero, List.set_cons_succ]
      refine wpAnyH_take (i := 7) (oi := _) (v := ?v6) rfl (by kernel_rfl) (by kernel_rfl) (by kernel_rfl) (fun _ _ _ h => h) (Or.inl ⟨by rfl, ?hy6⟩) hSw ?r6
      case hy6 =>
        intro w hSw
        try dsimp only at hSw
        go_simp
        try rfl
      try simp only [Act.put, List.setIfInBounds_toArray, List.set_cons_zero, List.set_cons_succ]
      refine wpAnyH_ready (rs := [4, 8]) (by kernel_rfl) (by decide) (AllReadyH.cons (o := _) rfl (fun K' hK' => ?_) (AllReadyH.cons (o := _) rfl (fun K' hK' => ?_) AllReadyH.nil))
      · rw [if_pos (by rfl)]
        unfold Oper.wp
        go_simp
        refine hK'.out _ _ hSw fun _ => ?_
        clear hK' K'
        try simp only [Act.put, List.setIfInBounds_toArray, List.set_cons_zero, List.set_cons_succ]
        refine wpAnyH_ready (rs := [8]) (by kernel_rfl) (by decide) (AllReadyH.cons (o := _) rfl (fun K' hK' => ?_) AllReadyH.nil)
        rw [if_pos (by rfl)]
        unfold Oper.wp
        go_simp
        have hSw : (fun w' : World => w'.rangeAt w1.heap.size 0 cs) (w3.drew.alloc (.cells A 110)) := World.rangeAt_alloc (by simpa using hSw) _
        refine hK'.out _ _ hSw fun _ => ?_
        clear hK' K'
        try simp only [Act.put, List.setIfInBounds_toArray, List.set_cons_zero, List.set_cons_succ]
        refine wpAnyH_ready (rs := [9]) (by kernel_rfl) (by decide) (AllReadyH.cons (o := _) rfl (fun K' hK' => ?_) AllReadyH.nil)
        refine step_append_lies _ rfl (.tmp 47) (.tmp 51) 104 rfl 0 110 i0 z0 65 72 Tryz.underlying104 ei ez e65 e72 ezs (by omega) lv d1.loose.length (looC d1.loose) rfl ((hlo.1.alloc _).drew) ⟨w3.heap.size, 0, none⟩ 1 1 (Value.int .i64 k :: cs) rfl (by rw [List.length_cons, hcl]) (hAl'.out w3) hcA.out (by omega) (by simp only [maxLen]; omega) (by omega) (Nat.zero_le _) (w3.heap.size + 1) (by simp) ?_
        intro gg cap w4 hown1 hgrow hat hlt
        have g4 := Hid.mk (hgrow.block a (by simp; omega) (fun e => (hl3'.out a e.symm).1 rfl))
        have c4 : w4.cell? ⟨a, 2, none⟩ = some lv := (World.cell?_of_block g4.out).trans (by simpa using World.cell?_alloc_lt _ _ _ ha3 |>.trans c23)
        have f4 : w4.frozen? ⟨a, 2, none⟩ = false := (World.frozen?_of_block g4.out).trans (by simpa using World.frozen?_alloc_past _ _ _ ha3 |>.trans f3)
        have hSw : (fun w' : World => w'.rangeAt w1.heap.size 0 cs) w4 := rangeAt_grown (by first | assumption | (simp only [World.rangeAt_drew]; exact World.rangeAt_alloc hH3 _)) hgrow (fun e => hlH'.out _ e.symm rfl)
        refine hK'.out _ _ hSw fun _ => ?_
        clear hK' K'
        try simp only [Act.put, List.setIfInBounds_toArray, List.set_cons_zero, List.set_cons_succ]
        refine wpAnyH_take (i := 10) (oi := _) (v := ?v7) rfl (by kernel_rfl) (by kernel_rfl) (by kernel_rfl) (fun _ _ _ h => h) (Or.inl ⟨by rfl, ?hy7⟩) hSw ?r7
        case hy7 =>
          intro w hSw
          try dsimp only at hSw
          go_simp
          try rfl
        try simp only [Act.put, List.setIfInBounds_toArray, List.set_cons_zero, List.set_cons_succ]
        refine wpAnyH_take (i := 11) (oi := _) (v := ?v8) rfl (by kernel_rfl) (by kernel_rfl) (by kernel_rfl) (fun _ _ _ h => h) (Or.inl ⟨by rfl, ?hy8⟩) hSw ?r8
        case hy8 =>
          intro w hSw
          try dsimp only at hSw
          go_simp
          try rfl
        try simp only [Act.put, List.setIfInBounds_toArray, List.set_cons_zero, List.set_cons_succ]
        refine wpAnyH_ready (rs := [12]) (by kernel_rfl) (by decide) (AllReadyH.cons (o := _) rfl (fun K' hK' => ?_) AllReadyH.nil)
        rw [if_pos (by rfl)]
        unfold Oper.wp
        go_simp
        refine hK'.out _ _ (rangeAt_setCell (by assumption) _ _ hHa) fun _ => ?_
        clear hK' K'
        try simp only [Act.put, List.setIfInBounds_toArray, List.set_cons_zero, List.set_cons_succ]
        refine wpAnyH_done (by kernel_rfl) ?_ _
        go_wp2
        go_ret
        rw [write_eq (by rw [← hN.out]; exact hk) hp'.out hst.out, if_pos (by omega)]
        rw [hcs.out] at hown1 hw3'
        exact ⟨rfl, write_end A hz'.out hT hO hS (by rw [hsd.out.1, ← hN.out]; exact hk) hp'.out w2 hbel hw3'.out hown1 hgrow hat hlt⟩
      · rw [if_pos (by rfl)]
        unfold Oper.wp
        go_simp
        have hSw : (fun w' : World => w'.rangeAt w1.heap.size 0 cs) (w3.drew.alloc (.cells A 110)) := World.rangeAt_alloc (by simpa using hSw) _
        refine hK'.out _ _ hSw fun _ => ?_
        clear hK' K'
        try simp only [Act.put, List.setIfInBounds_toArray, List.set_cons_zero, List.set_cons_succ]
        refine wpAnyH_ready (rs := [4]) (by kernel_rfl) (by decide) (AllReadyH.cons (o := _) rfl (fun K' hK' => ?_) AllReadyH.nil)
        rw [if_pos (by rfl)]
        unfold Oper.wp
        go_simp
        refine hK'.out _ _ hSw fun _ => ?_
        clear hK' K'
        try simp only [Act.put, List.setIfInBounds_toArray, List.set_cons_zero, List.set_cons_succ]
        refine wpAnyH_ready (rs := [9]) (by kernel_rfl) (by decide) (AllReadyH.cons (o := _) rfl (fun K' hK' => ?_) AllReadyH.nil)
        refine step_append_lies _ rfl (.tmp 47) (.tmp 51) 104 rfl 0 110 i0 z0 65 72 Tryz.underlying104 ei ez e65 e72 ezs (by omega) lv d1.loose.length (looC d1.loose) rfl ((hlo.1.alloc _).drew) ⟨w3.heap.size, 0, none⟩ 1 1 (Value.int .i64 k :: cs) rfl (by rw [List.length_cons, hcl]) (hAl'.out w3) hcA.out (by omega) (by simp only [maxLen]; omega) (by omega) (Nat.zero_le _) (w3.heap.size + 1) (by simp) ?_
        intro gg cap w4 hown1 hgrow hat hlt
        have g4 := Hid.mk (hgrow.block a (by simp; omega) (fun e => (hl3'.out a e.symm).1 rfl))
        have c4 : w4.cell? ⟨a, 2, none⟩ = some lv := (World.cell?_of_block g4.out).trans (by simpa using World.cell?_alloc_lt _ _ _ ha3 |>.trans c23)
        have f4 : w4.frozen? ⟨a, 2, none⟩ = false := (World.frozen?_of_block g4.out).trans (by simpa using World.frozen?_alloc_past _ _ _ ha3 |>.trans f3)
        have hSw : (fun w' : World => w'.rangeAt w1.heap.size 0 cs) w4 := rangeAt_grown (by first | assumption | (simp only [World.rangeAt_drew]; exact World.rangeAt_alloc hH3 _)) hgrow (fun e => hlH'.out _ e.symm rfl)
        refine hK'.out _ _ hSw fun _ => ?_
        clear hK' K'
        try simp only [Act.put, List.setIfInBounds_toArray, List.set_cons_zero, List.set_cons_succ]
        refine wpAnyH_take (i := 10) (oi := _) (v := ?v9) rfl (by kernel_rfl) (by kernel_rfl) (by kernel_rfl) (fun _ _ _ h => h) (Or.inl ⟨by rfl, ?hy9⟩) hSw ?r9
        case hy9 =>
          intro w hSw
          try dsimp only at hSw
          go_simp
          try rfl
        try simp only [Act.put, List.setIfInBounds_toArray, List.set_cons_zero, List.set_cons_succ]
        refine wpAnyH_take (i := 11) (oi := _) (v := ?v10) rfl (by kernel_rfl) (by kernel_rfl) (by kernel_rfl) (fun _ _ _ h => h) (Or.inl ⟨by rfl, ?hy10⟩) hSw ?r10
        case hy10 =>
          intro w hSw
          try dsimp only at hSw
          go_simp
          try rfl
        try simp only [Act.put, List.setIfInBounds_toArray, List.set_cons_zero, List.set_cons_succ]
        refine wpAnyH_ready (rs := [12]) (by kernel_rfl) (by decide) (AllReadyH.cons (o := _) rfl (fun K' hK' => ?_) AllReadyH.nil)
        rw [if_pos (by rfl)]
        unfold Oper.wp
        go_simp
        refine hK'.out _ _ (rangeAt_setCell (by assumption) _ _ hHa) fun _ => ?_
        clear hK' K'
        try simp only [Act.put, List.setIfInBounds_toArray, List.set_cons_zero, List.set_cons_succ]
        refine wpAnyH_done (by kernel_rfl) ?_ _
        go_wp2
        go_ret
        rw [write_eq (by rw [← hN.out]; exact hk) hp'.out hst.out, if_pos (by omega)]
        rw [hcs.out] at hown1 hw3'
        exact ⟨rfl, write_end A hz'.out hT hO hS (by rw [hsd.out.1, ← hN.out]; exact hk) hp'.out w2 hbel hw3'.out hown1 hgrow hat hlt⟩
    · go_enter Tryz.func16, Tryz.ntmps16
      go_wp2_with (go_at_call 57; refine cS.mono ?_; rintro e w1 ⟨rfl, hO, c1, c2, hg1, hsd, hS, hT⟩)
      go_ret
      rw [write_eq (by rw [← hN.out]; exact hk) hp'.out hst.out, if_neg (by omega)]
      exact ⟨rfl, κ, ⟨hO, s, sc, n, nc, lv, hS⟩, hT.one, hT.cz hz'.out⟩
  · have hw : d.write k p = (1, d) := by unfold Vm.Drum.write; rw [if_pos (by rw [← hN.out]; omega)]
    have hw' := Hid.mk hw
    clear hw
    go_enter Tryz.func16, Tryz.ntmps16
    go_wp2
    go_ret
    rw [hw'.out]
    exact ⟨rfl, κ, ⟨h0'.out, s, sc, n, nc, lv, hB'.out⟩, .refl _ _ _, hz'.out⟩
end Go.Proofs.YtoacaikopcdkmaaGreat
