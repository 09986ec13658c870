/- The vault: Pages, Gen, Taken, SameInts. The vault: awake. No condition. -/
import Derived.Test.YtoacaikopcdkmaaGreatZ29
import Derived.Maps.AppendAt
set_option linter.unusedSimpArgs false
set_option linter.unusedVariables false
namespace Go.Proofs.YtoacaikopcdkmaaGreat
set_option maxRecDepth 100000
set_option maxHeartbeats 800000
open Go.RowKit Go.Sort Go.MapKept Go.Maps Go.WideElems Go.ChangeMaps
theorem c_pages {κ c w a dA cA tA mA tk wv v d} (h : VB κ c w a dA cA tA mA tk wv v d) :
    Calls Tryz.prog 31 #[.pointer (some ⟨a, 0, none⟩)] w fun e w' => e = .returned (.int .i64 (v.pl.pages : Int)) ∧ w' = w := by
  have c3 : w.cell? ⟨a, 3, none⟩ = some (.int .i64 (v.pl.pages : Int)) := cell_at h.blk rfl
  clear h
  go_enter Tryz.func31, Tryz.ntmps31
  go_wp2
  go_ret
  exact ⟨rfl, rfl⟩
theorem c_gen {κ c w a dA cA tA mA tk wv v d} (h : VB κ c w a dA cA tA mA tk wv v d) :
    Calls Tryz.prog 32 #[.pointer (some ⟨a, 0, none⟩)] w fun e w' => e = .returned (.int .i64 (v.head.gen : Int)) ∧ w' = w := by
  have c7 : w.cell? ⟨a, 7, none⟩ = some (.int .i64 (v.head.gen : Int)) := cell_at h.blk rfl
  clear h
  go_enter Tryz.func32, Tryz.ntmps32
  go_wp2
  go_ret
  exact ⟨rfl, rfl⟩
def SrcK (w : World) (sv : Value) (X : List Nat) : Prop := (X = [] ∧ sv = .slice none 0 0) ∨ ∃ g o cap, sv = .slice (some ⟨g, o, none⟩) X.length cap ∧ w.rangeAt g o (X.map kV)
theorem SrcK.form {w sv X} (h : SrcK w sv X) : ∃ sp cap, sv = .slice sp X.length cap ∧ ∀ (j x : Nat), X[j]? = some x → ∃ g o, sp = some ⟨g, o, none⟩ ∧ w.cell? ⟨g, o + j, none⟩ = some (.int .i64 (x : Int)) := by
  rcases h with ⟨rfl, rfl⟩ | ⟨g, o, cap, rfl, hr⟩
  · exact ⟨none, 0, rfl, fun j x h => by simp at h⟩
  · exact ⟨_, cap, rfl, fun j x hx => ⟨g, o, rfl, hr j (kV x) (by rw [List.getElem?_map, hx]; rfl)⟩⟩
theorem take_snoc_ne {X Y : List Nat} {j x y : Nat} (hx : X[j]? = some x) (hy : Y[j]? = some y) (h : x ≠ y) : X ≠ Y := fun e => by
  subst e; rw [hx] at hy; cases hy; exact h rfl
theorem c_same {w s1 s2 X Y} (h1 : SrcK w s1 X) (h2 : SrcK w s2 Y) (hX : X.length ≤ 1000000) (hY : Y.length ≤ 1000000) :
    Calls Tryz.prog 41 #[s1, s2] w fun e w' => e = .returned (.bool (decide (X = Y))) ∧ ∃ q, w' = w.drewN q := by
  obtain ⟨p1, k1, rfl, f1⟩ := h1.form
  obtain ⟨p2, k2, rfl, f2⟩ := h2.form
  obtain ⟨n1, hn1⟩ : ∃ n, Hid (X.length = n) := ⟨_, Hid.mk rfl⟩
  obtain ⟨n2, hn2⟩ : ∃ n, Hid (Y.length = n) := ⟨_, Hid.mk rfl⟩
  rw [hn1.out] at hX ⊢
  rw [hn2.out] at hY ⊢
  have f1' := Hid.mk f1
  have f2' := Hid.mk f2
  obtain ⟨b, hb⟩ : ∃ b, Hid (decide (X = Y) = b) := ⟨_, Hid.mk rfl⟩
  rw [hb.out]
  clear h1 h2 f1 f2
  by_cases hne : n1 = n2
  · subst hne
    go_enter Tryz.func41, Tryz.ntmps41
    go_wp2
    go_loopw [13] (fun i W => ∃ j : Nat, j ≤ n1 ∧ i = .int .i64 (j : Int) ∧ Hid (X.take j = Y.take j) ∧ Hid (∃ q, W = w.drewN q)) (fun i _ => n1 - (intOf i).toNat)
    case atStart => exact ⟨0, Nat.zero_le _, rfl, Hid.mk rfl, Hid.mk ⟨0, rfl⟩⟩
    case round =>
      obtain ⟨j, hj, rfl, hE, hW⟩ := hrel
      by_cases hlt : (j : Int) < n1
      · obtain ⟨x, hx⟩ : ∃ x, X[j]? = some x := ⟨_, List.getElem?_eq_getElem (by rw [hn1.out]; omega)⟩
        obtain ⟨y, hy⟩ : ∃ y, Y[j]? = some y := ⟨_, List.getElem?_eq_getElem (by rw [hn2.out]; omega)⟩
        obtain ⟨g1, o1, e1, r1⟩ := f1'.out j x hx
        obtain ⟨g2, o2, e2, r2⟩ := f2'.out j y hy
        subst e1
        subst e2
        obtain ⟨q, rfl⟩ := hW.out
        have hxy : ∀ B, Hid (B = ((x : Int) != y)) → True := fun _ _ => trivial
        go_wp2
        go_quiet (fail)
        by_cases hne : x = y
        · have hb0 : ((x : Int) != y) = false := by rw [bne_eq_false_iff_eq]; omega
          have hE2 : Hid (X.take (j + 1) = Y.take (j + 1)) := Hid.mk (by rw [List.take_add_one, List.take_add_one, hE.out, hx, hy, hne])
          clear hE hxy
          go_wp2
          refine ⟨⟨j + 1, by omega, by go_num, hE2, Hid.mk ⟨_, rfl⟩⟩, ?_⟩
          simp [intOf]
          omega
        · have hb0 : ((x : Int) != y) = true := by rw [bne_iff_ne]; omega
          go_wp2
          go_ret
          rw [← hb.out, decide_eq_false (take_snoc_ne hx hy hne)]
          exact ⟨rfl, _, World.drewN_drewN _ _ _⟩
      · have hjn : j = n1 := by omega
        obtain ⟨q, rfl⟩ := hW.out
        go_wp2
        go_ret
        have e := hE.out
        rw [hjn, List.take_of_length_le (by rw [hn1.out]; omega), List.take_of_length_le (by rw [hn2.out]; omega)] at e
        rw [← hb.out, decide_eq_true e]
        exact ⟨rfl, _, rfl⟩
  · have hne' : ((n1 : Int) != n2) = true := by rw [bne_iff_ne]; omega
    go_enter Tryz.func41, Tryz.ntmps41
    go_wp2
    go_ret
    rw [← hb.out, decide_eq_false (fun e => hne (by rw [← hn1.out, ← hn2.out, e]))]
    exact ⟨rfl, 0, rfl⟩
theorem takenTo_succ (v : Vm.Va) (j : Nat) : (List.range (j + 1)).filter (fun n : Nat => v.has n) = (List.range j).filter (fun n : Nat => v.has n) ++ if v.has (j : Int) = true then [j] else [] := by
  rw [List.range_succ, List.filter_append]
  by_cases h : v.has (j : Int) = true
  · simp [h]
  · simp [h]
theorem filter_le (v : Vm.Va) (j : Nat) : ((List.range j).filter (fun n : Nat => v.has n)).length ≤ j := by
  refine Nat.le_trans (List.length_filter_le _ _) ?_
  rw [List.length_range]; exact Nat.le_refl _
theorem c_taken {κ c w a dA cA tA mA tk wv v d} (h : VB κ c w a dA cA tA mA tk wv v d) (hp : v.pl.pages ≤ 2048) :
    Calls Tryz.prog 22 #[.pointer (some ⟨a, 0, none⟩)] w fun e w' => ∃ U, e = .returned U ∧ w'.ownsRow w.heap.size 3 1 U v.takenL.length (v.takenL.map kV) ∧ Below w.heap.size w w' := by
  have hP := c_pages h
  have cH : Hid (∀ (W : World) (n : Nat), Hid (Below w.heap.size w W) → n < v.pl.pages → Calls Tryz.prog 59 #[.pointer (some ⟨a, 0, none⟩), .int .i64 (n : Int)] W fun e w' => e = .returned (.bool (v.has (n : Int))) ∧ ∃ q, w' = W.drewN q) := Hid.mk fun W n hB hn =>
    c_has (h.no (To.of_below _ _ hB.out)) (n : Int) (by omega) (by omega) hp
  have hT : Hid (v.takenL = (List.range v.pl.pages).filter fun n : Nat => v.has n) := Hid.mk rfl
  obtain ⟨i0, z0, hi, hz0, hz1, hz2, hz3⟩ := info_sz (t := 3) (size := 1) (bytes := 8) (zs := 1) (by kernel_rfl)
  obtain ⟨pg, hpg⟩ : ∃ pg, Hid (v.pl.pages = pg) := ⟨_, Hid.mk rfl⟩
  rw [hpg.out] at hP hp cH
  clear h
  go_enter Tryz.func22, Tryz.ntmps22
  go_wp2_with (go_at_call 31; refine hP.mono ?_; rintro e w1 ⟨rfl, hw1⟩; replace hw1 := hw1.symm; subst hw1)
  go_loopw [3, 7] (fun t i W => ∃ (j : Nat) (U : Value), j ≤ pg ∧ i = .int .i64 (j : Int) ∧ t = U ∧ Hid (W.ownsRow w.heap.size 3 1 U ((List.range j).filter (fun n : Nat => v.has n)).length (((List.range j).filter (fun n : Nat => v.has n)).map kV)) ∧ Hid (Below w.heap.size w W)) (fun _ i _ => pg - (intOf i).toNat)
  case atStart => exact ⟨0, _, Nat.zero_le _, rfl, rfl, Hid.mk ⟨rfl, .inl ⟨rfl, rfl⟩⟩, Hid.mk (.refl _ _)⟩
  case round =>
    obtain ⟨j, U, hj, rfl, hU0, hU, hB⟩ := hrel
    replace hU0 := hU0.symm
    subst hU0
    have hstep := takenTo_succ v j
    have hlen := filter_le v j
    obtain ⟨X, hX⟩ : ∃ X, Hid ((List.range j).filter (fun n : Nat => v.has n) = X) := ⟨_, Hid.mk rfl⟩
    rw [hX.out] at hstep hlen hU
    by_cases hlt : (j : Int) < pg
    · have aft : ∀ q, ∃ W2, Hid (W2 = wr.drewN q) ∧ Hid (W2.ownsRow w.heap.size 3 1 U X.length (X.map kV)) ∧ Hid (Below w.heap.size w W2) := fun q => ⟨_, Hid.mk rfl, hU, Hid.mk ⟨hB.out.os, hB.out.tape, hB.out.output, hB.out.size, hB.out.block⟩⟩
      have cHj := cH.out wr j hB (by omega)
      obtain ⟨hh, hhE⟩ : ∃ hh, Hid (v.has (j : Int) = hh) := ⟨_, Hid.mk rfl⟩
      rw [hhE.out] at cHj hstep
      have hstep' := Hid.mk hstep
      have hlen' := Hid.mk hlen
      clear hstep hlen cH
      cases hh with
      | true =>
        have hl2 := hlen'.out
        go_wp2_with (first | (go_at_call 59; refine cHj.mono ?_; rintro e w1 ⟨rfl, q, rfl⟩; obtain ⟨W2, hW2, U2, B2⟩ := aft q; rw [← hW2.out]; clear hW2 aft; have hb2 := B2.out.size) | (at_builtin; refine wpList_append_lies _ rfl (.tmp 13) (.tmp 15) 37 rfl w.heap.size 3 i0 z0 1 8 Tryz.underlying37 hi hz0 hz1 hz2 hz3 (by omega) _ X.length _ rfl (U2.out.alloc _) ⟨W2.heap.size, 0, none⟩ 1 1 [kV j] rfl rfl (cell_one_new W2 _ 3) (by intro u hu; rw [List.mem_singleton.1 hu]; rfl) (by omega) (by simp only [maxLen]; omega) (by omega) (by simp; omega) (W2.heap.size + 1) (by simp) ?_; intro gg cap w4 hown1 hgrow hat hlt4))
        have e := hstep'.out
        rw [if_pos (by trivial)] at e
        refine ⟨⟨j + 1, _, by omega, by go_num, rfl, Hid.mk ?_, Hid.mk ?_⟩, ?_⟩
        · rw [e, List.map_append, List.length_append]
          exact hown1
        · exact (B2.out.alloc hb2 _).grown hgrow (by simp; omega) (fun k hk => (U2.out.lt k hk).1)
        · simp [intOf]
          omega
      | false =>
        go_wp2_with (go_at_call 59; refine cHj.mono ?_; rintro e w1 ⟨rfl, q, rfl⟩; obtain ⟨W2, hW2, U2, B2⟩ := aft q; rw [← hW2.out]; clear hW2 aft)
        have e := hstep'.out
        rw [if_neg (by simp), List.append_nil] at e
        refine ⟨⟨j + 1, U, by omega, by go_num, rfl, by rw [e]; exact U2, B2⟩, ?_⟩
        simp [intOf]
        omega
    · have hjn : j = pg := by omega
      go_wp2
      go_ret
      rw [hT.out, hpg.out, ← hjn, hX.out]
      exact ⟨_, rfl, hU.out, hB.out⟩
end Go.Proofs.YtoacaikopcdkmaaGreat

namespace Go.Proofs.YtoacaikopcdkmaaGreat
set_option maxRecDepth 100000
set_option maxHeartbeats 800000
open Go.RowKit Go.Sort Go.MapKept Go.Maps Go.WideElems Go.ChangeMaps
def Aw (w W : World) (a dA : Nat) (v : Vm.Va) (d : Vm.Drum) : Prop := ∃ κ, VAt κ 1 W a dA v d ∧ To (Vc 1) (fun _ => 0) κ w W ∧ Cz κ W
def Ad (w W : World) (dA : Nat) (d : Vm.Drum) : Prop := ∃ κ, DrumAt κ 1 W dA d ∧ To (Vc 1) (fun _ => 0) κ w W ∧ Cz κ W
theorem Aw.below {w W W' a dA v d} (h : Aw w W a dA v d) (hB : Below W.heap.size W W') : Aw w W' a dA v d := by
  obtain ⟨κ, h1, h2, h3⟩ := h
  have t := To.of_below No κ hB
  exact ⟨κ, h1.to t (fun _ _ h => h) (fun h => h), h2.trans (ofNo t), t.cz h3⟩
theorem Aw.drum {w W a dA v d} (h : Aw w W a dA v d) : Ad w W dA d := by
  obtain ⟨κ, ⟨cA, tA, mA, tk, wv, h1⟩, h2, h3⟩ := h
  exact ⟨κ, h1.drum, h2, h3⟩
theorem Aw.out {w W a dA v d} (h : Aw w W a dA v d) : Below w.heap.size w W := by
  obtain ⟨κ, h1, h2, h3⟩ := h
  exact ⟨h2.os, h2.tape, h2.output, h2.size, fun k hk => h2.blk k hk (fun e => absurd e.1 (by decide))⟩
theorem a_new (w : World) : Calls Tryz.prog 12 #[.int .i64 100] w fun e w' => ∃ a, e = .returned (.tuple #[.pointer (some ⟨a, 0, none⟩), .int .i64 0]) ∧ Hid (Ad w w' a (Vm.Drum.new 100)) := by
  refine (c_new (fun _ => 0) 1 100 (by decide) (by decide) w (fun _ _ => rfl) (Nat.le_refl _)).mono ?_
  rintro e w' ⟨a, rfl, κ', h1, h2, h3⟩
  exact ⟨a, rfl, Hid.mk ⟨κ', h1, ofNo h2, h3⟩⟩
theorem a_open {w W dA d v d' pl} (h : Ad w W dA d) (hp : Vm.draft d.now.length = some pl) (hgen : (Vm.getHead2 d).1 = 0 → (Vm.getHead2 d).2.1.gen < 4294967295) (hL : d.loose.length ≤ 100000) (ho : Vm.vopen2 d 8 = (0, some v, d')) :
    Calls Tryz.prog 11 #[.pointer (some ⟨dA, 0, none⟩), .int .i64 8] W fun e w' => ∃ a, e = .returned (.tuple #[.pointer (some ⟨a, 0, none⟩), .int .i64 0]) ∧ Hid (Aw w w' a dA v d') := by
  obtain ⟨κ, h1, h2, h3⟩ := h
  refine (c_open1 dA 8 (by decide) (by decide) κ 1 d pl W h1 h3 (Nat.le_refl _) hp hgen hL).mono ?_
  rintro e w' ⟨κ', g1, g2, g3, g4⟩
  change Vm.vopen2 d ((8 : Nat) : Int) = _ at ho
  rw [ho] at g1 g4
  rcases g4 with ⟨e1, _⟩ | ⟨a, u, e1, _, rfl, hv⟩
  · cases e1
  · cases e1
    exact ⟨a, rfl, Hid.mk ⟨κ', hv, h2.trans g2, g3⟩⟩
theorem a_begin {w W a dA v d} (h : Aw w W a dA v d) (h0 : v.begin.1 = 0) : Calls Tryz.prog 20 #[.pointer (some ⟨a, 0, none⟩)] W fun e w' => e = .returned (.int .i64 0) ∧ Hid (Aw w w' a dA v.begin.2 d) := by
  obtain ⟨κ, h1, h2, h3⟩ := h
  refine (c_begin h1 h3 (Nat.le_refl _)).mono ?_
  rintro e w' ⟨rfl, κ', g1, g2, g3⟩
  rw [h0]
  exact ⟨rfl, Hid.mk ⟨κ', g1, h2.trans g2, g3⟩⟩
theorem a_alloc {w W a dA v d C cur v2} (h : Aw w W a dA v d) (H : Vm.VI v d C cur) (h0 : v.alloc = (0, 1, v2)) : Calls Tryz.prog 19 #[.pointer (some ⟨a, 0, none⟩)] W fun e w' => e = .returned (.tuple #[.int .i64 1, .int .i64 0]) ∧ Hid (Aw w w' a dA v2 d) := by
  obtain ⟨κ, h1, h2, h3⟩ := h
  refine (c_alloc h1 H h3 (Nat.le_refl _)).mono ?_
  rintro e w' ⟨rfl, κ', g1, g2, g3⟩
  rw [h0] at g1 ⊢
  exact ⟨rfl, Hid.mk ⟨κ', g1, h2.trans g2, g3⟩⟩
theorem a_put {w W a dA v d C cur v2} (h : Aw w W a dA v d) (H : Vm.VI v d C cur) (sv : Value) (hs : Src W sv [97]) (h0 : v.put1 1 [97] = (0, v2)) : Calls Tryz.prog 49 #[.pointer (some ⟨a, 0, none⟩), .int .i64 1, sv] W fun e w' => e = .returned (.int .i64 0) ∧ Hid (Aw w w' a dA v2 d) := by
  obtain ⟨κ, h1, h2, h3⟩ := h
  refine (c_vput h1 H h3 (Nat.le_refl _) 1 (by decide) (by decide) sv [97] hs).mono ?_
  rintro e w' ⟨rfl, κ', g1, g2, g3⟩
  rw [h0] at g1 ⊢
  exact ⟨rfl, Hid.mk ⟨κ', g1, h2.trans g2, g3⟩⟩
theorem a_commit {w W a dA v d C cur v2 d2} (h : Aw w W a dA v d) (H : Vm.VI v d C cur) (hb : v.busy = true) (hch : v.ch ≠ []) (hst : v.head.stamp + 1 < 18446744073709551616) (h1' : ¬ v.pl.log * 48 < v.group.enc.length) (h2' : ¬ v.tape.free * 48 < v.group.enc.length) (hL : d.loose.length ≤ 100000) (hg : v.head.gen + 1 < 4294967295) (h0 : v.commit d = (0, v2, d2)) :
    Calls Tryz.prog 21 #[.pointer (some ⟨a, 0, none⟩)] W fun e w' => e = .returned (.int .i64 0) ∧ Hid (Aw w w' a dA v2 d2) := by
  obtain ⟨κ, h1, h2, h3⟩ := h
  refine (c_commit1 h1 H h3 (Nat.le_refl _) hb hch hst h1' h2' hL hg).mono ?_
  rintro e w' ⟨rfl, κ', g1, g2, g3⟩
  rw [h0] at g1 ⊢
  exact ⟨rfl, Hid.mk ⟨κ', g1, h2.trans g2, g3⟩⟩
theorem a_crash {w W dA d} (h : Ad w W dA d) : Calls Tryz.prog 30 #[.pointer (some ⟨dA, 0, none⟩), .slice none 0 0] W fun e w' => e = .returned (.int .i64 0) ∧ Hid (Ad w w' dA (d.crash2 [])) := by
  obtain ⟨κ, h1, h2, h3⟩ := h
  refine (c_crash κ 1 dA d W h1 h3 (Nat.le_refl _) none [] 0 (fun h => absurd h (by decide)) (Nat.le_refl _) (by decide)).mono ?_
  rintro e w' ⟨rfl, κ', g1, g2, g3⟩
  rw [crash_is] at g1
  exact ⟨rfl, Hid.mk ⟨κ', g1, h2.trans (g2.mono fun j e => ⟨e.1, by have := e.2; omega⟩), g3⟩⟩
theorem a_get {w W a dA v d C cur v2 d2} (h : Aw w W a dA v d) (H : Vm.VI v d C cur) (hh : v.has 1 = true) (hc : cur 1 = 97 :: List.replicate 495 0) (h0 : v.get d 1 = (0, cur 1, v2, d2)) : Calls Tryz.prog 46 #[.pointer (some ⟨a, 0, none⟩), .int .i64 1] W fun e w' => ∃ g cap, e = .returned (.tuple #[.slice (some ⟨g, 0, none⟩) 496 cap, .int .i64 0]) ∧ w'.cell? ⟨g, 0, none⟩ = some (.int .u8 97) ∧ Hid (Aw w w' a dA v2 d2) := by
  obtain ⟨κ, h1, h2, h3⟩ := h
  refine (c_get1 h1 H h3 (Nat.le_refl _) 1 hh).mono ?_
  rintro e w' ⟨r, rfl, κ', g1, g2, g3, hv⟩
  change v.get d ((1 : Nat) : Int) = _ at h0
  rw [h0] at g1
  have hl : (cur 1).length = 496 := by rw [hc]; rfl
  obtain ⟨g, cap, rfl, p2, p3, p4, p5⟩ := hv
  have p6 := p5 0 (.int .u8 97) (by rw [hc]; rfl)
  rw [hl]
  exact ⟨g, cap, rfl, p6, Hid.mk ⟨κ', g1, h2.trans g2, g3⟩⟩
theorem a_taken {w W a dA v d} (h : Aw w W a dA v d) (hp : v.pl.pages ≤ 2048) (ht : v.takenL = [1]) : Calls Tryz.prog 22 #[.pointer (some ⟨a, 0, none⟩)] W fun e w' => ∃ g cap, e = .returned (.slice (some ⟨g, 0, none⟩) 1 cap) ∧ Hid (w'.rangeAt g 0 [kV 1]) ∧ Hid (Aw w w' a dA v d) := by
  have h' := h
  obtain ⟨κ, ⟨cA, tA, mA, tk, wv, h1⟩, h2, h3⟩ := h
  refine (c_taken h1 hp).mono ?_
  rintro e w' ⟨U, rfl, hU, hB⟩
  rw [ht] at hU
  obtain ⟨g, cap, rfl⟩ := ownsRow_succ hU
  exact ⟨g, cap, rfl, Hid.mk (own_range hU), Hid.mk (h'.below hB)⟩
theorem a_same {w W a dA v d} (h : Aw w W a dA v d) (g cap : Nat) (hr : W.rangeAt g 0 [kV 1]) (o : Obj) (ho : o = .cells #[.int .i64 1] 3 (0, 0)) : Calls Tryz.prog 41 #[.slice (some ⟨g, 0, none⟩) 1 cap, .slice (some ⟨W.heap.size, 0, none⟩) 1 1] (W.alloc o) fun e w' => e = .returned (.bool true) ∧ Hid (Aw w w' a dA v d) := by
  have hN := heap_alloc_new W o
  refine (c_same (X := [1]) (Y := [1]) (.inr ⟨g, 0, cap, rfl, World.rangeAt_alloc hr o⟩) (.inr ⟨W.heap.size, 0, 1, rfl, ?_⟩) (by decide) (by decide)).mono ?_
  · intro j u hj
    rw [Nat.zero_add]
    rw [ho] at hN
    rw [ho]
    exact cell_at hN (by simpa [kV] using hj)
  · rintro e w' ⟨rfl, q, rfl⟩
    exact ⟨rfl, Hid.mk (h.below (Below.alloc (.refl _ _) (Nat.le_refl _) _)).below ⟨rfl, rfl, rfl, Nat.le_refl _, fun _ _ => rfl⟩⟩
theorem a_gen {w W a dA v d} (h : Aw w W a dA v d) (hg : v.head.gen = 2) : Calls Tryz.prog 32 #[.pointer (some ⟨a, 0, none⟩)] W fun e w' => e = .returned (.int .i64 2) ∧ w' = W := by
  obtain ⟨κ, ⟨cA, tA, mA, tk, wv, h1⟩, h2, h3⟩ := h
  refine (c_gen h1).mono ?_
  rintro e w' ⟨rfl, rfl⟩
  rw [hg]
  exact ⟨rfl, rfl⟩
end Go.Proofs.YtoacaikopcdkmaaGreat
