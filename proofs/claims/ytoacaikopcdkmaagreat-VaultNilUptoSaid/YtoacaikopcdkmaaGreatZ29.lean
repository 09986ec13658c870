/- What the laws' first lines see, with what the walk wants. The vault: the answers of no vault. The vault: VaultNil, but for the first lines. No condition. -/
import Derived.Test.YtoacaikopcdkmaaGreatZ28
set_option linter.unusedSimpArgs false
set_option linter.unusedVariables false
namespace Go.Proofs.YtoacaikopcdkmaaGreat
theorem crash_gen : ∀ (ws : List (Nat × List UInt8)) (keep : List Bool) (k : Nat) (s : List (List UInt8)), (ws.zipIdx k).foldl (fun s w => if keep.getD w.2 false then s.set w.1.1 w.1.2 else s) s = Vm.setAll s (Vm.kept (keep.drop k) ws)
  | [], keep, k, s => by cases keep.drop k <;> rfl
  | x :: ws, keep, k, s => by
    rw [List.zipIdx_cons, List.foldl_cons, crash_gen ws keep (k + 1)]
    by_cases hk : k < keep.length
    · rw [List.drop_eq_getElem_cons hk]
      have h1 : keep.getD k false = keep[k] := by rw [List.getD_eq_getElem?_getD, List.getElem?_eq_getElem hk]; rfl
      simp only [h1]
      generalize keep[k] = b
      cases b <;> rfl
    · have h1 : keep.getD k false = false := by rw [List.getD_eq_getElem?_getD, List.getElem?_eq_none (by omega)]; rfl
      rw [List.drop_eq_nil_of_le (by omega), List.drop_eq_nil_of_le (by omega)]
      simp only [h1]
      cases ws <;> rfl
theorem crash_is (d : Vm.Drum) (keep : List Bool) : d.crash keep = d.crash2 keep := by
  unfold Vm.Drum.crash Vm.Drum.crash2
  have := crash_gen d.loose keep 0 d.safe
  rw [List.drop_zero] at this
  simp only
  rw [this]
theorem loose_nil {v : Vm.Va} {d : Vm.Drum} {C cur : Nat → Vm.B} (H : Vm.VI v d C cur) (hg : v.tape.groups = 0) : d.loose = [] := by
  obtain ⟨gs, st0, R, ht⟩ := H.run
  have hgs : gs = [] := by
    rw [ht] at hg
    exact List.eq_nil_of_length_eq_zero hg
  subst hgs
  cases hl : d.loose with
  | nil => rfl
  | cons w ws =>
    exfalso
    obtain ⟨n, _, h, _⟩ := R.loose w (by rw [hl]; exact List.mem_cons_self)
    cases h
theorem head_crash {v : Vm.Va} {d : Vm.Drum} {C cur : Nat → Vm.B} (H : Vm.VI v d C cur) (keep : List Bool) : (Vm.getHead2 (d.crash2 keep)).2.1.gen = v.head.gen ∧ Vm.draft (d.crash2 keep).now.length = some v.pl ∧ (d.crash2 keep).loose = [] := by
  obtain ⟨gs, st0, R, ht⟩ := H.run
  obtain ⟨D, hu, hs, hl⟩ := Vm.crash_disk R keep
  obtain ⟨p1, p2, p3, p4, p5, p6, p7, p8⟩ := Vm.plan_facts D.plan
  have hh := Vm.getHead_up hu (by omega) D.g1 (Vm.head_is D.g1 (by have := D.g2; simp only [Nat.reducePow]; omega) D.s0 D.slot D.other)
  rw [hh]
  exact ⟨rfl, D.plan, hl⟩
theorem head_new (n : Nat) (h : 64 ≤ n) : (Vm.getHead2 (Vm.Drum.new n)).1 ≠ 0 := by
  have hu : (Vm.Drum.new n).up := ⟨rfl, rfl⟩
  have h0 := Vm.new_at (n := n) (k := 0) (by omega)
  have h1 := Vm.new_at (n := n) (k := 1) (by omega)
  have hl : (Vm.Drum.new n).now.length = n := by unfold Vm.Drum.new; simp
  unfold Vm.getHead2
  rw [Vm.read_up hu (by omega)]
  simp only
  rw [Vm.read_up (Vm.tick_up hu 1) (by show 1 < (Vm.Drum.new n).now.length; omega)]
  simp only
  rw [show ((Vm.Drum.new n).tick 1).now = (Vm.Drum.new n).now from rfl, h0, h1]
  have e : Vm.headOf Vm.zs Vm.zs = ⟨0, 0⟩ := by unfold Vm.headOf; rw [Vm.zs_head]; rfl
  rw [e, if_pos rfl]
  exact fun h => by cases h
/-- The first lines, step by step. -/
theorem awake_full : ∃ v d1 v2 v3 v4 d2 w d3 C cur2 cur3 L L9, Vm.vopen2 (Vm.Drum.new 100) 8 = (0, some v, d1) ∧ Vm.VI v d1 C C ∧ v.begin.1 = 0 ∧ Vm.VI v.begin.2 d1 C C ∧ v.begin.2.alloc = (0, 1, v2) ∧ Vm.VI v2 d1 C cur2 ∧ v2.put1 1 [97] = (0, v3) ∧ Vm.VI v3 d1 C cur3 ∧
    v3.busy = true ∧ v3.ch ≠ [] ∧ v3.head.stamp + 1 < 18446744073709551616 ∧ ¬ v3.pl.log * 48 < v3.group.enc.length ∧ ¬ v3.tape.free * 48 < v3.group.enc.length ∧ d1.loose = [] ∧ v3.head.gen + 1 < 4294967295 ∧ v3.commit d1 = (0, v4, d2) ∧ Vm.VI v4 d2 cur3 cur3 ∧
    Vm.draft (d2.crash2 []).now.length = some w.pl ∧ (Vm.getHead2 (d2.crash2 [])).2.1.gen < 4294967295 ∧ Vm.vopen2 (d2.crash2 []) 8 = (0, some w, d3) ∧ Vm.VI w d3 cur3 cur3 ∧ w.has 1 = true ∧ cur3 1 = 97 :: List.replicate 495 0 ∧ w.get d3 1 = (0, cur3 1, { w with L := L }, L9) ∧ Vm.VI { w with L := L } L9 cur3 cur3 ∧ Vm.Va.takenL { w with L := L } = [1] ∧ w.head.gen = 2 := by
  have hp : Vm.draft 100 = some ⟨25, 27, 9⟩ := rfl
  obtain ⟨v, d1, e1, H1, hb1, hh1, hpl1, hf1, hgr⟩ := Vm.open_new hp (frames := 8) (by decide)
  have hno : ∀ m : Nat, v.has m = false := fun m => by
    unfold Vm.Va.has
    rw [H1.taken, show Vm.bitAt (List.replicate 496 0) (m : Int).toNat = false from Vm.bit_zp _]
    simp
  have hfr : v.frames = 8 := hf1
  have hch : v.ch = [] := H1.idle hb1
  have hlo := loose_nil H1 hgr
  have hfree : v.tape.free = 25 := by
    obtain ⟨gs, st0, R, ht⟩ := H1.run
    have hgs : gs = [] := by
      rw [ht] at hgr
      exact List.eq_nil_of_length_eq_zero hgr
    rw [ht, hgs, hpl1]; rfl
  obtain ⟨b0, H1b, _⟩ := Vm.begin_ok H1 hb1
  have hal := Vm.alloc_ok H1b rfl (n := 1) (by decide) (by show 1 < v.pl.pages; rw [hpl1]; decide) (fun m m1 m2 => by omega) (hno 1) (.inl (by show v.ch.length + 2 < v.frames; rw [hch, hfr]; decide))
  obtain ⟨a1, _, _, _, a5⟩ := hal
  have K := Vm.alloc_kept H1b
  rw [a1] at K
  obtain ⟨cur2, H2⟩ := K.inv
  generalize hv2 : (Vm.Va.turnMap { v with busy := true, was := v.taken } 1).put 1 [] = v2 at a1 a5 K H2
  have hch2 : v2.ch = [0, 1] := by rw [← hv2]; show Vm.chAdd 1 (Vm.chAdd 0 v.ch) = _; rw [hch]; rfl
  have hpl2 : v2.pl = ⟨25, 27, 9⟩ := by rw [← hv2]; exact hpl1
  have hfr2 : v2.frames = 8 := by rw [← hv2]; exact hfr
  have hfree2 : v2.tape.free = 25 := by rw [← hv2]; exact hfree
  have hb2 : v2.busy = true := by rw [← hv2]; rfl
  have hhead2 : v2.head = ⟨1, 0⟩ := by rw [← hv2]; exact hh1
  have htk2 : v2.taken = Vm.flip1 Vm.zp 1 := by rw [← hv2]; show Vm.flip1 v.taken 1 = _; rw [H1.taken]; rfl
  have hhas2 : v2.has 1 = true := by
    have := a5 1 (by show 1 < v.pl.pages; rw [hpl1]; decide)
    simpa using this
  have hmay2 : v2.may [(1 : Int).toNat] = true := by
    unfold Vm.Va.may
    rw [hch2, hfr2]; decide
  obtain ⟨c1, H3⟩ := Vm.put_ok H2 hb2 hhas2 (p := [97]) (by decide) hmay2
  have hch3 : (v2.put (1 : Int).toNat [97]).ch = [0, 1] := by show Vm.chAdd 1 v2.ch = _; rw [hch2]; rfl
  have hne : (v2.put (1 : Int).toNat [97]).ch ≠ [] := by rw [hch3]; decide
  have hst3 : (v2.put (1 : Int).toNat [97]).head.stamp + 1 < 2 ^ 64 := by show v2.head.stamp + 1 < _; rw [hhead2]; decide
  have hn3 : (v2.put (1 : Int).toNat [97]).group.enc.length = 1010 := by
    have hG := (H3.group hne hst3).1
    have h5 := Vm.enc_len fun x hx => (hG.each x hx).1
    have hn : (v2.put (1 : Int).toNat [97]).group.pgs.length = 2 := by unfold Vm.Va.group; simp only [List.length_map, Vm.isort_len]; rw [hch3]; rfl
    rw [h5, hn]
  have hlog3 : (v2.put (1 : Int).toNat [97]).pl.log = 25 := by show v2.pl.log = 25; rw [hpl2]
  have hfree3 : (v2.put (1 : Int).toNat [97]).tape.free = 25 := hfree2
  obtain ⟨e, v4, d2, e2, hv, hb4, _, _, hpl4, hfr4⟩ := Vm.commit_ok H3 hb2 (by show v2.head.gen + 1 < _; rw [hhead2]; decide) hst3
  rcases hv with ⟨he, H4, hgen⟩ | ⟨_, _, hne', hlong⟩
  rotate_left
  · exfalso
    rw [hn3, hlog3] at hlong
    omega
  subst he
  have hgen4 : v4.head.gen = 1 := by
    rw [hgen (by rw [hn3, hfree3]; decide)]
    show v2.head.gen = 1
    rw [hhead2]
  have hpl4' : v4.pl = ⟨25, 27, 9⟩ := hpl4.trans hpl2
  obtain ⟨w, d3, e3, H5, hb5, hg5, hpl5, _, _⟩ := Vm.crash_ok H4 (by rw [hgen4]; decide) [] (frames := 8) (by decide)
  have hcur0 : Vm.setC cur2 (1 : Int).toNat (Vm.fill 496 [97]) 0 = Vm.flip1 Vm.zp 1 := by
    have := H3.taken
    rw [← this]
    exact htk2
  have hseen : Vm.seen w.pl (Vm.setC cur2 (1 : Int).toNat (Vm.fill 496 [97])) = [1] := by
    unfold Vm.seen
    rw [hcur0, hpl5, hpl4']
    have : ∀ n, Vm.bitAt (Vm.flip1 Vm.zp 1) n = decide (n = 1) := fun n => by
      rw [Vm.bitAt_flip (by unfold Vm.zp; rw [List.length_replicate]; decide), Vm.bit_zp]; simp
    simp only [this]
    decide
  have hw1 : w.has 1 = true := by
    have h := Vm.taken_seen H5
    rw [hseen] at h
    have : (1 : Nat) ∈ w.takenL := by rw [h]; exact List.mem_singleton.2 rfl
    exact (List.mem_filter.1 this).2
  obtain ⟨L, k, e4, H6⟩ := Vm.get_ok H5 hw1
  obtain ⟨hc1, hc2, hc3⟩ := head_crash H4 []
  refine ⟨v, d1, v2, _, v4, d2, w, d3, _, cur2, _, L, d3.tick k, e1, H1, by rw [b0], by rw [b0]; exact H1b, by rw [b0]; exact a1, H2, c1, H3, hb2, hne, by simpa using hst3, by rw [hn3, hlog3]; decide, by rw [hn3, hfree3]; decide, hlo, by show v2.head.gen + 1 < _; rw [hhead2]; decide, e2, H4, by rw [hc2, hpl5], by rw [hc1, hgen4]; decide, e3, H5, hw1, ?_, e4, H6, (Vm.taken_seen H6).trans hseen, by rw [hg5, hgen4]⟩
  show Vm.setC cur2 (1 : Int).toNat (Vm.fill 496 [97]) 1 = _
  unfold Vm.setC
  rw [if_pos (by rfl)]
  rfl
end Go.Proofs.YtoacaikopcdkmaaGreat

namespace Go.Proofs.YtoacaikopcdkmaaGreat
set_option maxRecDepth 100000
open Go.RowKit Go.Sort Go.MapKept Go.Maps Go.WideElems Go.ChangeMaps
theorem n_ask (w : World) (b : Bool) : Calls Tryz.prog 58 #[.pointer none, .bool b] w fun e w' => e = .returned (.int .i64 2) ∧ w' = w := by
  go_enter Tryz.func58, Tryz.ntmps58
  go_wp2
  go_ret
  exact ⟨rfl, rfl⟩
theorem n_pages (w : World) : Calls Tryz.prog 31 #[.pointer none] w fun e w' => e = .returned (.int .i64 0) ∧ w' = w := by
  go_enter Tryz.func31, Tryz.ntmps31
  go_wp2
  go_ret
  exact ⟨rfl, rfl⟩
theorem n_gen (w : World) : Calls Tryz.prog 32 #[.pointer none] w fun e w' => e = .returned (.int .i64 0) ∧ w' = w := by
  go_enter Tryz.func32, Tryz.ntmps32
  go_wp2
  go_ret
  exact ⟨rfl, rfl⟩
theorem n_groups (w : World) : Calls Tryz.prog 33 #[.pointer none] w fun e w' => e = .returned (.int .i64 0) ∧ w' = w := by
  go_enter Tryz.func33, Tryz.ntmps33
  go_wp2
  go_ret
  exact ⟨rfl, rfl⟩
theorem n_busy (w : World) : Calls Tryz.prog 26 #[.pointer none] w fun e w' => e = .returned (.bool false) ∧ w' = w := by
  go_enter Tryz.func26, Tryz.ntmps26
  go_wp2
  go_ret
  exact ⟨rfl, rfl⟩
theorem n_begin (w : World) : Calls Tryz.prog 20 #[.pointer none] w fun e w' => e = .returned (.int .i64 2) ∧ w' = w := by
  have c := n_ask w false
  go_enter Tryz.func20, Tryz.ntmps20
  go_wp2_with (go_at_call 58; refine c.mono ?_; rintro e w1 ⟨rfl, rfl⟩)
  go_ret
  exact ⟨rfl, rfl⟩
theorem n_alloc (w : World) : Calls Tryz.prog 19 #[.pointer none] w fun e w' => e = .returned (.tuple #[.int .i64 0, .int .i64 2]) ∧ w' = w := by
  have c := n_ask w true
  go_enter Tryz.func19, Tryz.ntmps19
  go_wp2_with (go_at_call 58; refine c.mono ?_; rintro e w1 ⟨rfl, rfl⟩)
  go_ret2
  exact ⟨rfl, rfl⟩
theorem n_free (w : World) (n : Int) : Calls Tryz.prog 23 #[.pointer none, .int .i64 n] w fun e w' => e = .returned (.int .i64 2) ∧ w' = w := by
  have c := n_ask w true
  go_enter Tryz.func23, Tryz.ntmps23
  go_wp2_with (go_at_call 58; refine c.mono ?_; rintro e w1 ⟨rfl, rfl⟩)
  go_ret
  exact ⟨rfl, rfl⟩
theorem n_get (w : World) (n : Int) : Calls Tryz.prog 46 #[.pointer none, .int .i64 n] w fun e w' => e = .returned (.tuple #[.slice none 0 0, .int .i64 2]) ∧ w' = w := by
  go_enter Tryz.func46, Tryz.ntmps46
  go_wp2
  go_ret2
  exact ⟨rfl, rfl⟩
theorem n_put (w : World) (n : Int) (v : Value) : Calls Tryz.prog 49 #[.pointer none, .int .i64 n, v] w fun e w' => e = .returned (.int .i64 2) ∧ w' = w := by
  have c := n_ask w true
  go_enter Tryz.func49, Tryz.ntmps49
  go_wp2_with (go_at_call 58; refine c.mono ?_; rintro e w1 ⟨rfl, rfl⟩)
  go_ret
  exact ⟨rfl, rfl⟩
theorem n_commit (w : World) : Calls Tryz.prog 21 #[.pointer none] w fun e w' => e = .returned (.int .i64 2) ∧ w' = w := by
  have c := n_ask w true
  go_enter Tryz.func21, Tryz.ntmps21
  go_wp2_with (go_at_call 58; refine c.mono ?_; rintro e w1 ⟨rfl, rfl⟩)
  go_ret
  exact ⟨rfl, rfl⟩
theorem n_abort (w : World) : Calls Tryz.prog 27 #[.pointer none] w fun e w' => e = .returned (.int .i64 2) ∧ w' = w := by
  have c := n_ask w true
  go_enter Tryz.func27, Tryz.ntmps27
  go_wp2_with (go_at_call 58; refine c.mono ?_; rintro e w1 ⟨rfl, rfl⟩)
  go_ret
  exact ⟨rfl, rfl⟩
theorem n_check (w : World) : Calls Tryz.prog 34 #[.pointer none] w fun e w' => e = .returned (.int .i64 2) ∧ w' = w := by
  have c := n_ask w false
  go_enter Tryz.func34, Tryz.ntmps34
  go_wp2_with (go_at_call 58; refine c.mono ?_; rintro e w1 ⟨rfl, rfl⟩)
  go_ret
  exact ⟨rfl, rfl⟩
theorem n_taken (w : World) : Calls Tryz.prog 22 #[.pointer none] w fun e w' => e = .returned (.slice none 0 0) ∧ w' = w := by
  have c := n_pages w
  go_enter Tryz.func22, Tryz.ntmps22
  go_wp2_with (go_at_call 31; refine c.mono ?_; rintro e w1 ⟨rfl, rfl⟩)
  go_loop [3, 7] (fun t i => t = .slice none 0 0 ∧ i = .int .i64 0) (fun _ _ => 1)
  case atStart => exact ⟨rfl, rfl⟩
  case round =>
    obtain ⟨rfl, rfl⟩ := hrel
    go_wp2
    go_ret
    exact ⟨rfl, rfl⟩
theorem cell_alloc_some {w : World} {a : Addr} {u : Value} (o : Obj) (h : w.cell? a = some u) : (w.alloc o).cell? a = some u := by
  rw [World.cell?_alloc_some _ _ _ (by rw [h]; rfl)]; exact h
/-- append onto a new empty row. -/
theorem wpList_app_new {w : World} {ops : Array Oper} {rest : List Oper} {o : Oper} {a : Act} {Q : Exit → Act → World → Prop} (hgd : o.guard = none) (s x : Operand)
    (ho : o.op = .call { callee := .builtin .append, args := #[s, x], argTypes := #[22, 22] })
    (g : Nat) (hgl : g < w.heap.size) (hs : a.eval s = .slice (some ⟨g, 0, none⟩) 0 0)
    (sp : Option Addr) (p : List UInt8) (cap : Nat) (hx : a.eval x = .slice sp p.length cap) (hp : p.length ≤ 1000000000)
    (hsrc : Go.Src Tryz.prog 1 22 (.slice sp p.length cap) p.length (byC p) w)
    (h : ∀ v w', Src w' v p → Below w.heap.size w w' → wpList Tryz.prog ops Q rest (a.put o.dst v) w') : wpList Tryz.prog ops Q (o :: rest) a w := by
  refine wpList_plain hgd fun K hK => ?_
  obtain ⟨i0, z0, hi, hz0, hz1, hz2, hz3⟩ := info_sz (t := 5) (size := 1) (bytes := 1) (zs := 1) (by kernel_rfl)
  have hbl : (byC p).length = p.length := byC_len p
  by_cases h0 : p = []
  · subst h0
    have hr := run_append_room_src (P := Tryz.prog) w 22 22 o.type 5 i0 Tryz.underlying22 hi g 0 0 0 (.slice sp 0 cap) 0 [] (by rw [hz1]; exact hsrc) (Nat.le_refl _) (fun j hj => by cases hj) (fun j hj => by cases hj)
    unfold Oper.wp execOp
    simp only [ho, resolve, invoke, builtin, Sem.run_bind, Sem.run_pure, Result.andThen_ok, List.map_toArray, List.map_cons, List.map_nil, hs, hx, hr, List.length_nil]
    refine hK _ _ (h _ _ ?_ (.refl _ _))
    exact .inr ⟨g, 0, 0, rfl, hgl, by intro j u hj; cases hj⟩
  · have hpos : 0 < p.length := List.length_pos_iff.2 h0
    have hr := run_append_grow_src (P := Tryz.prog) w 22 22 o.type 5 i0 z0 Tryz.underlying22 hi hz0 (some ⟨g, 0, none⟩) 0 0 [] (by rw [hz1]; exact run_firstCells_some w.drew 1 0 _ 0 0 [] rfl (fun j u hj => by cases hj)) (.slice sp p.length cap) p.length (byC p) (by rw [hz1]; exact hsrc) (by omega) (by omega) (by
      rw [hz2]
      have : Builtin.nextslicecap (0 + p.length) 0 ≤ 2 * p.length + 512 := by
        unfold Builtin.nextslicecap
        split <;> omega
      omega)
    unfold Oper.wp execOp
    simp only [ho, resolve, invoke, builtin, Sem.run_bind, Sem.run_pure, Result.andThen_ok, List.map_toArray, List.map_cons, List.map_nil, hs, hx, hr]
    refine hK _ _ (h _ _ ?_ ?_)
    · refine .inr ⟨w.heap.size, 0, grownCap w (0 + p.length) 0 5, by rw [Nat.zero_add], by rw [World.size_alloc]; exact Nat.lt_succ_self _, ?_⟩
      intro j u hj
      have hb := heap_alloc_new w.drew (.cells (([] ++ byC p).toArray ++ Builtin.zeroCells z0.cells (grownCap w (0 + p.length) 0 5 - (0 + p.length))) 5 (0, 0))
      refine cell_at hb ?_
      have hj2 : j < (byC p).length := (List.getElem?_eq_some_iff.1 hj).1
      rw [Nat.zero_add, List.nil_append, Array.getElem?_append_left (by simpa using hj2), List.getElem?_toArray, Nat.zero_add]
      exact hj
    · exact (Below.drew (.refl _ _)).alloc (Nat.le_refl _) _
theorem c_twin (sp : Option Addr) (p : List UInt8) (cap : Nat) (w : World) (hp : p.length ≤ 1000000000)
    (hx : (sp = none ∧ p = []) ∨ ∃ a, sp = some a ∧ ∀ j u, (byC p)[j]? = some u → w.cell? (a.add j) = some u) :
    Calls Tryz.prog 77 #[.slice sp p.length cap] w fun e w' => ∃ v, e = .returned v ∧ Src w' v p ∧ Below w.heap.size w w' := by
  have hsrc : ∀ o, Hid (Go.Src Tryz.prog 1 22 (.slice sp p.length cap) p.length (byC p) (w.alloc o)) := fun o => Hid.mk (by
    rcases hx with ⟨rfl, rfl⟩ | ⟨a, rfl, hx⟩
    · exact Go.Src.ofNil _ Tryz.underlying22 cap
    · exact Go.Src.ofSlice _ Tryz.underlying22 a p.length cap (byC p) (by rw [byC_len]; omega) (fun j u hj => cell_alloc_some o (hx j u hj)) (byC_one _))
  obtain ⟨n, hn⟩ : ∃ n, Hid (p.length = n) := ⟨_, Hid.mk rfl⟩
  rw [hn.out] at hsrc ⊢
  clear hx
  go_enter Tryz.func77, Tryz.ntmps77
  go_wp2_with (at_builtin; refine wpList_app_new rfl _ _ rfl w.heap.size (by simp) rfl sp p cap (by rw [hn.out]; rfl) hp (by rw [hn.out]; exact (hsrc _).out) ?_; intro v w1 hS hB)
  go_ret
  exact ⟨_, rfl, hS, (Below.alloc (.refl _ _) (Nat.le_refl _) _).trans (hB.mono (by simp))⟩
theorem n_does (w : World) (k n : Int) (hk0 : 0 ≤ k) (hk8 : k < 8) (sp : Option Addr) (p : List UInt8) (cap : Nat) (hp : p.length ≤ 1000000000)
    (hx : (sp = none ∧ p = []) ∨ ∃ a, sp = some a ∧ ∀ j u, (byC p)[j]? = some u → w.cell? (a.add j) = some u) :
    Calls Tryz.prog 25 #[.pointer none, .agg #[.int .i64 k, .int .i64 n, .slice sp p.length cap, .slice none 0 0]] w fun e w' => e = .returned (.tuple #[.int .i64 0, .slice none 0 0, .int .i64 2]) ∧ Below w.heap.size w w' := by
  obtain ⟨m, hm⟩ : ∃ m, Hid (p.length = m) := ⟨_, Hid.mk rfl⟩
  have cT : Hid (∀ o, Calls Tryz.prog 77 #[.slice sp m cap] (w.alloc o).drew fun e w' => ∃ v, e = .returned v ∧ Below w.heap.size w w' ∧ Hid (Below (w.alloc o).heap.size (w.alloc o) w')) := Hid.mk fun o => by
    rw [← hm.out]
    refine (c_twin sp p cap (w.alloc o).drew hp ?_).mono ?_
    · rcases hx with h | ⟨a, h1, h2⟩
      · exact .inl h
      · exact .inr ⟨a, h1, fun j u hj => cell_alloc_some o (h2 j u hj)⟩
    · rintro e w' ⟨v, rfl, _, hB⟩
      have h2 : Below (w.alloc o).heap.size (w.alloc o) w' := (Below.drew (.refl _ _)).trans hB
      exact ⟨v, rfl, (Below.alloc (.refl _ _) (Nat.le_refl _) _).trans (h2.mono (by simp)), Hid.mk h2⟩
  have hA : Hid (∀ o, Below w.heap.size w (w.alloc o)) := Hid.mk fun o => Below.alloc (.refl _ _) (Nat.le_refl _) _
  have hN : Hid (∀ o, (w.alloc o).heap[w.heap.size]? = some o) := Hid.mk fun o => heap_alloc_new w o
  rw [hm.out]
  clear hx hp
  have hk : k = 0 ∨ k = 1 ∨ k = 2 ∨ k = 3 ∨ k = 4 ∨ k = 5 ∨ k = 6 ∨ k = 7 := by omega
  clear hk0 hk8
  rcases hk with rfl | rfl | rfl | rfl | rfl | rfl | rfl | rfl
  case inr.inr.inr.inr.inl =>
    go_enter Tryz.func25, Tryz.ntmps25
    go_wp2_with fail
    obtain ⟨z, hz⟩ : ∃ z, Hid (w.heap.size = z) := ⟨_, Hid.mk rfl⟩
    obtain ⟨W, hW⟩ : ∃ W, Hid ((w.alloc (.cells #[.int .i64 4, .int .i64 n, .slice sp m cap, .slice none 0 0] 49)) = W) := ⟨_, Hid.mk rfl⟩
    rw [hW.out, hz.out]
    have cT2 := cT.out (.cells #[.int .i64 4, .int .i64 n, .slice sp m cap, .slice none 0 0] 49)
    have hN2 := hN.out (.cells #[.int .i64 4, .int .i64 n, .slice sp m cap, .slice none 0 0] 49)
    rw [hW.out, hz.out] at hN2
    rw [hW.out] at cT2
    have k1 : W.cell? ⟨z, 1, none⟩ = some (.int .i64 n) := cell_at hN2 rfl
    have k2 : W.cell? ⟨z, 2, none⟩ = some (.slice sp m cap) := cell_at hN2 rfl
    have hzs : Hid (z < W.heap.size) := Hid.mk (by rw [← hW.out, ← hz.out, World.size_alloc]; exact Nat.lt_succ_self _)
    clear hN cT hA hN2
    · have hSw : (fun w' : World => w'.cell? ⟨z, 1, none⟩ = some (.int .i64 n) ∧ w'.cell? ⟨z, 2, none⟩ = some (.slice sp m cap)) W.drew := ⟨k1, k2⟩
      refine wp_region_held_drew (S := (fun w' : World => w'.cell? ⟨z, 1, none⟩ = some (.int .i64 n) ∧ w'.cell? ⟨z, 2, none⟩ = some (.slice sp m cap))) (by kernel_rfl) hSw (fun hHeld => ?_)
      refine wpAnyH_take (i := 0) (oi := _) (v := ?v0) rfl (by kernel_rfl) (by kernel_rfl) (by kernel_rfl) (fun _ _ _ h => h) (Or.inl ⟨by rfl, ?hy0⟩) hSw ?r0
      case hy0 =>
        intro w hSw
        obtain ⟨h1, h2⟩ := hSw
        go_simp
        try rfl
      try simp only [Act.put, List.setIfInBounds_toArray, List.set_cons_zero, List.set_cons_succ]
      refine wpAnyH_take (i := 1) (oi := _) (v := ?v1) rfl (by kernel_rfl) (by kernel_rfl) (by kernel_rfl) (fun _ _ _ h => h) (Or.inl ⟨by rfl, ?hy1⟩) hSw ?r1
      case hy1 =>
        intro w hSw
        obtain ⟨h1, h2⟩ := hSw
        go_simp
        try rfl
      try simp only [Act.put, List.setIfInBounds_toArray, List.set_cons_zero, List.set_cons_succ]
      refine wpAnyH_take (i := 2) (oi := _) (v := ?v2) rfl (by kernel_rfl) (by kernel_rfl) (by kernel_rfl) (fun _ _ _ h => h) (Or.inl ⟨by rfl, ?hy2⟩) hSw ?r2
      case hy2 =>
        intro w hSw
        obtain ⟨h1, h2⟩ := hSw
        go_simp
        try rfl
      try simp only [Act.put, List.setIfInBounds_toArray, List.set_cons_zero, List.set_cons_succ]
      refine wpAnyH_take (i := 3) (oi := _) (v := ?v3) rfl (by kernel_rfl) (by kernel_rfl) (by kernel_rfl) (fun _ _ _ h => h) (Or.inl ⟨by rfl, ?hy3⟩) hSw ?r3
      case hy3 =>
        intro w hSw
        obtain ⟨h1, h2⟩ := hSw
        go_simp
        try rfl
      try simp only [Act.put, List.setIfInBounds_toArray, List.set_cons_zero, List.set_cons_succ]
      refine wpAnyH_take (i := 4) (oi := _) (v := ?v4) rfl (by kernel_rfl) (by kernel_rfl) (by kernel_rfl) (fun _ _ _ h => h) (Or.inl ⟨by rfl, ?hy4⟩) hSw ?r4
      case hy4 =>
        intro w hSw
        obtain ⟨h1, h2⟩ := hSw
        go_simp
        try rfl
      try simp only [Act.put, List.setIfInBounds_toArray, List.set_cons_zero, List.set_cons_succ]
      refine wpAnyH_ready (rs := [5]) (by kernel_rfl) (by decide) (AllReadyH.cons (o := _) rfl (fun K' hK' => ?_) AllReadyH.nil)
      rw [if_pos (by rfl)]
      unfold Oper.wp
      go_simp
      refine cT2.mono ?_
      rintro e w3 ⟨v, rfl, hB, hBz⟩
      have hSw : (fun w' : World => w'.cell? ⟨z, 1, none⟩ = some (.int .i64 n) ∧ w'.cell? ⟨z, 2, none⟩ = some (.slice sp m cap)) w3 := ⟨by rw [hBz.out.cell hzs.out]; exact k1, by rw [hBz.out.cell hzs.out]; exact k2⟩
      refine hK'.out _ _ hSw fun _ => ?_
      clear hK' K'
      try simp only [Act.put, List.setIfInBounds_toArray, List.set_cons_zero, List.set_cons_succ]
      refine wpAnyH_ready (rs := [6]) (by kernel_rfl) (by decide) (AllReadyH.cons (o := _) rfl (fun K' hK' => ?_) AllReadyH.nil)
      rw [if_pos (by rfl)]
      unfold Oper.wp
      go_simp
      refine (n_put _ _ _).mono ?_
      rintro e w4 ⟨rfl, rfl⟩
      refine hK'.out _ _ hSw fun _ => ?_
      clear hK' K'
      try simp only [Act.put, List.setIfInBounds_toArray, List.set_cons_zero, List.set_cons_succ]
      refine wpAnyH_take (i := 7) (oi := _) (v := ?v7) rfl (by kernel_rfl) (by kernel_rfl) (by kernel_rfl) (fun _ _ _ h => h) (Or.inl ⟨by rfl, ?hy7⟩) hSw ?r7
      case hy7 =>
        intro w hSw
        obtain ⟨h1, h2⟩ := hSw
        go_simp
        try rfl
      try simp only [Act.put, List.setIfInBounds_toArray, List.set_cons_zero, List.set_cons_succ]
      refine wpAnyH_take (i := 8) (oi := _) (v := ?v8) rfl (by kernel_rfl) (by kernel_rfl) (by kernel_rfl) (fun _ _ _ h => h) (Or.inl ⟨by rfl, ?hy8⟩) hSw ?r8
      case hy8 =>
        intro w hSw
        obtain ⟨h1, h2⟩ := hSw
        go_simp
        try rfl
      try simp only [Act.put, List.setIfInBounds_toArray, List.set_cons_zero, List.set_cons_succ]
      refine wpAnyH_take (i := 9) (oi := _) (v := ?v9) rfl (by kernel_rfl) (by kernel_rfl) (by kernel_rfl) (fun _ _ _ h => h) (Or.inl ⟨by rfl, ?hy9⟩) hSw ?r9
      case hy9 =>
        intro w hSw
        obtain ⟨h1, h2⟩ := hSw
        go_simp
        try rfl
      try simp only [Act.put, List.setIfInBounds_toArray, List.set_cons_zero, List.set_cons_succ]
      refine wpAnyH_done (by kernel_rfl) ?_ _
      go_wp2
      go_ret3
      exact ⟨rfl, hB⟩
  all_goals
    go_enter Tryz.func25, Tryz.ntmps25
    go_wp2_with (first | (go_at_call 20; refine (n_begin _).mono ?_; rintro e w1 ⟨rfl, rfl⟩) | (go_at_call 19; refine (n_alloc _).mono ?_; rintro e w1 ⟨rfl, rfl⟩) | (go_at_call 23; refine (n_free _ _).mono ?_; rintro e w1 ⟨rfl, rfl⟩) | (go_at_call 46; refine (n_get _ _).mono ?_; rintro e w1 ⟨rfl, rfl⟩) | (go_at_call 21; refine (n_commit _).mono ?_; rintro e w1 ⟨rfl, rfl⟩) | (go_at_call 27; refine (n_abort _).mono ?_; rintro e w1 ⟨rfl, rfl⟩) | (go_at_call 34; refine (n_check _).mono ?_; rintro e w1 ⟨rfl, rfl⟩))
    go_ret3
    exact ⟨rfl, hA.out _⟩
end Go.Proofs.YtoacaikopcdkmaaGreat

namespace Go.Proofs.YtoacaikopcdkmaaGreat
set_option maxRecDepth 100000
open Go.RowKit Go.Sort Go.MapKept Go.Maps Go.WideElems Go.ChangeMaps
theorem block_lt {w : World} {a : Addr} {u : Value} (h : w.cell? a = some u) : a.block < w.heap.size := by
  by_cases hb : a.block < w.heap.size
  · exact hb
  · exfalso
    have : w.heap[a.block]? = none := Array.getElem?_eq_none (by omega)
    unfold World.cell? at h
    simp [this] at h
theorem c_vaultNil (hAw : ∀ w, Calls Tryz.prog 10 #[] w fun e w' => e = .returned (.bool true) ∧ Below w.heap.size w w')
    (w : World) (n : Int) (sp : Option Addr) (p : List UInt8) (cap : Nat) (hp : p.length ≤ 1000000000)
    (hx : (sp = none ∧ p = []) ∨ ∃ a, sp = some a ∧ ∀ j u, (byC p)[j]? = some u → w.cell? (a.add j) = some u) :
    Calls Tryz.prog 6 #[.int .i64 n, .slice sp p.length cap] w fun e w' => e = .returned (.bool true) ∧ Below w.heap.size w w' := by
  have cD : Hid (∀ (W : World) (k : Int), Hid (Below w.heap.size w W) → 0 ≤ k → k < 8 → Calls Tryz.prog 25 #[.pointer none, .agg #[.int .i64 k, .int .i64 n, .slice sp p.length cap, .slice none 0 0]] W fun e w' => e = .returned (.tuple #[.int .i64 0, .slice none 0 0, .int .i64 2]) ∧ Hid (Below w.heap.size w w')) := Hid.mk fun W k hB h0 h8 => by
    refine (n_does W k n h0 h8 sp p cap hp ?_).mono ?_
    · rcases hx with h | ⟨a, h1, h2⟩
      · exact .inl h
      · exact .inr ⟨a, h1, fun j u hj => by
          have := h2 j u hj
          rw [hB.out.cell (block_lt this)]
          exact this⟩
    · rintro e w' ⟨rfl, h⟩
      exact ⟨rfl, Hid.mk (hB.out.trans (h.mono hB.out.size))⟩
  have cA : Calls Tryz.prog 10 #[] w fun e w' => e = .returned (.bool true) ∧ Hid (Below w.heap.size w w') := (hAw w).mono fun e w' h => ⟨h.1, Hid.mk h.2⟩
  obtain ⟨m, hm⟩ : ∃ m, Hid (p.length = m) := ⟨_, Hid.mk rfl⟩
  rw [hm.out] at cD ⊢
  clear hx hp hAw
  go_enter Tryz.func6, Tryz.ntmps6
  go_wp2_with (go_at_call 10; refine cA.mono ?_; rintro e w1 ⟨rfl, hB⟩)
  go_loopw [12] (fun i W => ∃ j : Nat, j ≤ 8 ∧ i = .int .i64 (j : Int) ∧ Hid (Below w.heap.size w W)) (fun i _ => 20 - (intOf i).toNat)
  case atStart => exact ⟨0, by decide, rfl, hB⟩
  case round =>
    obtain ⟨j, hm2, rfl, hBW⟩ := hrel
    by_cases hlt : (j : Int) < 8
    · go_wp2_with (go_at_call 25; refine (cD.out _ _ hBW (by omega) (by omega)).mono ?_; rintro e w2 ⟨rfl, hB2⟩)
      refine ⟨⟨j + 1, by omega, by go_num, hB2⟩, ?_⟩
      simp [intOf]
      omega
    · go_wp2_with (first | (go_at_call 22; refine (n_taken _).mono ?_; rintro e w1 ⟨rfl, rfl⟩) | (go_at_call 31; refine (n_pages _).mono ?_; rintro e w1 ⟨rfl, rfl⟩) | (go_at_call 32; refine (n_gen _).mono ?_; rintro e w1 ⟨rfl, rfl⟩) | (go_at_call 33; refine (n_groups _).mono ?_; rintro e w1 ⟨rfl, rfl⟩) | (go_at_call 26; refine (n_busy _).mono ?_; rintro e w1 ⟨rfl, rfl⟩))
      go_ret
      exact ⟨rfl, hBW.out⟩
end Go.Proofs.YtoacaikopcdkmaaGreat
