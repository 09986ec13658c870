/- tape.Open. No condition. -/
import Derived.Test.YtoacaikopcdkmaaGreatZ13
import Derived.Deep.CutRange
set_option linter.unusedSimpArgs false
set_option linter.unusedVariables false
namespace Go.Proofs.YtoacaikopcdkmaaGreat
open Go.RowKit Go.Sort
/-- A group's slice: nil, or a row that stays. -/
def GrpV (w0 w : World) (x y : Option Nat) (v : Value) (p : List UInt8) : Prop :=
  (v = .slice none 0 0 ∧ p = []) ∨ ∃ b cap, v = .slice (some ⟨b, 0, none⟩) p.length cap ∧ p.length ≤ cap ∧ w0.heap.size ≤ b ∧ b < w.heap.size ∧ w.rangeAt b 0 (byC p) ∧ x ≠ some b ∧ y ≠ some b
/-- The groups so far, and the one that is begun. -/
structure Gs (w0 w : World) (t : Nat) (av gv : Value) (all : List (List UInt8)) (grp : List UInt8) (vals : List Value) : Prop where
  a : w.ownsRow w0.heap.size 22 1 av all.length vals
  g : w.ownsRow w0.heap.size 5 1 gv grp.length (byC grp)
  each : ∀ i (h : i < all.length), ∃ v, vals[i]? = some v ∧ GrpV w0 w av.ownBlock gv.ownBlock v all[i]
  ag : ∀ b, av.ownBlock = some b → gv.ownBlock ≠ some b
  ta : av.ownBlock ≠ some t
  tg : gv.ownBlock ≠ some t
  te : ∀ (i : Nat) (v : Value), vals[i]? = some v → v.ownBlock ≠ some t
def dueV : Option Nat → Int
  | none => -1
  | some u => (u : Int)
theorem GrpV.to {S κ κ' w0 w w' x y v p} (h : GrpV w0 w x y v p) (t : To S κ κ' w w') (hS : ∀ b, w0.heap.size ≤ b → b < w.heap.size → ¬ S (κ b)) : GrpV w0 w' x y v p := by
  rcases h with h | ⟨b, cap, h1, h2, h3, h4, h5, h6, h7⟩
  · exact .inl h
  · exact .inr ⟨b, cap, h1, h2, h3, Nat.lt_of_lt_of_le h4 t.size, rangeAt_to h5 t (hS b h3 h4), h6, h7⟩
theorem own_to {S κ κ' w w' base e size v n xs} (h : World.ownsRow w base e size v n xs) (t : To S κ κ' w w') (hS : ∀ b, base ≤ b → b < w.heap.size → ¬ S (κ b)) : World.ownsRow w' base e size v n xs := by
  refine ⟨h.1, ?_⟩
  rcases h.2 with h | ⟨g, cap, cur, e1, h1, h2, h3⟩
  · exact .inl h
  · have hg := (Array.getElem?_eq_some_iff.1 h2).1
    exact .inr ⟨g, cap, cur, e1, h1, (t.blk g hg (hS g h1 hg)).trans h2, h3⟩
theorem Gs.to {S κ κ' w0 w w' t av gv all grp vals} (h : Gs w0 w t av gv all grp vals) (r : To S κ κ' w w') (hS : ∀ b, w0.heap.size ≤ b → b < w.heap.size → ¬ S (κ b)) : Gs w0 w' t av gv all grp vals :=
  ⟨own_to h.a r hS, own_to h.g r hS, fun i hi => by obtain ⟨v, h1, h2⟩ := h.each i hi; exact ⟨v, h1, h2.to r hS⟩, h.ag, h.ta, h.tg, h.te⟩
/-- What tape.Open answers. -/
def TOAns (κ : Nat → Nat) (c : Nat) (w : World) (a : Nat) (R : Nat × Vm.Tape × List (List UInt8) × Vm.Drum) (e : Ending) (w' : World) : Prop :=
  ∃ (tv : Option Addr) (gv : Value), e = .returned (.tuple #[.pointer tv, gv, .int .i64 (R.1 : Int)]) ∧ DrumAt κ c w' a R.2.2.2 ∧ To (Dc c) κ κ w w' ∧
    (R.1 = 0 → ∃ t vals, tv = some ⟨t, 0, none⟩ ∧ w.heap.size ≤ t ∧ w'.heap[t]? = some (.cells #[.pointer (some ⟨a, 0, none⟩), .int .i64 (R.2.1.lo : Int), .int .i64 (R.2.1.hi : Int), .int .i64 (R.2.1.gen : Int), .int .i64 (R.2.1.place : Int), .int .i64 (R.2.1.groups : Int), .bool R.2.1.down] 168 (0, 0)) ∧ TapeOk R.2.1 ∧
      w'.ownsRow w.heap.size 22 1 gv R.2.2.1.length vals ∧ ∀ i (h : i < R.2.2.1.length), ∃ v, vals[i]? = some v ∧ GrpV w w' none none v R.2.2.1[i])
theorem GrpV.free {w0 w x y v p} (h : GrpV w0 w x y v p) : GrpV w0 w none none v p := by
  rcases h with h | ⟨b, cap, h1, h2, h3, h4, h5, h6, h7⟩
  · exact .inl h
  · exact .inr ⟨b, cap, h1, h2, h3, h4, h5, by simp, by simp⟩
def dueBad (due : Option Nat) (lf sz : Nat) : Bool := match due with | some u => decide (lf ≠ u) || decide (sz = 0) | none => false
theorem scan_step {gen lo k pl : Nat} {d d2 : Vm.Drum} {T : Vm.Tape} {all : List (List UInt8)} {grp b : List UInt8} {due : Option Nat} {lf sz : Nat} {BD : Bool} (hr : d.read (lo + pl) = (0, b, d2)) (hlf : lf = Vm.num ((b.drop 12).take 2)) (hsz : sz = Vm.num ((b.drop 14).take 2))
    (hBD : BD = (decide (48 < sz) || (decide (0 < lf) && decide (sz < 48)) || dueBad due lf sz || !(Vm.Sec.lay ⟨gen, pl, T.groups, lf, sz⟩ ((b.drop 16).take sz) == b))) :
    Vm.Tape.scan gen lo (k + 1) pl d T all grp due = if BD = true then (0, T, all, d2) else if lf = 0 then Vm.Tape.scan gen lo k (pl + 1) d2 { T with groups := T.groups + 1, place := pl + 1 } (all ++ [grp ++ (b.drop 16).take sz]) [] none else Vm.Tape.scan gen lo k (pl + 1) d2 T all (grp ++ (b.drop 16).take sz) (some (lf - 1)) := by
  rw [Vm.Tape.scan, hr, hBD, hlf, hsz]
  rfl
theorem Gs.grow {w0 w w' : World} {t : Nat} {av gv v' : Value} {all : List (List UInt8)} {grp grp' : List UInt8} {vals : List Value} (h : Gs w0 w t av gv all grp vals) (gr : w.grownBy w' gv.ownBlock) (hown : w'.ownsRow w0.heap.size 5 1 v' grp'.length (byC grp')) (hat : v'.ownBlock = gv.ownBlock ∨ v'.ownBlock = some w.heap.size) (ht : t < w.heap.size) : Gs w0 w' t av v' all grp' vals := by
  have hne : av.ownBlock = none ∨ av.ownBlock ≠ gv.ownBlock := by
    cases ha : av.ownBlock with
    | none => exact .inl rfl
    | some b => exact .inr (fun e => h.ag b ha e.symm)
  refine ⟨h.a.kept gr hne, hown, fun i hi => ?_, fun b hb e => ?_, h.ta, fun e => ?_, h.te⟩
  · obtain ⟨v, h1, h2⟩ := h.each i hi
    refine ⟨v, h1, ?_⟩
    rcases h2 with h2 | ⟨b, cap, a1, a2, a3, a4, a5, a6, a7⟩
    · exact .inl h2
    · refine .inr ⟨b, cap, a1, a2, a3, Nat.lt_of_lt_of_le a4 gr.size, rangeAt_grown a5 gr (Ne.symm a7), a6, fun e => ?_⟩
      rcases hat with e2 | e2
      · exact a7 (e2 ▸ e)
      · rw [e2] at e; cases e; omega
  · rcases hat with e2 | e2
    · exact h.ag b hb (e2 ▸ e)
    · rw [e2] at e; cases e
      have := (h.a.lt _ hb).2; omega
  · rcases hat with e2 | e2
    · exact h.tg (e2 ▸ e)
    · rw [e2] at e; cases e; omega
theorem Gs.push {w0 w w' : World} {t : Nat} {av gv nv : Value} {all : List (List UInt8)} {grp : List UInt8} {vals : List Value} (h : Gs w0 w t av gv all grp vals) (gr : w.grownBy w' av.ownBlock) (hown : w'.ownsRow w0.heap.size 22 1 nv (all.length + 1) (vals ++ [gv])) (hat : av.ownBlock = nv.ownBlock ∨ nv.ownBlock = some w.heap.size) (ht : t < w.heap.size) : Gs w0 w' t nv (.slice none 0 0) (all ++ [grp]) [] (vals ++ [gv]) := by
  have hvl : vals.length = all.length := by have := h.a.1; omega
  have key : ∀ v p, GrpV w0 w av.ownBlock none v p → GrpV w0 w' nv.ownBlock none v p := fun v p hv => by
    rcases hv with h2 | ⟨b, cap, a1, a2, a3, a4, a5, a6, a7⟩
    · exact .inl h2
    · refine .inr ⟨b, cap, a1, a2, a3, Nat.lt_of_lt_of_le a4 gr.size, rangeAt_grown a5 gr (Ne.symm a6), fun e => ?_, by simp⟩
      rcases hat with e2 | e2
      · exact a6 (e2.trans e)
      · rw [e2] at e; cases e; omega
  refine ⟨by rw [List.length_append, List.length_singleton]; exact hown, World.ownsRow_nil _ _ _ _, fun i hi => ?_, (fun b _ e => by cases e), fun e => ?_, (fun e => by cases e), fun i v hv => ?_⟩
  · rw [List.length_append, List.length_singleton] at hi
    by_cases hlt : i < all.length
    · obtain ⟨v, h1, h2⟩ := h.each i hlt
      refine ⟨v, by rw [List.getElem?_append_left (by omega)]; exact h1, ?_⟩
      rw [List.getElem_append_left hlt]
      refine key v _ ?_
      rcases h2 with h2 | ⟨b, cap, a1, a2, a3, a4, a5, a6, a7⟩
      · exact .inl h2
      · exact .inr ⟨b, cap, a1, a2, a3, a4, a5, a6, by simp⟩
    · have e : i = all.length := by omega
      subst e
      refine ⟨gv, by rw [← hvl]; simp, ?_⟩
      rw [List.getElem_append_right (by omega)]
      simp only [Nat.sub_self, List.getElem_cons_zero]
      refine key gv _ ?_
      rcases h.g.2 with ⟨e1, e2⟩ | ⟨b, cap, cur, e1, e2, e3, e4, _⟩
      · exact .inl ⟨e1, List.eq_nil_of_length_eq_zero e2⟩
      · have hg := h.g
        rw [e1] at hg
        refine .inr ⟨b, cap, e1, e4, e2, (Array.getElem?_eq_some_iff.1 e3).1, own_range hg, fun e => h.ag b e (by rw [e1]; rfl), by simp⟩
  · rcases hat with e2 | e2
    · exact h.ta (e2.trans e)
    · rw [e2] at e; cases e; omega
  · by_cases hlt : i < vals.length
    · rw [List.getElem?_append_left hlt] at hv; exact h.te i v hv
    · rw [List.getElem?_append_right (by omega)] at hv
      have : i - vals.length = 0 := by
        rcases Nat.eq_zero_or_pos (i - vals.length) with h | h
        · exact h
        · rw [List.getElem?_eq_none (by simp; omega)] at hv; cases hv
      rw [this] at hv; cases hv
      exact h.tg
theorem Gs.far {w0 w w' : World} {t : Nat} {av gv : Value} {all : List (List UInt8)} {grp : List UInt8} {vals : List Value} (h : Gs w0 w t av gv all grp vals) (gr : w.grownBy w' (some t)) : Gs w0 w' t av gv all grp vals := by
  refine ⟨h.a.kept gr (.inr h.ta), h.g.kept gr (.inr h.tg), fun i hi => ?_, h.ag, h.ta, h.tg, h.te⟩
  obtain ⟨v, h1, h2⟩ := h.each i hi
  refine ⟨v, h1, ?_⟩
  have ht := h.te i v h1
  rcases h2 with h2 | ⟨b, cap, a1, a2, a3, a4, a5, a6, a7⟩
  · exact .inl h2
  · exact .inr ⟨b, cap, a1, a2, a3, Nat.lt_of_lt_of_le a4 gr.size, rangeAt_grown a5 gr (fun e => ht (by rw [a1]; exact e)), a6, a7⟩
theorem grown_setCell (w : World) (a : Addr) (v : Value) : w.grownBy (w.setCell a v) (some a.block) :=
  ⟨rfl, rfl, rfl, by simp, fun k _ hk => Below.heap_setCell w a v k (fun e => hk (by rw [e]))⟩
theorem own_one {w : World} {base e size : Nat} {v : Value} {n : Nat} {xs : List Value} (h : w.ownsRow base e size v n xs) : v.oneCell' = true := by
  rcases h.2 with ⟨rfl, _⟩ | ⟨g, cap, cur, rfl, _⟩ <;> rfl
theorem own_some {w : World} {base e size : Nat} {v : Value} {n : Nat} {xs : List Value} (h : w.ownsRow base e size v n xs) (hn : v ≠ .slice none 0 0) : ∃ g cap, v = .slice (some ⟨g, 0, none⟩) n cap := by
  rcases h.2 with ⟨e, _⟩ | ⟨g, cap, cur, e, _⟩
  · exact absurd e hn
  · exact ⟨g, cap, e⟩
theorem num_lt2 (p : List UInt8) (h : p.length ≤ 2) : Vm.num p ≤ 65535 := by
  have e := nv_num p p.length (Nat.le_refl _)
  rw [List.take_of_length_le (Nat.le_refl _)] at e
  rw [← e]
  have := Nat.lt_of_lt_of_le (nv_lt (fun i => p.getD i 0) p.length) (Nat.pow_le_pow_right (by decide) h : 256 ^ p.length ≤ 256 ^ 2)
  omega
set_option maxRecDepth 100000 in
set_option maxHeartbeats 25600000 in
theorem c_topen (κ : Nat → Nat) (c a lo hi gen : Nat) (d : Vm.Drum) (w : World) (hD : DrumAt κ c w a d) (hz : Cz κ w) (hc0 : 1 ≤ c) (hhi : hi ≤ d.now.length) (hlo : lo < hi) (hg1 : 1 ≤ gen) (hg2 : gen ≤ 4294967295) :
    Calls Tryz.prog 102 #[.pointer (some ⟨a, 0, none⟩), .int .i64 (lo : Int), .int .i64 (hi : Int), .int .i64 (gen : Int)] w (TOAns κ c w a (Vm.Tape.open d lo hi gen)) := by
  have hN := hD.1.le
  obtain ⟨N, hNN⟩ : ∃ N, Hid (N = d.now.length) := ⟨_, Hid.mk rfl⟩
  have cs := Hid.mk (c_sectors κ c a d w hD)
  rw [← hNN.out] at hhi hN cs
  have hD' := Hid.mk hD
  have hz' := Hid.mk hz
  clear hD hz
  have hsub : Hid ((hi : Int) - lo = ((hi - lo : Nat) : Int)) := by show _ = _; omega
  have b1 : decide ((lo : Int) < 0) = false := by rw [decide_eq_false_iff_not]; omega
  have b2 : decide (N < hi) = false := by rw [decide_eq_false_iff_not]; omega
  have b3 : decide (hi ≤ lo) = false := by rw [decide_eq_false_iff_not]; omega
  have b4 : decide (65535 < (hi : Int) - lo) = false := by rw [decide_eq_false_iff_not]; omega
  have b5 : decide ((gen : Int) < 1) = false := by rw [decide_eq_false_iff_not]; omega
  have b6 : decide (4294967295 < (gen : Int)) = false := by rw [decide_eq_false_iff_not]; omega
  go_enter Tryz.func102, Tryz.ntmps102
  go_wp2_with (go_at_call 51; refine cs.out.mono ?_; rintro e w' ⟨rfl, hw'⟩; replace hw' := hw'.symm; subst hw')
  have hopen : Hid (Vm.Tape.open d lo hi gen = Vm.Tape.scan gen lo (hi - lo) 0 d ⟨lo, hi, gen, 0, 0, false⟩ [] [] none) := by
    show _ = _
    unfold Vm.Tape.open
    rw [if_neg (by rw [← hNN.out]; omega)]
  go_loopw [12, 13, 14, 61] (fun av gv dv i wr => ∃ (pl : Nat) (av' gv' : Value) (P G : Nat) (dj : Vm.Drum) (all : List (List UInt8)) (grp : List UInt8) (due : Option Nat) (vals : List Value), pl ≤ hi - lo ∧ i = .int .i64 (pl : Int) ∧ av = av' ∧ gv = gv' ∧ dv = .int .i64 (dueV due) ∧
      Hid (Vm.Tape.open d lo hi gen = Vm.Tape.scan gen lo (hi - lo - pl) pl dj ⟨lo, hi, gen, P, G, false⟩ all grp due) ∧ G ≤ P ∧ P ≤ pl ∧ Hid (∀ u, due = some u → u < 65536) ∧ DrumAt κ c wr a dj ∧ To (Dc c) κ κ w wr ∧ Hid (Gs w wr w.heap.size av' gv' all grp vals) ∧ grp.length ≤ 48 * pl ∧ all.length ≤ pl ∧
      Hid (wr.heap[w.heap.size]? = some (.cells #[.pointer (some ⟨a, 0, none⟩), .int .i64 (lo : Int), .int .i64 (hi : Int), .int .i64 (gen : Int), .int .i64 (P : Int), .int .i64 (G : Int), .bool false] 168 (0, 0)))) (fun _ _ _ i _ => hi - lo - (intOf i).toNat)
  case atStart =>
    refine ⟨0, _, _, 0, 0, d, [], [], none, [], by omega, rfl, rfl, rfl, rfl, ?_, Nat.le_refl _, Nat.le_refl _, (fun u hu => by cases hu), ?_, ?_, ?_, by simp, by simp, heap_alloc_new w _⟩
    · exact hopen.out
    · exact hD'.out.to ((To.refl No κ w).alloc _) (fun _ _ h => h)
    · exact (To.refl _ κ w).alloc _
    · exact ⟨World.ownsRow_nil _ _ _ _, World.ownsRow_nil _ _ _ _, fun i h => absurd h (Nat.not_lt_zero _), (fun b hb => by cases hb), (fun h => by cases h), (fun h => by cases h), (fun i v h => by cases h)⟩
  case round =>
    obtain ⟨pl, av, gv, P, G, dj, all, grp, due, vals, hpl, rfl, hav, hgv, rfl, hsc, hGP, hPp, hdue, hDr, hTr, hGs, hgl, hal, hrow⟩ := hrel
    replace hav := hav.symm
    replace hgv := hgv.symm
    subst hav
    subst hgv
    by_cases hlt : pl < hi - lo
    · obtain ⟨e2, b, d2, hrd⟩ := trip_ex (dj.read (lo + pl))
      have eB : (lo : Int) + (pl : Int) = ((lo + pl : Nat) : Int) := by omega
      by_cases he : e2 = 0
      · subst he
        have cR : Hid (Calls Tryz.prog 97 #[.pointer (some ⟨a, 0, none⟩), .int .i64 ((lo : Int) + (pl : Int))] wr fun e w' => ∃ g cp, e = .returned (.tuple #[.slice (some ⟨g, 0, none⟩) 64 cp, .int .i64 0]) ∧ wr.heap.size ≤ g ∧ 64 ≤ cp ∧ w'.rangeAt g 0 (byC b) ∧ DrumAt κ c w' a d2 ∧ To (Dc c) κ κ wr w') := by
          show Calls _ _ _ _ _
          rw [eB]; exact c_read0 κ c a (lo + pl) _ wr hDr hrd.out
        have hbl := Hid.mk (read_wid hDr.1 hrd.out)
        obtain ⟨lf, hlf⟩ : ∃ lf, Hid (lf = Vm.num ((b.drop 12).take 2)) := ⟨_, Hid.mk rfl⟩
        obtain ⟨sz, hsz⟩ : ∃ sz, Hid (sz = Vm.num ((b.drop 14).take 2)) := ⟨_, Hid.mk rfl⟩
        have hlf2 : lf ≤ 65535 := by rw [hlf.out]; exact num_lt2 _ (by rw [List.length_take]; omega)
        have hsz2 : sz ≤ 65535 := by rw [hsz.out]; exact num_lt2 _ (by rw [List.length_take]; omega)
        have cA : Hid (∀ W g cp, 64 ≤ cp → W.rangeAt g 0 (byC b) → Calls Tryz.prog 104 #[.slice (some ⟨g, 12, none⟩) 52 (cp - 12), .int .i64 2] W fun e w' => e = .returned (.int .u64 (lf : Int)) ∧ w' = W) := fun W g cp hcp h => by
          rw [hlf.out]; exact c_ofL g 12 52 (cp - 12) 2 (b.drop 12) W (by omega) (by omega) (by omega) (by rw [List.length_drop, hbl.out]; omega) (by have := range_from h 12; rwa [Nat.zero_add] at this)
        have cZ : Hid (∀ W g cp, 64 ≤ cp → W.rangeAt g 0 (byC b) → Calls Tryz.prog 104 #[.slice (some ⟨g, 14, none⟩) 50 (cp - 14), .int .i64 2] W fun e w' => e = .returned (.int .u64 (sz : Int)) ∧ w' = W) := fun W g cp hcp h => by
          rw [hsz.out]; exact c_ofL g 14 50 (cp - 14) 2 (b.drop 14) W (by omega) (by omega) (by omega) (by rw [List.length_drop, hbl.out]; omega) (by have := range_from h 14; rwa [Nat.zero_add] at this)
        have hk0 : Hid (∀ b, w.heap.size ≤ b → ¬ Dc c (κ b)) := fun b hb h => by rw [hz'.out b hb] at h; have := h.1; omega
        have htl : Hid (w.heap.size < wr.heap.size) := (Array.getElem?_eq_some_iff.1 hrow.out).1
        have hDr' := Hid.mk hDr
        clear hDr eB
        go_wp2_with (go_at_call 97; refine cR.out.mono ?_; rintro e w3 ⟨g, cp, rfl, hg, hcp, hr3, hD3, hT3⟩; have hr3' := Hid.mk hr3; clear hr3)
        have hbA : Hid (To (Dc c) κ κ w w3) := hTr.trans hT3
        have hr3row : Hid (w3.heap[w.heap.size]? = some (.cells #[.pointer (some ⟨a, 0, none⟩), .int .i64 (lo : Int), .int .i64 (hi : Int), .int .i64 (gen : Int), .int .i64 (P : Int), .int .i64 (G : Int), .bool false] 168 (0, 0))) := (hT3.blk _ htl.out (hk0.out _ (Nat.le_refl _))).trans hrow.out
        have t5 : w3.cell? ⟨w.heap.size, 5, none⟩ = some (.int .i64 (G : Int)) := cell_at hr3row.out rfl
        have hc12 : ¬ (cp = 12) := by omega
        have hc14 : ¬ (cp = 14) := by omega
        have y1 : IntKind.u32.wrap (gen : Int) = gen := wrap_u32 _ (by omega) (by omega)
        have y2 : IntKind.u16.wrap (pl : Int) = pl := wrap_u16 _ (by omega) (by omega)
        have y3 : IntKind.u16.wrap (G : Int) = G := wrap_u16 _ (by omega) (by omega)
        have y4 : IntKind.u16.wrap (lf : Int) = lf := wrap_u16 _ (by omega) (by omega)
        have y5 : IntKind.u16.wrap (sz : Int) = sz := wrap_u16 _ (by omega) (by omega)
        have hcp16 : (16 : Int) ≤ (cp : Int) := by omega
        have hr3 := hr3'.out
        go_cut [18] from 75 to 92 (fun s wx => s = .pointer (some ⟨w3.heap.size, 0, none⟩) ∧ wx = (w3.alloc (.cells #[.int .u32 (gen : Int), .int .u16 (pl : Int), .int .u16 (G : Int), .int .u16 (lf : Int), .int .u16 (sz : Int)] 172)).drew)
        case first =>
          go_region_held3 (fun w' => w'.cell? ⟨w.heap.size, 5, none⟩ = some (.int .i64 (G : Int)) ∧ w'.rangeAt g 0 (byC b))
            (first | exact ⟨t5, hr3⟩ | exact ⟨by first | assumption | go_keep, World.rangeAt_alloc hr3 _⟩ | (go_split_ands; exact ⟨by assumption, by assumption⟩) | go_keep)
            (first | (go_at_call 104; (with_reducible refine (cA.out _ g cp hcp ?_).mono ?_); (go_split_ands; assumption); rintro e w' ⟨rfl, rfl⟩) | (go_at_call 104; (with_reducible refine (cZ.out _ g cp hcp ?_).mono ?_); (go_split_ands; assumption); rintro e w' ⟨rfl, rfl⟩))
          all_goals (go_wp2_with fail; go_meet; exact ⟨rfl, rfl⟩)
        case rest =>
          obtain ⟨rfl, hwc⟩ := hcut
          have hwr : Hid (wc.heap[w3.heap.size]? = some (.cells #[.int .u32 (gen : Int), .int .u16 (pl : Int), .int .u16 (G : Int), .int .u16 (lf : Int), .int .u16 (sz : Int)] 172 (0, 0))) := by show _ = _; rw [hwc]; exact heap_alloc_new w3 _
          have hbc : Below w3.heap.size w3 wc := by rw [hwc]; exact ((Below.refl _ _).alloc (Nat.le_refl _) _).drew
          clear hwc y1 y2 y3 y4 y5
          have l0 : wc.cell? ⟨w3.heap.size, 0, none⟩ = some (.int .u32 (gen : Int)) := cell_at hwr.out rfl
          have l1 : wc.cell? ⟨w3.heap.size, 1, none⟩ = some (.int .u16 (pl : Int)) := cell_at hwr.out rfl
          have l2 : wc.cell? ⟨w3.heap.size, 2, none⟩ = some (.int .u16 (G : Int)) := cell_at hwr.out rfl
          have l3 : wc.cell? ⟨w3.heap.size, 3, none⟩ = some (.int .u16 (lf : Int)) := cell_at hwr.out rfl
          have l4 : wc.cell? ⟨w3.heap.size, 4, none⟩ = some (.int .u16 (sz : Int)) := cell_at hwr.out rfl
          go_wp2_with fail
          go_quiet (fail)
          go_wp2_with fail
          obtain ⟨BD, hBD⟩ : ∃ BD : Bool, Hid (BD = (decide (48 < sz) || (decide (0 < lf) && decide (sz < 48)) || dueBad due lf sz || !(Vm.Sec.lay ⟨gen, pl, G, lf, sz⟩ ((b.drop 16).take sz) == b))) := ⟨_, Hid.mk rfl⟩
          obtain ⟨wq, hwq⟩ : ∃ wq, Hid (wq = wc.drewN nq) := ⟨_, Hid.mk rfl⟩
          rw [← hwq.out]
          have hwqb : Hid (Below w3.heap.size w3 wq) := by show Below _ _ _; rw [hwq.out]; exact ⟨hbc.os, hbc.tape, hbc.output, hbc.size, hbc.block⟩
          have hwqd : Hid (Below w3.heap.size w3 wq.drew) := hwqb.out.drew
          have hwqr : Hid (wq.heap[w3.heap.size]? = some (.cells #[.int .u32 (gen : Int), .int .u16 (pl : Int), .int .u16 (G : Int), .int .u16 (lf : Int), .int .u16 (sz : Int)] 172 (0, 0))) := by show _ = _; rw [hwq.out]; exact hwr.out
          have k0 : wq.cell? ⟨w3.heap.size, 0, none⟩ = some (.int .u32 (gen : Int)) := cell_at hwqr.out rfl
          have k1 : wq.cell? ⟨w3.heap.size, 1, none⟩ = some (.int .u16 (pl : Int)) := cell_at hwqr.out rfl
          have k2 : wq.cell? ⟨w3.heap.size, 2, none⟩ = some (.int .u16 (G : Int)) := cell_at hwqr.out rfl
          have k3 : wq.cell? ⟨w3.heap.size, 3, none⟩ = some (.int .u16 (lf : Int)) := cell_at hwqr.out rfl
          have k4 : wq.cell? ⟨w3.heap.size, 4, none⟩ = some (.int .u16 (sz : Int)) := cell_at hwqr.out rfl
          have hgl : Hid (g < w3.heap.size) := World.block_lt_of_cell? (a := ⟨g, 0 + 0, none⟩) w3 (hr3 0 _ (List.getElem?_eq_getElem (by rw [byC_len, hbl.out]; decide)))
          obtain ⟨sc, hsc2⟩ : ∃ sc, Hid (sc = Vm.Sec.lay ⟨gen, pl, G, lf, sz⟩ ((b.drop 16).take sz)) := ⟨_, Hid.mk rfl⟩
          rw [← hsc2.out] at hBD
          go_cut [132] from 99 to 131 (fun s wx => s = .bool BD ∧ Below w3.heap.size w3 wx)
          case first =>
            by_cases h1 : 48 < sz
            · have hb1 : Hid (BD = true) := by show _ = _; rw [hBD.out]; simp [h1]
              have i1 : (48 : Int) < (sz : Int) := by omega
              go_quiet (fail)
              go_wp2_with fail
              go_meet
              exact ⟨by rw [hb1.out], by rw [hwq.out]; exact ⟨hbc.os, hbc.tape, hbc.output, hbc.size, hbc.block⟩⟩
            · have i1 : decide ((48 : Int) < (sz : Int)) = false := by rw [decide_eq_false_iff_not]; omega
              have i1n : decide (48 < sz) = false := by rw [decide_eq_false_iff_not]; omega
              by_cases h2 : 0 < lf ∧ sz < 48
              · have hb1 : Hid (BD = true) := by show _ = _; rw [hBD.out]; simp [h2]
                have i2 : (0 : Int) < (lf : Int) := by omega
                have i3 : (sz : Int) < (48 : Int) := by omega
                go_quiet (fail)
                go_wp2_with fail
                go_meet
                exact ⟨by rw [hb1.out], by rw [hwq.out]; exact ⟨hbc.os, hbc.tape, hbc.output, hbc.size, hbc.block⟩⟩
              · have hsz48 : sz ≤ 48 := by omega
                have cEq : Hid (∀ V h, V.rangeAt h 0 (byC sc) → Below w3.heap.size w3 V → Calls Tryz.prog 137 #[.slice (some ⟨h, 0, none⟩) 64 64, .slice (some ⟨g, 0, none⟩) 64 cp] V fun e w' => e = .returned (.bool (sc == b)) ∧ w' = V) := fun V h hh hV =>
                  c_equal h 0 64 64 g 0 64 cp sc b V (by rw [hsc2.out]; exact Vm.sec_len _ (by rw [List.length_take]; omega)) hbl.out hh (rangeAt_below hr3'.out hV hgl.out)
                have cLy : Hid (∀ V, Below w3.heap.size w3 V → Calls Tryz.prog 117 #[.agg #[.int .u32 (gen : Int), .int .u16 (pl : Int), .int .u16 (G : Int), .int .u16 (lf : Int), .int .u16 (sz : Int)], .slice (some ⟨g, 16, none⟩) sz (cp - 16)] V fun e w' => ∃ h, e = .returned (.slice (some ⟨h, 0, none⟩) 64 64) ∧ V.heap.size ≤ h ∧ w'.rangeAt h 0 (byC sc) ∧ Below V.heap.size V w') := fun V hV => by
                  have hr16 : V.rangeAt g 16 (byC ((b.drop 16).take sz)) := by
                    have := rangeAt_part (rangeAt_below hr3'.out hV hgl.out) 16 sz
                    rw [byC_drop, byC_take, Nat.zero_add] at this; exact this
                  have := c_laySec gen pl G lf sz g 16 (cp - 16) (by omega) (by omega) (by omega) (by omega) (by omega) ((b.drop 16).take sz) sz hsz48 (by rw [List.length_take, List.length_drop, hbl.out]; omega) V hr16 (Nat.lt_of_lt_of_le hgl.out hV.size)
                  rw [← hsc2.out] at this
                  refine this.mono ?_
                  rintro e w' ⟨g, rfl, hown, hb⟩
                  exact ⟨g, rfl, (hown.lt g rfl).1, own_range hown, hb⟩
                have z1 : IntKind.i64.wrap (16 + (sz : Int)) = 16 + sz := by rw [IntKind.wrap_i64]; omega
                have z2 : ((16 : Int) + (sz : Int)).toNat - 16 = sz := by omega
                have z3 : (16 : Int) ≤ 16 + (sz : Int) := by omega
                have z4 : (16 : Int) + (sz : Int) ≤ (cp : Int) := by omega
                have z5 : ((16 : Int) + (sz : Int)).toNat = 16 + sz := by omega
                have z6 : ¬ (cp = 16) := by omega
                have hA : (lf = 0 ∧ decide ((0 : Int) < (lf : Int)) = false ∧ decide (0 < lf) = false) ∨ (0 < lf ∧ decide ((0 : Int) < (lf : Int)) = true ∧ decide ((sz : Int) < 48) = false ∧ decide (sz < 48) = false ∧ sz = 48) := by
                  by_cases h0 : lf = 0
                  · exact .inl ⟨h0, by rw [decide_eq_false_iff_not]; omega, by rw [decide_eq_false_iff_not]; omega⟩
                  · exact .inr ⟨by omega, by rw [decide_eq_true_eq]; omega, by rw [decide_eq_false_iff_not]; omega, by rw [decide_eq_false_iff_not]; omega, by omega⟩
                have hbad2 : Hid ((decide (0 < lf) && decide (sz < 48)) = false) := by
                  show _ = _
                  rcases hA with ⟨_, _, h⟩ | ⟨_, _, _, h, _⟩ <;> rw [h] <;> simp
                rw [decide_eq_false (show ¬ 48 < sz from h1), hbad2.out, Bool.false_or, Bool.false_or] at hBD
                clear h2
                rcases due with _ | u
                · have hb1 : Hid (BD = !(sc == b)) := by show _ = _; rw [hBD.out]; simp [dueBad]
                  have e1 : dueV none = -1 := rfl
                  rcases hA with ⟨a1, a2, a3⟩ | ⟨a1, a2, a3, a4, a5⟩
                  · have hlf0 := Hid.mk a1
                    clear a1
                    refine wp_region_held_drew (S := (fun w' => w'.cell? ⟨w3.heap.size, 0, none⟩ = some (.int .u32 (gen : Int)) ∧ w'.cell? ⟨w3.heap.size, 1, none⟩ = some (.int .u16 (pl : Int)) ∧ w'.cell? ⟨w3.heap.size, 2, none⟩ = some (.int .u16 (G : Int)) ∧ w'.cell? ⟨w3.heap.size, 3, none⟩ = some (.int .u16 (lf : Int)) ∧ w'.cell? ⟨w3.heap.size, 4, none⟩ = some (.int .u16 (sz : Int)))) (by kernel_rfl) ⟨k0, k1, k2, k3, k4⟩ (fun hHeld => ?_)
                    refine wpAnyH_take (i := 0) (oi := ⟨some 99, _, _, _, _, _⟩) (v := ?_) rfl (by kernel_rfl) (by kernel_rfl) (by kernel_rfl) (fun _ _ _ h => h) (Or.inl ⟨?_, ?_⟩) (by assumption) ?_
                    rotate_left
                    · rfl
                    · (intro w hSw; (try dsimp only at hSw); go_simp; (try with_reducible rfl))
                    simp only [Act.put, List.setIfInBounds_toArray, List.set_cons_zero, List.set_cons_succ]
                    refine wpAnyH_take (i := 1) (oi := ⟨some 100, _, _, _, _, _⟩) (v := ?_) rfl (by kernel_rfl) (by kernel_rfl) (by kernel_rfl) (fun _ _ _ h => h) (Or.inl ⟨?_, ?_⟩) (by assumption) ?_
                    rotate_left
                    · rfl
                    · (intro w hSw; (try dsimp only at hSw); go_simp; (try with_reducible rfl))
                    simp only [Act.put, List.setIfInBounds_toArray, List.set_cons_zero, List.set_cons_succ]
                    refine wpAnyH_take (i := 2) (oi := ⟨some 101, _, _, _, _, _⟩) (v := ?_) rfl (by kernel_rfl) (by kernel_rfl) (by kernel_rfl) (fun _ _ _ h => h) (Or.inl ⟨?_, ?_⟩) (by assumption) ?_
                    rotate_left
                    · rfl
                    · (intro w hSw; (try dsimp only at hSw); go_simp; (try with_reducible rfl))
                    simp only [Act.put, List.setIfInBounds_toArray, List.set_cons_zero, List.set_cons_succ]
                    refine wpAnyH_take (i := 3) (oi := ⟨some 102, _, _, _, _, _⟩) (v := ?_) rfl (by kernel_rfl) (by kernel_rfl) (by kernel_rfl) (fun _ _ _ h => h) (Or.inl ⟨?_, ?_⟩) (by assumption) ?_
                    rotate_left
                    · rfl
                    · (intro w hSw; (try dsimp only at hSw); go_simp; (try with_reducible rfl))
                    simp only [Act.put, List.setIfInBounds_toArray, List.set_cons_zero, List.set_cons_succ]
                    refine wpAnyH_take (i := 4) (oi := ⟨some 103, _, _, _, _, _⟩) (v := ?_) rfl (by kernel_rfl) (by kernel_rfl) (by kernel_rfl) (fun _ _ _ h => h) (Or.inl ⟨?_, ?_⟩) (by assumption) ?_
                    rotate_left
                    · rfl
                    · (intro w hSw; (try dsimp only at hSw); go_simp; (try with_reducible rfl))
                    simp only [Act.put, List.setIfInBounds_toArray, List.set_cons_zero, List.set_cons_succ]
                    refine wpAnyH_take (i := 5) (oi := ⟨some 104, _, _, _, _, _⟩) (v := ?_) rfl (by kernel_rfl) (by kernel_rfl) (by kernel_rfl) (fun _ _ _ h => h) (Or.inl ⟨?_, ?_⟩) (by assumption) ?_
                    rotate_left
                    · rfl
                    · (intro w hSw; (try dsimp only at hSw); go_simp; (try with_reducible rfl))
                    simp only [Act.put, List.setIfInBounds_toArray, List.set_cons_zero, List.set_cons_succ]
                    refine wpAnyH_take (i := 6) (oi := ⟨some 105, _, _, _, _, _⟩) (v := undef) rfl (by kernel_rfl) (by kernel_rfl) (by kernel_rfl) (fun _ _ _ h => h) (Or.inr ⟨?_, rfl⟩) (by assumption) ?_
                    · rfl
                    simp only [Act.put, List.setIfInBounds_toArray, List.set_cons_zero, List.set_cons_succ]
                    refine wpAnyH_take (i := 7) (oi := ⟨some 106, _, _, _, _, _⟩) (v := undef) rfl (by kernel_rfl) (by kernel_rfl) (by kernel_rfl) (fun _ _ _ h => h) (Or.inr ⟨?_, rfl⟩) (by assumption) ?_
                    · rfl
                    simp only [Act.put, List.setIfInBounds_toArray, List.set_cons_zero, List.set_cons_succ]
                    refine wpAnyH_take (i := 8) (oi := ⟨some 107, _, _, _, _, _⟩) (v := ?_) rfl (by kernel_rfl) (by kernel_rfl) (by kernel_rfl) (fun _ _ _ h => h) (Or.inl ⟨?_, ?_⟩) (by assumption) ?_
                    rotate_left
                    · rfl
                    · (intro w hSw; (try dsimp only at hSw); go_simp; (try with_reducible rfl))
                    simp only [Act.put, List.setIfInBounds_toArray, List.set_cons_zero, List.set_cons_succ]
                    refine wpAnyH_take (i := 9) (oi := ⟨some 108, _, _, _, _, _⟩) (v := ?_) rfl (by kernel_rfl) (by kernel_rfl) (by kernel_rfl) (fun _ _ _ h => h) (Or.inl ⟨?_, ?_⟩) (by assumption) ?_
                    rotate_left
                    · rfl
                    · (intro w hSw; (try dsimp only at hSw); go_simp; (try with_reducible rfl))
                    simp only [Act.put, List.setIfInBounds_toArray, List.set_cons_zero, List.set_cons_succ]
                    refine wpAnyH_take (i := 10) (oi := ⟨some 109, _, _, _, _, _⟩) (v := ?_) rfl (by kernel_rfl) (by kernel_rfl) (by kernel_rfl) (fun _ _ _ h => h) (Or.inl ⟨?_, ?_⟩) (by assumption) ?_
                    rotate_left
                    · rfl
                    · (intro w hSw; (try dsimp only at hSw); go_simp; (try with_reducible rfl))
                    simp only [Act.put, List.setIfInBounds_toArray, List.set_cons_zero, List.set_cons_succ]
                    refine wpAnyH_take (i := 11) (oi := ⟨some 110, _, _, _, _, _⟩) (v := ?_) rfl (by kernel_rfl) (by kernel_rfl) (by kernel_rfl) (fun _ _ _ h => h) (Or.inl ⟨?_, ?_⟩) (by assumption) ?_
                    rotate_left
                    · rfl
                    · (intro w hSw; (try dsimp only at hSw); go_simp; (try with_reducible rfl))
                    simp only [Act.put, List.setIfInBounds_toArray, List.set_cons_zero, List.set_cons_succ]
                    refine wpAnyH_take (i := 12) (oi := ⟨some 111, _, _, _, _, _⟩) (v := ?_) rfl (by kernel_rfl) (by kernel_rfl) (by kernel_rfl) (fun _ _ _ h => h) (Or.inl ⟨?_, ?_⟩) (by assumption) ?_
                    rotate_left
                    · rfl
                    · (intro w hSw; (try dsimp only at hSw); go_simp; (try with_reducible rfl))
                    simp only [Act.put, List.setIfInBounds_toArray, List.set_cons_zero, List.set_cons_succ]
                    refine wpAnyH_take (i := 13) (oi := ⟨some 112, _, _, _, _, _⟩) (v := ?_) rfl (by kernel_rfl) (by kernel_rfl) (by kernel_rfl) (fun _ _ _ h => h) (Or.inl ⟨?_, ?_⟩) (by assumption) ?_
                    rotate_left
                    · rfl
                    · (intro w hSw; (try dsimp only at hSw); go_simp; (try with_reducible rfl))
                    simp only [Act.put, List.setIfInBounds_toArray, List.set_cons_zero, List.set_cons_succ]
                    refine wpAnyH_take (i := 14) (oi := ⟨some 113, _, _, _, _, _⟩) (v := undef) rfl (by kernel_rfl) (by kernel_rfl) (by kernel_rfl) (fun _ _ _ h => h) (Or.inr ⟨?_, rfl⟩) (by assumption) ?_
                    · rfl
                    simp only [Act.put, List.setIfInBounds_toArray, List.set_cons_zero, List.set_cons_succ]
                    refine wpAnyH_take (i := 15) (oi := ⟨some 114, _, _, _, _, _⟩) (v := undef) rfl (by kernel_rfl) (by kernel_rfl) (by kernel_rfl) (fun _ _ _ h => h) (Or.inr ⟨?_, rfl⟩) (by assumption) ?_
                    · rfl
                    simp only [Act.put, List.setIfInBounds_toArray, List.set_cons_zero, List.set_cons_succ]
                    refine wpAnyH_take (i := 16) (oi := ⟨some 115, _, _, _, _, _⟩) (v := undef) rfl (by kernel_rfl) (by kernel_rfl) (by kernel_rfl) (fun _ _ _ h => h) (Or.inr ⟨?_, rfl⟩) (by assumption) ?_
                    · rfl
                    simp only [Act.put, List.setIfInBounds_toArray, List.set_cons_zero, List.set_cons_succ]
                    refine wpAnyH_take (i := 17) (oi := ⟨some 116, _, _, _, _, _⟩) (v := undef) rfl (by kernel_rfl) (by kernel_rfl) (by kernel_rfl) (fun _ _ _ h => h) (Or.inr ⟨?_, rfl⟩) (by assumption) ?_
                    · rfl
                    simp only [Act.put, List.setIfInBounds_toArray, List.set_cons_zero, List.set_cons_succ]
                    refine wpAnyH_take (i := 18) (oi := ⟨some 117, _, _, _, _, _⟩) (v := undef) rfl (by kernel_rfl) (by kernel_rfl) (by kernel_rfl) (fun _ _ _ h => h) (Or.inr ⟨?_, rfl⟩) (by assumption) ?_
                    · rfl
                    simp only [Act.put, List.setIfInBounds_toArray, List.set_cons_zero, List.set_cons_succ]
                    refine wpAnyH_take (i := 19) (oi := ⟨some 118, _, _, _, _, _⟩) (v := undef) rfl (by kernel_rfl) (by kernel_rfl) (by kernel_rfl) (fun _ _ _ h => h) (Or.inr ⟨?_, rfl⟩) (by assumption) ?_
                    · rfl
                    simp only [Act.put, List.setIfInBounds_toArray, List.set_cons_zero, List.set_cons_succ]
                    refine wpAnyH_take (i := 20) (oi := ⟨some 119, _, _, _, _, _⟩) (v := undef) rfl (by kernel_rfl) (by kernel_rfl) (by kernel_rfl) (fun _ _ _ h => h) (Or.inr ⟨?_, rfl⟩) (by assumption) ?_
                    · rfl
                    simp only [Act.put, List.setIfInBounds_toArray, List.set_cons_zero, List.set_cons_succ]
                    refine wpAnyH_take (i := 21) (oi := ⟨some 120, _, _, _, _, _⟩) (v := ?_) rfl (by kernel_rfl) (by kernel_rfl) (by kernel_rfl) (fun _ _ _ h => h) (Or.inl ⟨?_, ?_⟩) (by assumption) ?_
                    rotate_left
                    · rfl
                    · (intro w hSw; (try dsimp only at hSw); go_simp; (try with_reducible rfl))
                    simp only [Act.put, List.setIfInBounds_toArray, List.set_cons_zero, List.set_cons_succ]
                    refine wpAnyH_take (i := 22) (oi := ⟨some 121, _, _, _, _, _⟩) (v := ?_) rfl (by kernel_rfl) (by kernel_rfl) (by kernel_rfl) (fun _ _ _ h => h) (Or.inl ⟨?_, ?_⟩) (by assumption) ?_
                    rotate_left
                    · rfl
                    · (intro w hSw; (try dsimp only at hSw); go_simp; (try with_reducible rfl))
                    simp only [Act.put, List.setIfInBounds_toArray, List.set_cons_zero, List.set_cons_succ]
                    refine wpAnyH_take (i := 23) (oi := ⟨some 122, _, _, _, _, _⟩) (v := ?_) rfl (by kernel_rfl) (by kernel_rfl) (by kernel_rfl) (fun _ _ _ h => h) (Or.inl ⟨?_, ?_⟩) (by assumption) ?_
                    rotate_left
                    · rfl
                    · (intro w hSw; (try dsimp only at hSw); go_simp; (try with_reducible rfl))
                    simp only [Act.put, List.setIfInBounds_toArray, List.set_cons_zero, List.set_cons_succ]
                    refine wpAnyH_take (i := 24) (oi := ⟨some 123, _, _, _, _, _⟩) (v := ?_) rfl (by kernel_rfl) (by kernel_rfl) (by kernel_rfl) (fun _ _ _ h => h) (Or.inl ⟨?_, ?_⟩) (by assumption) ?_
                    rotate_left
                    · rfl
                    · (intro w hSw; (try dsimp only at hSw); go_simp; (try with_reducible rfl))
                    simp only [Act.put, List.setIfInBounds_toArray, List.set_cons_zero, List.set_cons_succ]
                    refine wpAnyH_take (i := 25) (oi := ⟨some 124, _, _, _, _, _⟩) (v := ?_) rfl (by kernel_rfl) (by kernel_rfl) (by kernel_rfl) (fun _ _ _ h => h) (Or.inl ⟨?_, ?_⟩) (by assumption) ?_
                    rotate_left
                    · rfl
                    · (intro w hSw; (try dsimp only at hSw); go_simp; (try with_reducible rfl))
                    simp only [Act.put, List.setIfInBounds_toArray, List.set_cons_zero, List.set_cons_succ]
                    refine wpAnyH_take (i := 26) (oi := ⟨some 125, _, _, _, _, _⟩) (v := ?_) rfl (by kernel_rfl) (by kernel_rfl) (by kernel_rfl) (fun _ _ _ h => h) (Or.inl ⟨?_, ?_⟩) (by assumption) ?_
                    rotate_left
                    · rfl
                    · (intro w hSw; (try dsimp only at hSw); go_simp; (try with_reducible rfl))
                    simp only [Act.put, List.setIfInBounds_toArray, List.set_cons_zero, List.set_cons_succ]
                    refine wpAnyH_take (i := 27) (oi := ⟨some 126, _, _, _, _, _⟩) (v := ?_) rfl (by kernel_rfl) (by kernel_rfl) (by kernel_rfl) (fun _ _ _ h => h) (Or.inl ⟨?_, ?_⟩) (by assumption) ?_
                    rotate_left
                    · rfl
                    · (intro w hSw; (try dsimp only at hSw); go_simp; (try with_reducible rfl))
                    simp only [Act.put, List.setIfInBounds_toArray, List.set_cons_zero, List.set_cons_succ]
                    refine wpAnyH_take (i := 28) (oi := ⟨some 127, _, _, _, _, _⟩) (v := ?_) rfl (by kernel_rfl) (by kernel_rfl) (by kernel_rfl) (fun _ _ _ h => h) (Or.inl ⟨?_, ?_⟩) (by assumption) ?_
                    rotate_left
                    · rfl
                    · (intro w hSw; (try dsimp only at hSw); go_simp; (try with_reducible rfl))
                    simp only [Act.put, List.setIfInBounds_toArray, List.set_cons_zero, List.set_cons_succ]
                    refine wpAnyH_take (i := 30) (oi := ⟨some 129, _, _, _, _, _⟩) (v := ?_) rfl (by kernel_rfl) (by kernel_rfl) (by kernel_rfl) (fun _ _ _ h => h) (Or.inl ⟨?_, ?_⟩) (by assumption) ?_
                    rotate_left
                    · rfl
                    · (intro w hSw; (try dsimp only at hSw); go_simp; (try with_reducible rfl))
                    simp only [Act.put, List.setIfInBounds_toArray, List.set_cons_zero, List.set_cons_succ]
                    refine wpAnyH_ready (rs := [29]) (by kernel_rfl) (by simp) ?_
                    refine AllReadyH.cons (o := ⟨some 128, _, _, _, _, _⟩) rfl (fun K hK => ?_) AllReadyH.nil
                    go_simp
                    refine (cLy.out wq.drew hwqd.out).mono ?_
                    rintro e w5 ⟨h, rfl, hh, hrh, hbL⟩
                    refine hK.out _ _ ⟨keepB hbL (Nat.le_refl _) k0, keepB hbL (Nat.le_refl _) k1, keepB hbL (Nat.le_refl _) k2, keepB hbL (Nat.le_refl _) k3, keepB hbL (Nat.le_refl _) k4⟩ (fun hHeld2 => ?_)
                    clear hK K hHeld
                    try simp only [Act.put, List.setIfInBounds_toArray, List.set_cons_zero, List.set_cons_succ]
                    refine wpAnyH_ready (rs := [31]) (by kernel_rfl) (by simp) ?_
                    refine AllReadyH.cons (o := ⟨some 130, _, _, _, _, _⟩) rfl (fun K hK => ?_) AllReadyH.nil
                    go_simp
                    refine (cEq.out w5 h hrh (hwqd.out.trans (hbL.mono hwqd.out.size))).mono ?_
                    rintro e w6 ⟨rfl, rfl⟩
                    refine hK.out _ _ hHeld2 (fun hHeld3 => ?_)
                    clear hK K
                    try simp only [Act.put, List.setIfInBounds_toArray, List.set_cons_zero, List.set_cons_succ]
                    refine wpAnyH_take (i := 32) (oi := ⟨some 131, _, _, _, _, _⟩) (v := ?_) rfl (by kernel_rfl) (by kernel_rfl) (by kernel_rfl) (fun _ _ _ h => h) (Or.inl ⟨?_, ?_⟩) (by assumption) ?_
                    rotate_left
                    · rfl
                    · (intro w hSw; (try dsimp only at hSw); go_simp; (try with_reducible rfl))
                    simp only [Act.put, List.setIfInBounds_toArray, List.set_cons_zero, List.set_cons_succ]
                    refine wpAnyH_take (i := 33) (oi := ⟨some 132, _, _, _, _, _⟩) (v := ?_) rfl (by kernel_rfl) (by kernel_rfl) (by kernel_rfl) (fun _ _ _ h => h) (Or.inl ⟨?_, ?_⟩) (by assumption) ?_
                    rotate_left
                    · rfl
                    · (intro w hSw; (try dsimp only at hSw); go_simp; (try with_reducible rfl))
                    simp only [Act.put, List.setIfInBounds_toArray, List.set_cons_zero, List.set_cons_succ]
                    refine wpAnyH_done (by kernel_rfl) ?_ _
                    go_wp2_with fail
                    go_meet
                    exact ⟨by rw [hb1.out], hwqd.out.trans (hbL.mono hwqd.out.size)⟩
                  · have hlf0 := Hid.mk a5
                    clear a5
                    refine wp_region_held_drew (S := (fun w' => w'.cell? ⟨w3.heap.size, 0, none⟩ = some (.int .u32 (gen : Int)) ∧ w'.cell? ⟨w3.heap.size, 1, none⟩ = some (.int .u16 (pl : Int)) ∧ w'.cell? ⟨w3.heap.size, 2, none⟩ = some (.int .u16 (G : Int)) ∧ w'.cell? ⟨w3.heap.size, 3, none⟩ = some (.int .u16 (lf : Int)) ∧ w'.cell? ⟨w3.heap.size, 4, none⟩ = some (.int .u16 (sz : Int)))) (by kernel_rfl) ⟨k0, k1, k2, k3, k4⟩ (fun hHeld => ?_)
                    refine wpAnyH_take (i := 0) (oi := ⟨some 99, _, _, _, _, _⟩) (v := ?_) rfl (by kernel_rfl) (by kernel_rfl) (by kernel_rfl) (fun _ _ _ h => h) (Or.inl ⟨?_, ?_⟩) (by assumption) ?_
                    rotate_left
                    · rfl
                    · (intro w hSw; (try dsimp only at hSw); go_simp; (try with_reducible rfl))
                    simp only [Act.put, List.setIfInBounds_toArray, List.set_cons_zero, List.set_cons_succ]
                    refine wpAnyH_take (i := 1) (oi := ⟨some 100, _, _, _, _, _⟩) (v := ?_) rfl (by kernel_rfl) (by kernel_rfl) (by kernel_rfl) (fun _ _ _ h => h) (Or.inl ⟨?_, ?_⟩) (by assumption) ?_
                    rotate_left
                    · rfl
                    · (intro w hSw; (try dsimp only at hSw); go_simp; (try with_reducible rfl))
                    simp only [Act.put, List.setIfInBounds_toArray, List.set_cons_zero, List.set_cons_succ]
                    refine wpAnyH_take (i := 2) (oi := ⟨some 101, _, _, _, _, _⟩) (v := ?_) rfl (by kernel_rfl) (by kernel_rfl) (by kernel_rfl) (fun _ _ _ h => h) (Or.inl ⟨?_, ?_⟩) (by assumption) ?_
                    rotate_left
                    · rfl
                    · (intro w hSw; (try dsimp only at hSw); go_simp; (try with_reducible rfl))
                    simp only [Act.put, List.setIfInBounds_toArray, List.set_cons_zero, List.set_cons_succ]
                    refine wpAnyH_take (i := 3) (oi := ⟨some 102, _, _, _, _, _⟩) (v := ?_) rfl (by kernel_rfl) (by kernel_rfl) (by kernel_rfl) (fun _ _ _ h => h) (Or.inl ⟨?_, ?_⟩) (by assumption) ?_
                    rotate_left
                    · rfl
                    · (intro w hSw; (try dsimp only at hSw); go_simp; (try with_reducible rfl))
                    simp only [Act.put, List.setIfInBounds_toArray, List.set_cons_zero, List.set_cons_succ]
                    refine wpAnyH_take (i := 4) (oi := ⟨some 103, _, _, _, _, _⟩) (v := ?_) rfl (by kernel_rfl) (by kernel_rfl) (by kernel_rfl) (fun _ _ _ h => h) (Or.inl ⟨?_, ?_⟩) (by assumption) ?_
                    rotate_left
                    · rfl
                    · (intro w hSw; (try dsimp only at hSw); go_simp; (try with_reducible rfl))
                    simp only [Act.put, List.setIfInBounds_toArray, List.set_cons_zero, List.set_cons_succ]
                    refine wpAnyH_take (i := 5) (oi := ⟨some 104, _, _, _, _, _⟩) (v := ?_) rfl (by kernel_rfl) (by kernel_rfl) (by kernel_rfl) (fun _ _ _ h => h) (Or.inl ⟨?_, ?_⟩) (by assumption) ?_
                    rotate_left
                    · rfl
                    · (intro w hSw; (try dsimp only at hSw); go_simp; (try with_reducible rfl))
                    simp only [Act.put, List.setIfInBounds_toArray, List.set_cons_zero, List.set_cons_succ]
                    refine wpAnyH_take (i := 6) (oi := ⟨some 105, _, _, _, _, _⟩) (v := ?_) rfl (by kernel_rfl) (by kernel_rfl) (by kernel_rfl) (fun _ _ _ h => h) (Or.inl ⟨?_, ?_⟩) (by assumption) ?_
                    rotate_left
                    · rfl
                    · (intro w hSw; (try dsimp only at hSw); go_simp; (try with_reducible rfl))
                    simp only [Act.put, List.setIfInBounds_toArray, List.set_cons_zero, List.set_cons_succ]
                    refine wpAnyH_take (i := 7) (oi := ⟨some 106, _, _, _, _, _⟩) (v := ?_) rfl (by kernel_rfl) (by kernel_rfl) (by kernel_rfl) (fun _ _ _ h => h) (Or.inl ⟨?_, ?_⟩) (by assumption) ?_
                    rotate_left
                    · rfl
                    · (intro w hSw; (try dsimp only at hSw); go_simp; (try with_reducible rfl))
                    simp only [Act.put, List.setIfInBounds_toArray, List.set_cons_zero, List.set_cons_succ]
                    refine wpAnyH_take (i := 8) (oi := ⟨some 107, _, _, _, _, _⟩) (v := ?_) rfl (by kernel_rfl) (by kernel_rfl) (by kernel_rfl) (fun _ _ _ h => h) (Or.inl ⟨?_, ?_⟩) (by assumption) ?_
                    rotate_left
                    · rfl
                    · (intro w hSw; (try dsimp only at hSw); go_simp; (try with_reducible rfl))
                    simp only [Act.put, List.setIfInBounds_toArray, List.set_cons_zero, List.set_cons_succ]
                    refine wpAnyH_take (i := 9) (oi := ⟨some 108, _, _, _, _, _⟩) (v := ?_) rfl (by kernel_rfl) (by kernel_rfl) (by kernel_rfl) (fun _ _ _ h => h) (Or.inl ⟨?_, ?_⟩) (by assumption) ?_
                    rotate_left
                    · rfl
                    · (intro w hSw; (try dsimp only at hSw); go_simp; (try with_reducible rfl))
                    simp only [Act.put, List.setIfInBounds_toArray, List.set_cons_zero, List.set_cons_succ]
                    refine wpAnyH_take (i := 10) (oi := ⟨some 109, _, _, _, _, _⟩) (v := ?_) rfl (by kernel_rfl) (by kernel_rfl) (by kernel_rfl) (fun _ _ _ h => h) (Or.inl ⟨?_, ?_⟩) (by assumption) ?_
                    rotate_left
                    · rfl
                    · (intro w hSw; (try dsimp only at hSw); go_simp; (try with_reducible rfl))
                    simp only [Act.put, List.setIfInBounds_toArray, List.set_cons_zero, List.set_cons_succ]
                    refine wpAnyH_take (i := 11) (oi := ⟨some 110, _, _, _, _, _⟩) (v := ?_) rfl (by kernel_rfl) (by kernel_rfl) (by kernel_rfl) (fun _ _ _ h => h) (Or.inl ⟨?_, ?_⟩) (by assumption) ?_
                    rotate_left
                    · rfl
                    · (intro w hSw; (try dsimp only at hSw); go_simp; (try with_reducible rfl))
                    simp only [Act.put, List.setIfInBounds_toArray, List.set_cons_zero, List.set_cons_succ]
                    refine wpAnyH_take (i := 12) (oi := ⟨some 111, _, _, _, _, _⟩) (v := ?_) rfl (by kernel_rfl) (by kernel_rfl) (by kernel_rfl) (fun _ _ _ h => h) (Or.inl ⟨?_, ?_⟩) (by assumption) ?_
                    rotate_left
                    · rfl
                    · (intro w hSw; (try dsimp only at hSw); go_simp; (try with_reducible rfl))
                    simp only [Act.put, List.setIfInBounds_toArray, List.set_cons_zero, List.set_cons_succ]
                    refine wpAnyH_take (i := 13) (oi := ⟨some 112, _, _, _, _, _⟩) (v := ?_) rfl (by kernel_rfl) (by kernel_rfl) (by kernel_rfl) (fun _ _ _ h => h) (Or.inl ⟨?_, ?_⟩) (by assumption) ?_
                    rotate_left
                    · rfl
                    · (intro w hSw; (try dsimp only at hSw); go_simp; (try with_reducible rfl))
                    simp only [Act.put, List.setIfInBounds_toArray, List.set_cons_zero, List.set_cons_succ]
                    refine wpAnyH_take (i := 14) (oi := ⟨some 113, _, _, _, _, _⟩) (v := undef) rfl (by kernel_rfl) (by kernel_rfl) (by kernel_rfl) (fun _ _ _ h => h) (Or.inr ⟨?_, rfl⟩) (by assumption) ?_
                    · rfl
                    simp only [Act.put, List.setIfInBounds_toArray, List.set_cons_zero, List.set_cons_succ]
                    refine wpAnyH_take (i := 15) (oi := ⟨some 114, _, _, _, _, _⟩) (v := undef) rfl (by kernel_rfl) (by kernel_rfl) (by kernel_rfl) (fun _ _ _ h => h) (Or.inr ⟨?_, rfl⟩) (by assumption) ?_
                    · rfl
                    simp only [Act.put, List.setIfInBounds_toArray, List.set_cons_zero, List.set_cons_succ]
                    refine wpAnyH_take (i := 16) (oi := ⟨some 115, _, _, _, _, _⟩) (v := undef) rfl (by kernel_rfl) (by kernel_rfl) (by kernel_rfl) (fun _ _ _ h => h) (Or.inr ⟨?_, rfl⟩) (by assumption) ?_
                    · rfl
                    simp only [Act.put, List.setIfInBounds_toArray, List.set_cons_zero, List.set_cons_succ]
                    refine wpAnyH_take (i := 17) (oi := ⟨some 116, _, _, _, _, _⟩) (v := undef) rfl (by kernel_rfl) (by kernel_rfl) (by kernel_rfl) (fun _ _ _ h => h) (Or.inr ⟨?_, rfl⟩) (by assumption) ?_
                    · rfl
                    simp only [Act.put, List.setIfInBounds_toArray, List.set_cons_zero, List.set_cons_succ]
                    refine wpAnyH_take (i := 18) (oi := ⟨some 117, _, _, _, _, _⟩) (v := undef) rfl (by kernel_rfl) (by kernel_rfl) (by kernel_rfl) (fun _ _ _ h => h) (Or.inr ⟨?_, rfl⟩) (by assumption) ?_
                    · rfl
                    simp only [Act.put, List.setIfInBounds_toArray, List.set_cons_zero, List.set_cons_succ]
                    refine wpAnyH_take (i := 19) (oi := ⟨some 118, _, _, _, _, _⟩) (v := undef) rfl (by kernel_rfl) (by kernel_rfl) (by kernel_rfl) (fun _ _ _ h => h) (Or.inr ⟨?_, rfl⟩) (by assumption) ?_
                    · rfl
                    simp only [Act.put, List.setIfInBounds_toArray, List.set_cons_zero, List.set_cons_succ]
                    refine wpAnyH_take (i := 20) (oi := ⟨some 119, _, _, _, _, _⟩) (v := undef) rfl (by kernel_rfl) (by kernel_rfl) (by kernel_rfl) (fun _ _ _ h => h) (Or.inr ⟨?_, rfl⟩) (by assumption) ?_
                    · rfl
                    simp only [Act.put, List.setIfInBounds_toArray, List.set_cons_zero, List.set_cons_succ]
                    refine wpAnyH_take (i := 21) (oi := ⟨some 120, _, _, _, _, _⟩) (v := ?_) rfl (by kernel_rfl) (by kernel_rfl) (by kernel_rfl) (fun _ _ _ h => h) (Or.inl ⟨?_, ?_⟩) (by assumption) ?_
                    rotate_left
                    · rfl
                    · (intro w hSw; (try dsimp only at hSw); go_simp; (try with_reducible rfl))
                    simp only [Act.put, List.setIfInBounds_toArray, List.set_cons_zero, List.set_cons_succ]
                    refine wpAnyH_take (i := 22) (oi := ⟨some 121, _, _, _, _, _⟩) (v := ?_) rfl (by kernel_rfl) (by kernel_rfl) (by kernel_rfl) (fun _ _ _ h => h) (Or.inl ⟨?_, ?_⟩) (by assumption) ?_
                    rotate_left
                    · rfl
                    · (intro w hSw; (try dsimp only at hSw); go_simp; (try with_reducible rfl))
                    simp only [Act.put, List.setIfInBounds_toArray, List.set_cons_zero, List.set_cons_succ]
                    refine wpAnyH_take (i := 23) (oi := ⟨some 122, _, _, _, _, _⟩) (v := ?_) rfl (by kernel_rfl) (by kernel_rfl) (by kernel_rfl) (fun _ _ _ h => h) (Or.inl ⟨?_, ?_⟩) (by assumption) ?_
                    rotate_left
                    · rfl
                    · (intro w hSw; (try dsimp only at hSw); go_simp; (try with_reducible rfl))
                    simp only [Act.put, List.setIfInBounds_toArray, List.set_cons_zero, List.set_cons_succ]
                    refine wpAnyH_take (i := 24) (oi := ⟨some 123, _, _, _, _, _⟩) (v := ?_) rfl (by kernel_rfl) (by kernel_rfl) (by kernel_rfl) (fun _ _ _ h => h) (Or.inl ⟨?_, ?_⟩) (by assumption) ?_
                    rotate_left
                    · rfl
                    · (intro w hSw; (try dsimp only at hSw); go_simp; (try with_reducible rfl))
                    simp only [Act.put, List.setIfInBounds_toArray, List.set_cons_zero, List.set_cons_succ]
                    refine wpAnyH_take (i := 25) (oi := ⟨some 124, _, _, _, _, _⟩) (v := ?_) rfl (by kernel_rfl) (by kernel_rfl) (by kernel_rfl) (fun _ _ _ h => h) (Or.inl ⟨?_, ?_⟩) (by assumption) ?_
                    rotate_left
                    · rfl
                    · (intro w hSw; (try dsimp only at hSw); go_simp; (try with_reducible rfl))
                    simp only [Act.put, List.setIfInBounds_toArray, List.set_cons_zero, List.set_cons_succ]
                    refine wpAnyH_take (i := 26) (oi := ⟨some 125, _, _, _, _, _⟩) (v := ?_) rfl (by kernel_rfl) (by kernel_rfl) (by kernel_rfl) (fun _ _ _ h => h) (Or.inl ⟨?_, ?_⟩) (by assumption) ?_
                    rotate_left
                    · rfl
                    · (intro w hSw; (try dsimp only at hSw); go_simp; (try with_reducible rfl))
                    simp only [Act.put, List.setIfInBounds_toArray, List.set_cons_zero, List.set_cons_succ]
                    refine wpAnyH_take (i := 27) (oi := ⟨some 126, _, _, _, _, _⟩) (v := ?_) rfl (by kernel_rfl) (by kernel_rfl) (by kernel_rfl) (fun _ _ _ h => h) (Or.inl ⟨?_, ?_⟩) (by assumption) ?_
                    rotate_left
                    · rfl
                    · (intro w hSw; (try dsimp only at hSw); go_simp; (try with_reducible rfl))
                    simp only [Act.put, List.setIfInBounds_toArray, List.set_cons_zero, List.set_cons_succ]
                    refine wpAnyH_take (i := 28) (oi := ⟨some 127, _, _, _, _, _⟩) (v := ?_) rfl (by kernel_rfl) (by kernel_rfl) (by kernel_rfl) (fun _ _ _ h => h) (Or.inl ⟨?_, ?_⟩) (by assumption) ?_
                    rotate_left
                    · rfl
                    · (intro w hSw; (try dsimp only at hSw); go_simp; (try with_reducible rfl))
                    simp only [Act.put, List.setIfInBounds_toArray, List.set_cons_zero, List.set_cons_succ]
                    refine wpAnyH_take (i := 30) (oi := ⟨some 129, _, _, _, _, _⟩) (v := ?_) rfl (by kernel_rfl) (by kernel_rfl) (by kernel_rfl) (fun _ _ _ h => h) (Or.inl ⟨?_, ?_⟩) (by assumption) ?_
                    rotate_left
                    · rfl
                    · (intro w hSw; (try dsimp only at hSw); go_simp; (try with_reducible rfl))
                    simp only [Act.put, List.setIfInBounds_toArray, List.set_cons_zero, List.set_cons_succ]
                    refine wpAnyH_ready (rs := [29]) (by kernel_rfl) (by simp) ?_
                    refine AllReadyH.cons (o := ⟨some 128, _, _, _, _, _⟩) rfl (fun K hK => ?_) AllReadyH.nil
                    go_simp
                    refine (cLy.out wq.drew hwqd.out).mono ?_
                    rintro e w5 ⟨h, rfl, hh, hrh, hbL⟩
                    refine hK.out _ _ ⟨keepB hbL (Nat.le_refl _) k0, keepB hbL (Nat.le_refl _) k1, keepB hbL (Nat.le_refl _) k2, keepB hbL (Nat.le_refl _) k3, keepB hbL (Nat.le_refl _) k4⟩ (fun hHeld2 => ?_)
                    clear hK K hHeld
                    try simp only [Act.put, List.setIfInBounds_toArray, List.set_cons_zero, List.set_cons_succ]
                    refine wpAnyH_ready (rs := [31]) (by kernel_rfl) (by simp) ?_
                    refine AllReadyH.cons (o := ⟨some 130, _, _, _, _, _⟩) rfl (fun K hK => ?_) AllReadyH.nil
                    go_simp
                    refine (cEq.out w5 h hrh (hwqd.out.trans (hbL.mono hwqd.out.size))).mono ?_
                    rintro e w6 ⟨rfl, rfl⟩
                    refine hK.out _ _ hHeld2 (fun hHeld3 => ?_)
                    clear hK K
                    try simp only [Act.put, List.setIfInBounds_toArray, List.set_cons_zero, List.set_cons_succ]
                    refine wpAnyH_take (i := 32) (oi := ⟨some 131, _, _, _, _, _⟩) (v := ?_) rfl (by kernel_rfl) (by kernel_rfl) (by kernel_rfl) (fun _ _ _ h => h) (Or.inl ⟨?_, ?_⟩) (by assumption) ?_
                    rotate_left
                    · rfl
                    · (intro w hSw; (try dsimp only at hSw); go_simp; (try with_reducible rfl))
                    simp only [Act.put, List.setIfInBounds_toArray, List.set_cons_zero, List.set_cons_succ]
                    refine wpAnyH_take (i := 33) (oi := ⟨some 132, _, _, _, _, _⟩) (v := ?_) rfl (by kernel_rfl) (by kernel_rfl) (by kernel_rfl) (fun _ _ _ h => h) (Or.inl ⟨?_, ?_⟩) (by assumption) ?_
                    rotate_left
                    · rfl
                    · (intro w hSw; (try dsimp only at hSw); go_simp; (try with_reducible rfl))
                    simp only [Act.put, List.setIfInBounds_toArray, List.set_cons_zero, List.set_cons_succ]
                    refine wpAnyH_done (by kernel_rfl) ?_ _
                    go_wp2_with fail
                    go_meet
                    exact ⟨by rw [hb1.out], hwqd.out.trans (hbL.mono hwqd.out.size)⟩
                · have e1 : dueV (some u) = (u : Int) := rfl
                  by_cases h3 : lf = u
                  · have e3 : ((lf : Int) != (u : Int)) = false := by rw [h3]; simp
                    by_cases h4 : sz = 0
                    · have e4 : ((sz : Int) == 0) = true := by rw [h4]; rfl
                      have hb1 : Hid (BD = true) := by show _ = _; rw [hBD.out]; simp [dueBad, h4]
                      rcases hA with ⟨a1, a2, a3⟩ | ⟨a1, a2, a3, a4, a5⟩
                      · have hlf0 := Hid.mk a1
                        have hh3 := Hid.mk h3
                        have hh4 := Hid.mk h4
                        clear a1 h3 h4
                        go_quiet (fail)
                        go_wp2_with fail
                        go_meet
                        exact ⟨by rw [hb1.out], hwqb.out.trans ⟨rfl, rfl, rfl, Nat.le_refl _, fun _ _ => rfl⟩⟩
                      · omega
                    · have e4 : ((sz : Int) == 0) = false := by rw [beq_eq_false_iff_ne]; omega
                      have hb1 : Hid (BD = !(sc == b)) := by show _ = _; rw [hBD.out]; simp [dueBad, h3, h4]
                      have hh3 := Hid.mk h3
                      clear h3
                      rcases hA with ⟨a1, a2, a3⟩ | ⟨a1, a2, a3, a4, a5⟩
                      · have hlf0 := Hid.mk a1
                        clear a1
                        refine wp_region_held_drew (S := (fun w' => w'.cell? ⟨w3.heap.size, 0, none⟩ = some (.int .u32 (gen : Int)) ∧ w'.cell? ⟨w3.heap.size, 1, none⟩ = some (.int .u16 (pl : Int)) ∧ w'.cell? ⟨w3.heap.size, 2, none⟩ = some (.int .u16 (G : Int)) ∧ w'.cell? ⟨w3.heap.size, 3, none⟩ = some (.int .u16 (lf : Int)) ∧ w'.cell? ⟨w3.heap.size, 4, none⟩ = some (.int .u16 (sz : Int)))) (by kernel_rfl) ⟨k0, k1, k2, k3, k4⟩ (fun hHeld => ?_)
                        refine wpAnyH_take (i := 0) (oi := ⟨some 99, _, _, _, _, _⟩) (v := ?_) rfl (by kernel_rfl) (by kernel_rfl) (by kernel_rfl) (fun _ _ _ h => h) (Or.inl ⟨?_, ?_⟩) (by assumption) ?_
                        rotate_left
                        · rfl
                        · (intro w hSw; (try dsimp only at hSw); go_simp; (try with_reducible rfl))
                        simp only [Act.put, List.setIfInBounds_toArray, List.set_cons_zero, List.set_cons_succ]
                        refine wpAnyH_take (i := 1) (oi := ⟨some 100, _, _, _, _, _⟩) (v := ?_) rfl (by kernel_rfl) (by kernel_rfl) (by kernel_rfl) (fun _ _ _ h => h) (Or.inl ⟨?_, ?_⟩) (by assumption) ?_
                        rotate_left
                        · rfl
                        · (intro w hSw; (try dsimp only at hSw); go_simp; (try with_reducible rfl))
                        simp only [Act.put, List.setIfInBounds_toArray, List.set_cons_zero, List.set_cons_succ]
                        refine wpAnyH_take (i := 2) (oi := ⟨some 101, _, _, _, _, _⟩) (v := ?_) rfl (by kernel_rfl) (by kernel_rfl) (by kernel_rfl) (fun _ _ _ h => h) (Or.inl ⟨?_, ?_⟩) (by assumption) ?_
                        rotate_left
                        · rfl
                        · (intro w hSw; (try dsimp only at hSw); go_simp; (try with_reducible rfl))
                        simp only [Act.put, List.setIfInBounds_toArray, List.set_cons_zero, List.set_cons_succ]
                        refine wpAnyH_take (i := 3) (oi := ⟨some 102, _, _, _, _, _⟩) (v := ?_) rfl (by kernel_rfl) (by kernel_rfl) (by kernel_rfl) (fun _ _ _ h => h) (Or.inl ⟨?_, ?_⟩) (by assumption) ?_
                        rotate_left
                        · rfl
                        · (intro w hSw; (try dsimp only at hSw); go_simp; (try with_reducible rfl))
                        simp only [Act.put, List.setIfInBounds_toArray, List.set_cons_zero, List.set_cons_succ]
                        refine wpAnyH_take (i := 4) (oi := ⟨some 103, _, _, _, _, _⟩) (v := ?_) rfl (by kernel_rfl) (by kernel_rfl) (by kernel_rfl) (fun _ _ _ h => h) (Or.inl ⟨?_, ?_⟩) (by assumption) ?_
                        rotate_left
                        · rfl
                        · (intro w hSw; (try dsimp only at hSw); go_simp; (try with_reducible rfl))
                        simp only [Act.put, List.setIfInBounds_toArray, List.set_cons_zero, List.set_cons_succ]
                        refine wpAnyH_take (i := 5) (oi := ⟨some 104, _, _, _, _, _⟩) (v := ?_) rfl (by kernel_rfl) (by kernel_rfl) (by kernel_rfl) (fun _ _ _ h => h) (Or.inl ⟨?_, ?_⟩) (by assumption) ?_
                        rotate_left
                        · rfl
                        · (intro w hSw; (try dsimp only at hSw); go_simp; (try with_reducible rfl))
                        simp only [Act.put, List.setIfInBounds_toArray, List.set_cons_zero, List.set_cons_succ]
                        refine wpAnyH_take (i := 6) (oi := ⟨some 105, _, _, _, _, _⟩) (v := undef) rfl (by kernel_rfl) (by kernel_rfl) (by kernel_rfl) (fun _ _ _ h => h) (Or.inr ⟨?_, rfl⟩) (by assumption) ?_
                        · rfl
                        simp only [Act.put, List.setIfInBounds_toArray, List.set_cons_zero, List.set_cons_succ]
                        refine wpAnyH_take (i := 7) (oi := ⟨some 106, _, _, _, _, _⟩) (v := undef) rfl (by kernel_rfl) (by kernel_rfl) (by kernel_rfl) (fun _ _ _ h => h) (Or.inr ⟨?_, rfl⟩) (by assumption) ?_
                        · rfl
                        simp only [Act.put, List.setIfInBounds_toArray, List.set_cons_zero, List.set_cons_succ]
                        refine wpAnyH_take (i := 8) (oi := ⟨some 107, _, _, _, _, _⟩) (v := ?_) rfl (by kernel_rfl) (by kernel_rfl) (by kernel_rfl) (fun _ _ _ h => h) (Or.inl ⟨?_, ?_⟩) (by assumption) ?_
                        rotate_left
                        · rfl
                        · (intro w hSw; (try dsimp only at hSw); go_simp; (try with_reducible rfl))
                        simp only [Act.put, List.setIfInBounds_toArray, List.set_cons_zero, List.set_cons_succ]
                        refine wpAnyH_take (i := 9) (oi := ⟨some 108, _, _, _, _, _⟩) (v := ?_) rfl (by kernel_rfl) (by kernel_rfl) (by kernel_rfl) (fun _ _ _ h => h) (Or.inl ⟨?_, ?_⟩) (by assumption) ?_
                        rotate_left
                        · rfl
                        · (intro w hSw; (try dsimp only at hSw); go_simp; (try with_reducible rfl))
                        simp only [Act.put, List.setIfInBounds_toArray, List.set_cons_zero, List.set_cons_succ]
                        refine wpAnyH_take (i := 10) (oi := ⟨some 109, _, _, _, _, _⟩) (v := ?_) rfl (by kernel_rfl) (by kernel_rfl) (by kernel_rfl) (fun _ _ _ h => h) (Or.inl ⟨?_, ?_⟩) (by assumption) ?_
                        rotate_left
                        · rfl
                        · (intro w hSw; (try dsimp only at hSw); go_simp; (try with_reducible rfl))
                        simp only [Act.put, List.setIfInBounds_toArray, List.set_cons_zero, List.set_cons_succ]
                        refine wpAnyH_take (i := 11) (oi := ⟨some 110, _, _, _, _, _⟩) (v := ?_) rfl (by kernel_rfl) (by kernel_rfl) (by kernel_rfl) (fun _ _ _ h => h) (Or.inl ⟨?_, ?_⟩) (by assumption) ?_
                        rotate_left
                        · rfl
                        · (intro w hSw; (try dsimp only at hSw); go_simp; (try with_reducible rfl))
                        simp only [Act.put, List.setIfInBounds_toArray, List.set_cons_zero, List.set_cons_succ]
                        refine wpAnyH_take (i := 12) (oi := ⟨some 111, _, _, _, _, _⟩) (v := ?_) rfl (by kernel_rfl) (by kernel_rfl) (by kernel_rfl) (fun _ _ _ h => h) (Or.inl ⟨?_, ?_⟩) (by assumption) ?_
                        rotate_left
                        · rfl
                        · (intro w hSw; (try dsimp only at hSw); go_simp; (try with_reducible rfl))
                        simp only [Act.put, List.setIfInBounds_toArray, List.set_cons_zero, List.set_cons_succ]
                        refine wpAnyH_take (i := 13) (oi := ⟨some 112, _, _, _, _, _⟩) (v := ?_) rfl (by kernel_rfl) (by kernel_rfl) (by kernel_rfl) (fun _ _ _ h => h) (Or.inl ⟨?_, ?_⟩) (by assumption) ?_
                        rotate_left
                        · rfl
                        · (intro w hSw; (try dsimp only at hSw); go_simp; (try with_reducible rfl))
                        simp only [Act.put, List.setIfInBounds_toArray, List.set_cons_zero, List.set_cons_succ]
                        refine wpAnyH_take (i := 14) (oi := ⟨some 113, _, _, _, _, _⟩) (v := ?_) rfl (by kernel_rfl) (by kernel_rfl) (by kernel_rfl) (fun _ _ _ h => h) (Or.inl ⟨?_, ?_⟩) (by assumption) ?_
                        rotate_left
                        · rfl
                        · (intro w hSw; (try dsimp only at hSw); go_simp; (try with_reducible rfl))
                        simp only [Act.put, List.setIfInBounds_toArray, List.set_cons_zero, List.set_cons_succ]
                        refine wpAnyH_take (i := 15) (oi := ⟨some 114, _, _, _, _, _⟩) (v := ?_) rfl (by kernel_rfl) (by kernel_rfl) (by kernel_rfl) (fun _ _ _ h => h) (Or.inl ⟨?_, ?_⟩) (by assumption) ?_
                        rotate_left
                        · rfl
                        · (intro w hSw; (try dsimp only at hSw); go_simp; (try with_reducible rfl))
                        simp only [Act.put, List.setIfInBounds_toArray, List.set_cons_zero, List.set_cons_succ]
                        refine wpAnyH_take (i := 16) (oi := ⟨some 115, _, _, _, _, _⟩) (v := ?_) rfl (by kernel_rfl) (by kernel_rfl) (by kernel_rfl) (fun _ _ _ h => h) (Or.inl ⟨?_, ?_⟩) (by assumption) ?_
                        rotate_left
                        · rfl
                        · (intro w hSw; (try dsimp only at hSw); go_simp; (try with_reducible rfl))
                        simp only [Act.put, List.setIfInBounds_toArray, List.set_cons_zero, List.set_cons_succ]
                        refine wpAnyH_take (i := 17) (oi := ⟨some 116, _, _, _, _, _⟩) (v := ?_) rfl (by kernel_rfl) (by kernel_rfl) (by kernel_rfl) (fun _ _ _ h => h) (Or.inl ⟨?_, ?_⟩) (by assumption) ?_
                        rotate_left
                        · rfl
                        · (intro w hSw; (try dsimp only at hSw); go_simp; (try with_reducible rfl))
                        simp only [Act.put, List.setIfInBounds_toArray, List.set_cons_zero, List.set_cons_succ]
                        refine wpAnyH_take (i := 18) (oi := ⟨some 117, _, _, _, _, _⟩) (v := ?_) rfl (by kernel_rfl) (by kernel_rfl) (by kernel_rfl) (fun _ _ _ h => h) (Or.inl ⟨?_, ?_⟩) (by assumption) ?_
                        rotate_left
                        · rfl
                        · (intro w hSw; (try dsimp only at hSw); go_simp; (try with_reducible rfl))
                        simp only [Act.put, List.setIfInBounds_toArray, List.set_cons_zero, List.set_cons_succ]
                        refine wpAnyH_take (i := 19) (oi := ⟨some 118, _, _, _, _, _⟩) (v := ?_) rfl (by kernel_rfl) (by kernel_rfl) (by kernel_rfl) (fun _ _ _ h => h) (Or.inl ⟨?_, ?_⟩) (by assumption) ?_
                        rotate_left
                        · rfl
                        · (intro w hSw; (try dsimp only at hSw); go_simp; (try with_reducible rfl))
                        simp only [Act.put, List.setIfInBounds_toArray, List.set_cons_zero, List.set_cons_succ]
                        refine wpAnyH_take (i := 20) (oi := ⟨some 119, _, _, _, _, _⟩) (v := ?_) rfl (by kernel_rfl) (by kernel_rfl) (by kernel_rfl) (fun _ _ _ h => h) (Or.inl ⟨?_, ?_⟩) (by assumption) ?_
                        rotate_left
                        · rfl
                        · (intro w hSw; (try dsimp only at hSw); go_simp; (try with_reducible rfl))
                        simp only [Act.put, List.setIfInBounds_toArray, List.set_cons_zero, List.set_cons_succ]
                        refine wpAnyH_take (i := 21) (oi := ⟨some 120, _, _, _, _, _⟩) (v := ?_) rfl (by kernel_rfl) (by kernel_rfl) (by kernel_rfl) (fun _ _ _ h => h) (Or.inl ⟨?_, ?_⟩) (by assumption) ?_
                        rotate_left
                        · rfl
                        · (intro w hSw; (try dsimp only at hSw); go_simp; (try with_reducible rfl))
                        simp only [Act.put, List.setIfInBounds_toArray, List.set_cons_zero, List.set_cons_succ]
                        refine wpAnyH_take (i := 22) (oi := ⟨some 121, _, _, _, _, _⟩) (v := ?_) rfl (by kernel_rfl) (by kernel_rfl) (by kernel_rfl) (fun _ _ _ h => h) (Or.inl ⟨?_, ?_⟩) (by assumption) ?_
                        rotate_left
                        · rfl
                        · (intro w hSw; (try dsimp only at hSw); go_simp; (try with_reducible rfl))
                        simp only [Act.put, List.setIfInBounds_toArray, List.set_cons_zero, List.set_cons_succ]
                        refine wpAnyH_take (i := 23) (oi := ⟨some 122, _, _, _, _, _⟩) (v := ?_) rfl (by kernel_rfl) (by kernel_rfl) (by kernel_rfl) (fun _ _ _ h => h) (Or.inl ⟨?_, ?_⟩) (by assumption) ?_
                        rotate_left
                        · rfl
                        · (intro w hSw; (try dsimp only at hSw); go_simp; (try with_reducible rfl))
                        simp only [Act.put, List.setIfInBounds_toArray, List.set_cons_zero, List.set_cons_succ]
                        refine wpAnyH_take (i := 24) (oi := ⟨some 123, _, _, _, _, _⟩) (v := ?_) rfl (by kernel_rfl) (by kernel_rfl) (by kernel_rfl) (fun _ _ _ h => h) (Or.inl ⟨?_, ?_⟩) (by assumption) ?_
                        rotate_left
                        · rfl
                        · (intro w hSw; (try dsimp only at hSw); go_simp; (try with_reducible rfl))
                        simp only [Act.put, List.setIfInBounds_toArray, List.set_cons_zero, List.set_cons_succ]
                        refine wpAnyH_take (i := 25) (oi := ⟨some 124, _, _, _, _, _⟩) (v := ?_) rfl (by kernel_rfl) (by kernel_rfl) (by kernel_rfl) (fun _ _ _ h => h) (Or.inl ⟨?_, ?_⟩) (by assumption) ?_
                        rotate_left
                        · rfl
                        · (intro w hSw; (try dsimp only at hSw); go_simp; (try with_reducible rfl))
                        simp only [Act.put, List.setIfInBounds_toArray, List.set_cons_zero, List.set_cons_succ]
                        refine wpAnyH_take (i := 26) (oi := ⟨some 125, _, _, _, _, _⟩) (v := ?_) rfl (by kernel_rfl) (by kernel_rfl) (by kernel_rfl) (fun _ _ _ h => h) (Or.inl ⟨?_, ?_⟩) (by assumption) ?_
                        rotate_left
                        · rfl
                        · (intro w hSw; (try dsimp only at hSw); go_simp; (try with_reducible rfl))
                        simp only [Act.put, List.setIfInBounds_toArray, List.set_cons_zero, List.set_cons_succ]
                        refine wpAnyH_take (i := 27) (oi := ⟨some 126, _, _, _, _, _⟩) (v := ?_) rfl (by kernel_rfl) (by kernel_rfl) (by kernel_rfl) (fun _ _ _ h => h) (Or.inl ⟨?_, ?_⟩) (by assumption) ?_
                        rotate_left
                        · rfl
                        · (intro w hSw; (try dsimp only at hSw); go_simp; (try with_reducible rfl))
                        simp only [Act.put, List.setIfInBounds_toArray, List.set_cons_zero, List.set_cons_succ]
                        refine wpAnyH_take (i := 28) (oi := ⟨some 127, _, _, _, _, _⟩) (v := ?_) rfl (by kernel_rfl) (by kernel_rfl) (by kernel_rfl) (fun _ _ _ h => h) (Or.inl ⟨?_, ?_⟩) (by assumption) ?_
                        rotate_left
                        · rfl
                        · (intro w hSw; (try dsimp only at hSw); go_simp; (try with_reducible rfl))
                        simp only [Act.put, List.setIfInBounds_toArray, List.set_cons_zero, List.set_cons_succ]
                        refine wpAnyH_take (i := 30) (oi := ⟨some 129, _, _, _, _, _⟩) (v := ?_) rfl (by kernel_rfl) (by kernel_rfl) (by kernel_rfl) (fun _ _ _ h => h) (Or.inl ⟨?_, ?_⟩) (by assumption) ?_
                        rotate_left
                        · rfl
                        · (intro w hSw; (try dsimp only at hSw); go_simp; (try with_reducible rfl))
                        simp only [Act.put, List.setIfInBounds_toArray, List.set_cons_zero, List.set_cons_succ]
                        refine wpAnyH_ready (rs := [29]) (by kernel_rfl) (by simp) ?_
                        refine AllReadyH.cons (o := ⟨some 128, _, _, _, _, _⟩) rfl (fun K hK => ?_) AllReadyH.nil
                        go_simp
                        refine (cLy.out wq.drew hwqd.out).mono ?_
                        rintro e w5 ⟨h, rfl, hh, hrh, hbL⟩
                        refine hK.out _ _ ⟨keepB hbL (Nat.le_refl _) k0, keepB hbL (Nat.le_refl _) k1, keepB hbL (Nat.le_refl _) k2, keepB hbL (Nat.le_refl _) k3, keepB hbL (Nat.le_refl _) k4⟩ (fun hHeld2 => ?_)
                        clear hK K hHeld
                        try simp only [Act.put, List.setIfInBounds_toArray, List.set_cons_zero, List.set_cons_succ]
                        refine wpAnyH_ready (rs := [31]) (by kernel_rfl) (by simp) ?_
                        refine AllReadyH.cons (o := ⟨some 130, _, _, _, _, _⟩) rfl (fun K hK => ?_) AllReadyH.nil
                        go_simp
                        refine (cEq.out w5 h hrh (hwqd.out.trans (hbL.mono hwqd.out.size))).mono ?_
                        rintro e w6 ⟨rfl, rfl⟩
                        refine hK.out _ _ hHeld2 (fun hHeld3 => ?_)
                        clear hK K
                        try simp only [Act.put, List.setIfInBounds_toArray, List.set_cons_zero, List.set_cons_succ]
                        refine wpAnyH_take (i := 32) (oi := ⟨some 131, _, _, _, _, _⟩) (v := ?_) rfl (by kernel_rfl) (by kernel_rfl) (by kernel_rfl) (fun _ _ _ h => h) (Or.inl ⟨?_, ?_⟩) (by assumption) ?_
                        rotate_left
                        · rfl
                        · (intro w hSw; (try dsimp only at hSw); go_simp; (try with_reducible rfl))
                        simp only [Act.put, List.setIfInBounds_toArray, List.set_cons_zero, List.set_cons_succ]
                        refine wpAnyH_take (i := 33) (oi := ⟨some 132, _, _, _, _, _⟩) (v := ?_) rfl (by kernel_rfl) (by kernel_rfl) (by kernel_rfl) (fun _ _ _ h => h) (Or.inl ⟨?_, ?_⟩) (by assumption) ?_
                        rotate_left
                        · rfl
                        · (intro w hSw; (try dsimp only at hSw); go_simp; (try with_reducible rfl))
                        simp only [Act.put, List.setIfInBounds_toArray, List.set_cons_zero, List.set_cons_succ]
                        refine wpAnyH_done (by kernel_rfl) ?_ _
                        go_wp2_with fail
                        go_meet
                        exact ⟨by rw [hb1.out], hwqd.out.trans (hbL.mono hwqd.out.size)⟩
                      · have hlf0 := Hid.mk a5
                        clear a5
                        refine wp_region_held_drew (S := (fun w' => w'.cell? ⟨w3.heap.size, 0, none⟩ = some (.int .u32 (gen : Int)) ∧ w'.cell? ⟨w3.heap.size, 1, none⟩ = some (.int .u16 (pl : Int)) ∧ w'.cell? ⟨w3.heap.size, 2, none⟩ = some (.int .u16 (G : Int)) ∧ w'.cell? ⟨w3.heap.size, 3, none⟩ = some (.int .u16 (lf : Int)) ∧ w'.cell? ⟨w3.heap.size, 4, none⟩ = some (.int .u16 (sz : Int)))) (by kernel_rfl) ⟨k0, k1, k2, k3, k4⟩ (fun hHeld => ?_)
                        refine wpAnyH_take (i := 0) (oi := ⟨some 99, _, _, _, _, _⟩) (v := ?_) rfl (by kernel_rfl) (by kernel_rfl) (by kernel_rfl) (fun _ _ _ h => h) (Or.inl ⟨?_, ?_⟩) (by assumption) ?_
                        rotate_left
                        · rfl
                        · (intro w hSw; (try dsimp only at hSw); go_simp; (try with_reducible rfl))
                        simp only [Act.put, List.setIfInBounds_toArray, List.set_cons_zero, List.set_cons_succ]
                        refine wpAnyH_take (i := 1) (oi := ⟨some 100, _, _, _, _, _⟩) (v := ?_) rfl (by kernel_rfl) (by kernel_rfl) (by kernel_rfl) (fun _ _ _ h => h) (Or.inl ⟨?_, ?_⟩) (by assumption) ?_
                        rotate_left
                        · rfl
                        · (intro w hSw; (try dsimp only at hSw); go_simp; (try with_reducible rfl))
                        simp only [Act.put, List.setIfInBounds_toArray, List.set_cons_zero, List.set_cons_succ]
                        refine wpAnyH_take (i := 2) (oi := ⟨some 101, _, _, _, _, _⟩) (v := ?_) rfl (by kernel_rfl) (by kernel_rfl) (by kernel_rfl) (fun _ _ _ h => h) (Or.inl ⟨?_, ?_⟩) (by assumption) ?_
                        rotate_left
                        · rfl
                        · (intro w hSw; (try dsimp only at hSw); go_simp; (try with_reducible rfl))
                        simp only [Act.put, List.setIfInBounds_toArray, List.set_cons_zero, List.set_cons_succ]
                        refine wpAnyH_take (i := 3) (oi := ⟨some 102, _, _, _, _, _⟩) (v := ?_) rfl (by kernel_rfl) (by kernel_rfl) (by kernel_rfl) (fun _ _ _ h => h) (Or.inl ⟨?_, ?_⟩) (by assumption) ?_
                        rotate_left
                        · rfl
                        · (intro w hSw; (try dsimp only at hSw); go_simp; (try with_reducible rfl))
                        simp only [Act.put, List.setIfInBounds_toArray, List.set_cons_zero, List.set_cons_succ]
                        refine wpAnyH_take (i := 4) (oi := ⟨some 103, _, _, _, _, _⟩) (v := ?_) rfl (by kernel_rfl) (by kernel_rfl) (by kernel_rfl) (fun _ _ _ h => h) (Or.inl ⟨?_, ?_⟩) (by assumption) ?_
                        rotate_left
                        · rfl
                        · (intro w hSw; (try dsimp only at hSw); go_simp; (try with_reducible rfl))
                        simp only [Act.put, List.setIfInBounds_toArray, List.set_cons_zero, List.set_cons_succ]
                        refine wpAnyH_take (i := 5) (oi := ⟨some 104, _, _, _, _, _⟩) (v := ?_) rfl (by kernel_rfl) (by kernel_rfl) (by kernel_rfl) (fun _ _ _ h => h) (Or.inl ⟨?_, ?_⟩) (by assumption) ?_
                        rotate_left
                        · rfl
                        · (intro w hSw; (try dsimp only at hSw); go_simp; (try with_reducible rfl))
                        simp only [Act.put, List.setIfInBounds_toArray, List.set_cons_zero, List.set_cons_succ]
                        refine wpAnyH_take (i := 6) (oi := ⟨some 105, _, _, _, _, _⟩) (v := ?_) rfl (by kernel_rfl) (by kernel_rfl) (by kernel_rfl) (fun _ _ _ h => h) (Or.inl ⟨?_, ?_⟩) (by assumption) ?_
                        rotate_left
                        · rfl
                        · (intro w hSw; (try dsimp only at hSw); go_simp; (try with_reducible rfl))
                        simp only [Act.put, List.setIfInBounds_toArray, List.set_cons_zero, List.set_cons_succ]
                        refine wpAnyH_take (i := 7) (oi := ⟨some 106, _, _, _, _, _⟩) (v := ?_) rfl (by kernel_rfl) (by kernel_rfl) (by kernel_rfl) (fun _ _ _ h => h) (Or.inl ⟨?_, ?_⟩) (by assumption) ?_
                        rotate_left
                        · rfl
                        · (intro w hSw; (try dsimp only at hSw); go_simp; (try with_reducible rfl))
                        simp only [Act.put, List.setIfInBounds_toArray, List.set_cons_zero, List.set_cons_succ]
                        refine wpAnyH_take (i := 8) (oi := ⟨some 107, _, _, _, _, _⟩) (v := ?_) rfl (by kernel_rfl) (by kernel_rfl) (by kernel_rfl) (fun _ _ _ h => h) (Or.inl ⟨?_, ?_⟩) (by assumption) ?_
                        rotate_left
                        · rfl
                        · (intro w hSw; (try dsimp only at hSw); go_simp; (try with_reducible rfl))
                        simp only [Act.put, List.setIfInBounds_toArray, List.set_cons_zero, List.set_cons_succ]
                        refine wpAnyH_take (i := 9) (oi := ⟨some 108, _, _, _, _, _⟩) (v := ?_) rfl (by kernel_rfl) (by kernel_rfl) (by kernel_rfl) (fun _ _ _ h => h) (Or.inl ⟨?_, ?_⟩) (by assumption) ?_
                        rotate_left
                        · rfl
                        · (intro w hSw; (try dsimp only at hSw); go_simp; (try with_reducible rfl))
                        simp only [Act.put, List.setIfInBounds_toArray, List.set_cons_zero, List.set_cons_succ]
                        refine wpAnyH_take (i := 10) (oi := ⟨some 109, _, _, _, _, _⟩) (v := ?_) rfl (by kernel_rfl) (by kernel_rfl) (by kernel_rfl) (fun _ _ _ h => h) (Or.inl ⟨?_, ?_⟩) (by assumption) ?_
                        rotate_left
                        · rfl
                        · (intro w hSw; (try dsimp only at hSw); go_simp; (try with_reducible rfl))
                        simp only [Act.put, List.setIfInBounds_toArray, List.set_cons_zero, List.set_cons_succ]
                        refine wpAnyH_take (i := 11) (oi := ⟨some 110, _, _, _, _, _⟩) (v := ?_) rfl (by kernel_rfl) (by kernel_rfl) (by kernel_rfl) (fun _ _ _ h => h) (Or.inl ⟨?_, ?_⟩) (by assumption) ?_
                        rotate_left
                        · rfl
                        · (intro w hSw; (try dsimp only at hSw); go_simp; (try with_reducible rfl))
                        simp only [Act.put, List.setIfInBounds_toArray, List.set_cons_zero, List.set_cons_succ]
                        refine wpAnyH_take (i := 12) (oi := ⟨some 111, _, _, _, _, _⟩) (v := ?_) rfl (by kernel_rfl) (by kernel_rfl) (by kernel_rfl) (fun _ _ _ h => h) (Or.inl ⟨?_, ?_⟩) (by assumption) ?_
                        rotate_left
                        · rfl
                        · (intro w hSw; (try dsimp only at hSw); go_simp; (try with_reducible rfl))
                        simp only [Act.put, List.setIfInBounds_toArray, List.set_cons_zero, List.set_cons_succ]
                        refine wpAnyH_take (i := 13) (oi := ⟨some 112, _, _, _, _, _⟩) (v := ?_) rfl (by kernel_rfl) (by kernel_rfl) (by kernel_rfl) (fun _ _ _ h => h) (Or.inl ⟨?_, ?_⟩) (by assumption) ?_
                        rotate_left
                        · rfl
                        · (intro w hSw; (try dsimp only at hSw); go_simp; (try with_reducible rfl))
                        simp only [Act.put, List.setIfInBounds_toArray, List.set_cons_zero, List.set_cons_succ]
                        refine wpAnyH_take (i := 14) (oi := ⟨some 113, _, _, _, _, _⟩) (v := ?_) rfl (by kernel_rfl) (by kernel_rfl) (by kernel_rfl) (fun _ _ _ h => h) (Or.inl ⟨?_, ?_⟩) (by assumption) ?_
                        rotate_left
                        · rfl
                        · (intro w hSw; (try dsimp only at hSw); go_simp; (try with_reducible rfl))
                        simp only [Act.put, List.setIfInBounds_toArray, List.set_cons_zero, List.set_cons_succ]
                        refine wpAnyH_take (i := 15) (oi := ⟨some 114, _, _, _, _, _⟩) (v := ?_) rfl (by kernel_rfl) (by kernel_rfl) (by kernel_rfl) (fun _ _ _ h => h) (Or.inl ⟨?_, ?_⟩) (by assumption) ?_
                        rotate_left
                        · rfl
                        · (intro w hSw; (try dsimp only at hSw); go_simp; (try with_reducible rfl))
                        simp only [Act.put, List.setIfInBounds_toArray, List.set_cons_zero, List.set_cons_succ]
                        refine wpAnyH_take (i := 16) (oi := ⟨some 115, _, _, _, _, _⟩) (v := ?_) rfl (by kernel_rfl) (by kernel_rfl) (by kernel_rfl) (fun _ _ _ h => h) (Or.inl ⟨?_, ?_⟩) (by assumption) ?_
                        rotate_left
                        · rfl
                        · (intro w hSw; (try dsimp only at hSw); go_simp; (try with_reducible rfl))
                        simp only [Act.put, List.setIfInBounds_toArray, List.set_cons_zero, List.set_cons_succ]
                        refine wpAnyH_take (i := 17) (oi := ⟨some 116, _, _, _, _, _⟩) (v := ?_) rfl (by kernel_rfl) (by kernel_rfl) (by kernel_rfl) (fun _ _ _ h => h) (Or.inl ⟨?_, ?_⟩) (by assumption) ?_
                        rotate_left
                        · rfl
                        · (intro w hSw; (try dsimp only at hSw); go_simp; (try with_reducible rfl))
                        simp only [Act.put, List.setIfInBounds_toArray, List.set_cons_zero, List.set_cons_succ]
                        refine wpAnyH_take (i := 18) (oi := ⟨some 117, _, _, _, _, _⟩) (v := ?_) rfl (by kernel_rfl) (by kernel_rfl) (by kernel_rfl) (fun _ _ _ h => h) (Or.inl ⟨?_, ?_⟩) (by assumption) ?_
                        rotate_left
                        · rfl
                        · (intro w hSw; (try dsimp only at hSw); go_simp; (try with_reducible rfl))
                        simp only [Act.put, List.setIfInBounds_toArray, List.set_cons_zero, List.set_cons_succ]
                        refine wpAnyH_take (i := 19) (oi := ⟨some 118, _, _, _, _, _⟩) (v := ?_) rfl (by kernel_rfl) (by kernel_rfl) (by kernel_rfl) (fun _ _ _ h => h) (Or.inl ⟨?_, ?_⟩) (by assumption) ?_
                        rotate_left
                        · rfl
                        · (intro w hSw; (try dsimp only at hSw); go_simp; (try with_reducible rfl))
                        simp only [Act.put, List.setIfInBounds_toArray, List.set_cons_zero, List.set_cons_succ]
                        refine wpAnyH_take (i := 20) (oi := ⟨some 119, _, _, _, _, _⟩) (v := ?_) rfl (by kernel_rfl) (by kernel_rfl) (by kernel_rfl) (fun _ _ _ h => h) (Or.inl ⟨?_, ?_⟩) (by assumption) ?_
                        rotate_left
                        · rfl
                        · (intro w hSw; (try dsimp only at hSw); go_simp; (try with_reducible rfl))
                        simp only [Act.put, List.setIfInBounds_toArray, List.set_cons_zero, List.set_cons_succ]
                        refine wpAnyH_take (i := 21) (oi := ⟨some 120, _, _, _, _, _⟩) (v := ?_) rfl (by kernel_rfl) (by kernel_rfl) (by kernel_rfl) (fun _ _ _ h => h) (Or.inl ⟨?_, ?_⟩) (by assumption) ?_
                        rotate_left
                        · rfl
                        · (intro w hSw; (try dsimp only at hSw); go_simp; (try with_reducible rfl))
                        simp only [Act.put, List.setIfInBounds_toArray, List.set_cons_zero, List.set_cons_succ]
                        refine wpAnyH_take (i := 22) (oi := ⟨some 121, _, _, _, _, _⟩) (v := ?_) rfl (by kernel_rfl) (by kernel_rfl) (by kernel_rfl) (fun _ _ _ h => h) (Or.inl ⟨?_, ?_⟩) (by assumption) ?_
                        rotate_left
                        · rfl
                        · (intro w hSw; (try dsimp only at hSw); go_simp; (try with_reducible rfl))
                        simp only [Act.put, List.setIfInBounds_toArray, List.set_cons_zero, List.set_cons_succ]
                        refine wpAnyH_take (i := 23) (oi := ⟨some 122, _, _, _, _, _⟩) (v := ?_) rfl (by kernel_rfl) (by kernel_rfl) (by kernel_rfl) (fun _ _ _ h => h) (Or.inl ⟨?_, ?_⟩) (by assumption) ?_
                        rotate_left
                        · rfl
                        · (intro w hSw; (try dsimp only at hSw); go_simp; (try with_reducible rfl))
                        simp only [Act.put, List.setIfInBounds_toArray, List.set_cons_zero, List.set_cons_succ]
                        refine wpAnyH_take (i := 24) (oi := ⟨some 123, _, _, _, _, _⟩) (v := ?_) rfl (by kernel_rfl) (by kernel_rfl) (by kernel_rfl) (fun _ _ _ h => h) (Or.inl ⟨?_, ?_⟩) (by assumption) ?_
                        rotate_left
                        · rfl
                        · (intro w hSw; (try dsimp only at hSw); go_simp; (try with_reducible rfl))
                        simp only [Act.put, List.setIfInBounds_toArray, List.set_cons_zero, List.set_cons_succ]
                        refine wpAnyH_take (i := 25) (oi := ⟨some 124, _, _, _, _, _⟩) (v := ?_) rfl (by kernel_rfl) (by kernel_rfl) (by kernel_rfl) (fun _ _ _ h => h) (Or.inl ⟨?_, ?_⟩) (by assumption) ?_
                        rotate_left
                        · rfl
                        · (intro w hSw; (try dsimp only at hSw); go_simp; (try with_reducible rfl))
                        simp only [Act.put, List.setIfInBounds_toArray, List.set_cons_zero, List.set_cons_succ]
                        refine wpAnyH_take (i := 26) (oi := ⟨some 125, _, _, _, _, _⟩) (v := ?_) rfl (by kernel_rfl) (by kernel_rfl) (by kernel_rfl) (fun _ _ _ h => h) (Or.inl ⟨?_, ?_⟩) (by assumption) ?_
                        rotate_left
                        · rfl
                        · (intro w hSw; (try dsimp only at hSw); go_simp; (try with_reducible rfl))
                        simp only [Act.put, List.setIfInBounds_toArray, List.set_cons_zero, List.set_cons_succ]
                        refine wpAnyH_take (i := 27) (oi := ⟨some 126, _, _, _, _, _⟩) (v := ?_) rfl (by kernel_rfl) (by kernel_rfl) (by kernel_rfl) (fun _ _ _ h => h) (Or.inl ⟨?_, ?_⟩) (by assumption) ?_
                        rotate_left
                        · rfl
                        · (intro w hSw; (try dsimp only at hSw); go_simp; (try with_reducible rfl))
                        simp only [Act.put, List.setIfInBounds_toArray, List.set_cons_zero, List.set_cons_succ]
                        refine wpAnyH_take (i := 28) (oi := ⟨some 127, _, _, _, _, _⟩) (v := ?_) rfl (by kernel_rfl) (by kernel_rfl) (by kernel_rfl) (fun _ _ _ h => h) (Or.inl ⟨?_, ?_⟩) (by assumption) ?_
                        rotate_left
                        · rfl
                        · (intro w hSw; (try dsimp only at hSw); go_simp; (try with_reducible rfl))
                        simp only [Act.put, List.setIfInBounds_toArray, List.set_cons_zero, List.set_cons_succ]
                        refine wpAnyH_take (i := 30) (oi := ⟨some 129, _, _, _, _, _⟩) (v := ?_) rfl (by kernel_rfl) (by kernel_rfl) (by kernel_rfl) (fun _ _ _ h => h) (Or.inl ⟨?_, ?_⟩) (by assumption) ?_
                        rotate_left
                        · rfl
                        · (intro w hSw; (try dsimp only at hSw); go_simp; (try with_reducible rfl))
                        simp only [Act.put, List.setIfInBounds_toArray, List.set_cons_zero, List.set_cons_succ]
                        refine wpAnyH_ready (rs := [29]) (by kernel_rfl) (by simp) ?_
                        refine AllReadyH.cons (o := ⟨some 128, _, _, _, _, _⟩) rfl (fun K hK => ?_) AllReadyH.nil
                        go_simp
                        refine (cLy.out wq.drew hwqd.out).mono ?_
                        rintro e w5 ⟨h, rfl, hh, hrh, hbL⟩
                        refine hK.out _ _ ⟨keepB hbL (Nat.le_refl _) k0, keepB hbL (Nat.le_refl _) k1, keepB hbL (Nat.le_refl _) k2, keepB hbL (Nat.le_refl _) k3, keepB hbL (Nat.le_refl _) k4⟩ (fun hHeld2 => ?_)
                        clear hK K hHeld
                        try simp only [Act.put, List.setIfInBounds_toArray, List.set_cons_zero, List.set_cons_succ]
                        refine wpAnyH_ready (rs := [31]) (by kernel_rfl) (by simp) ?_
                        refine AllReadyH.cons (o := ⟨some 130, _, _, _, _, _⟩) rfl (fun K hK => ?_) AllReadyH.nil
                        go_simp
                        refine (cEq.out w5 h hrh (hwqd.out.trans (hbL.mono hwqd.out.size))).mono ?_
                        rintro e w6 ⟨rfl, rfl⟩
                        refine hK.out _ _ hHeld2 (fun hHeld3 => ?_)
                        clear hK K
                        try simp only [Act.put, List.setIfInBounds_toArray, List.set_cons_zero, List.set_cons_succ]
                        refine wpAnyH_take (i := 32) (oi := ⟨some 131, _, _, _, _, _⟩) (v := ?_) rfl (by kernel_rfl) (by kernel_rfl) (by kernel_rfl) (fun _ _ _ h => h) (Or.inl ⟨?_, ?_⟩) (by assumption) ?_
                        rotate_left
                        · rfl
                        · (intro w hSw; (try dsimp only at hSw); go_simp; (try with_reducible rfl))
                        simp only [Act.put, List.setIfInBounds_toArray, List.set_cons_zero, List.set_cons_succ]
                        refine wpAnyH_take (i := 33) (oi := ⟨some 132, _, _, _, _, _⟩) (v := ?_) rfl (by kernel_rfl) (by kernel_rfl) (by kernel_rfl) (fun _ _ _ h => h) (Or.inl ⟨?_, ?_⟩) (by assumption) ?_
                        rotate_left
                        · rfl
                        · (intro w hSw; (try dsimp only at hSw); go_simp; (try with_reducible rfl))
                        simp only [Act.put, List.setIfInBounds_toArray, List.set_cons_zero, List.set_cons_succ]
                        refine wpAnyH_done (by kernel_rfl) ?_ _
                        go_wp2_with fail
                        go_meet
                        exact ⟨by rw [hb1.out], hwqd.out.trans (hbL.mono hwqd.out.size)⟩
                  · have e3 : ((lf : Int) != (u : Int)) = true := by rw [bne_iff_ne]; omega
                    have hb1 : Hid (BD = true) := by show _ = _; rw [hBD.out]; simp [dueBad, h3]
                    rcases hA with ⟨a1, a2, a3⟩ | ⟨a1, a2, a3, a4, a5⟩
                    · have hlf0 := Hid.mk a1
                      clear a1
                      go_quiet (fail)
                      go_wp2_with fail
                      go_meet
                      exact ⟨by rw [hb1.out], hwqb.out.trans ⟨rfl, rfl, rfl, Nat.le_refl _, fun _ _ => rfl⟩⟩
                    · have hlf0 := Hid.mk a5
                      clear a5
                      go_quiet (fail)
                      go_wp2_with fail
                      go_meet
                      exact ⟨by rw [hb1.out], hwqb.out.trans ⟨rfl, rfl, rfl, Nat.le_refl _, fun _ _ => rfl⟩⟩
          case rest =>
            obtain ⟨rfl, hbx⟩ := hcut
            have hTx : Hid (To (Dc c) κ κ w wc) := hbA.out.below hbx hbA.out.size
            have hDx : Hid (DrumAt κ c wc a d2) := hD3.to (To.of_below No κ hbx) (fun _ _ h => h)
            have hGx : Hid (Gs w wc w.heap.size av gv all grp vals) := (hGs.out.to hT3 (fun b hb _ => hk0.out b hb)).to (To.of_below No κ hbx) (fun _ _ _ h => h)
            have hrx : Hid (wc.heap[w.heap.size]? = some (.cells #[.pointer (some ⟨a, 0, none⟩), .int .i64 (lo : Int), .int .i64 (hi : Int), .int .i64 (gen : Int), .int .i64 (P : Int), .int .i64 (G : Int), .bool false] 168 (0, 0))) := (hbx.block _ (Nat.lt_of_lt_of_le htl.out hT3.size)).trans hr3row.out
            obtain ⟨m, hm⟩ : ∃ m, hi - lo - pl = m + 1 := ⟨hi - lo - pl - 1, by omega⟩
            have hstep := Hid.mk (scan_step (BD := BD) (gen := gen) (due := due) (T := ⟨lo, hi, gen, P, G, false⟩) (k := m) (all := all) (grp := grp) hrd.out hlf.out hsz.out (by rw [hBD.out, hsc2.out]))
            have hq2 := hsc.out
            rw [hm, hstep.out] at hq2
            cases BD
            · rw [if_neg (by simp)] at hq2
              have hsc3 := Hid.mk hq2
              clear hq2 l0 l1 l2 l3 l4
              have hsz48 : sz ≤ 48 := by
                have h0 := hBD.out
                by_cases h : 48 < sz
                · rw [decide_eq_true h] at h0; simp at h0
                · omega
              have z1 : IntKind.i64.wrap (16 + (sz : Int)) = 16 + sz := by rw [IntKind.wrap_i64]; omega
              have z2 : ((16 : Int) + (sz : Int)).toNat - 16 = sz := by omega
              have z3 : (16 : Int) ≤ 16 + (sz : Int) := by omega
              have z4 : (16 : Int) + (sz : Int) ≤ (cp : Int) := by omega
              have z6 : ¬ (cp = 16) := by omega
              obtain ⟨q, hq⟩ : ∃ q, Hid (q = (b.drop 16).take sz) := ⟨_, Hid.mk rfl⟩
              have hql : Hid (q.length = sz) := by show _ = _; rw [hq.out, List.length_take, List.length_drop, hbl.out]; omega
              have hq16 : Hid (∀ j u, (byC q)[j]? = some u → wc.cell? ((⟨g, 16, none⟩ : Addr).add j) = some u) := by
                refine src_mid ?_
                have := rangeAt_part (rangeAt_below hr3'.out hbx hgl.out) 16 sz
                rw [byC_drop, byC_take, Nat.zero_add, ← hq.out] at this; exact this
              have htx : Hid (w.heap.size < wc.heap.size) := Nat.lt_of_lt_of_le (Nat.lt_of_lt_of_le htl.out hT3.size) hbx.size
              obtain ⟨i0, y0, ei, ey, e1, e2', e3⟩ := info_sz (t := 5) (size := 1) (bytes := 1) (zs := 1) (by kernel_rfl)
              by_cases hl0 : lf = 0
              · rw [if_pos hl0] at hsc3
                have hl0' : ((lf : Int) == 0) = true := by rw [hl0]; rfl
                have hll : Hid (lf = 0) := hl0
                clear hl0
                obtain ⟨i1, y1, ei1, ey1, ea1, ea2, ea3⟩ := info_sz (t := 22) (size := 1) (bytes := 24) (zs := 1) (by kernel_rfl)
                by_cases hnn : gv = .slice none 0 0 ∧ sz = 0
                · have hnn' := Hid.mk hnn
                  clear hnn
                  go_wp2_with (first
                    | (at_builtin; refine wpList_append_own_at (o := ⟨some 138, _, _, _, _, _⟩) wc rfl (.tmp 133) (.tmp 137) 22 rfl w.heap.size 5 i0 y0 1 1 Tryz.underlying22 ei ey e1 e2' e3 (by omega) gv grp.length (byC grp) rfl hGx.out.g ⟨g, 16, none⟩ sz (cp - 16) (byC q) rfl (by rw [byC_len, hql.out, Nat.mul_one]) hq16.out (byC_one _) (by simp only [maxLen]; omega) (by omega) (Nat.le_of_lt htx.out) ?_; intro v' w4 hown4 hgrow hnil hat; have hG4 := Hid.mk (hGx.out.grow (grp' := grp ++ q) hgrow (by rw [List.length_append, hql.out, byC_app]; exact hown4) hat htx.out); have ht4 := Hid.mk (Nat.lt_of_lt_of_le htx.out hgrow.size); have r4 := Hid.mk ((hgrow.block _ htx.out (fun e => hGx.out.tg e.symm)).trans hrx.out); obtain rfl : v' = .slice none 0 0 := hnil.2 hnn'.out; clear hnil hat hown4)
                    | (at_builtin; refine wpList_append_lies (o := ⟨some 146, _, _, _, _, _⟩) _ rfl (.tmp 143) (.tmp 145) 52 rfl w.heap.size 22 i1 y1 1 24 Tryz.underlying52 ei1 ey1 ea1 ea2 ea3 (by omega) av all.length vals rfl (hG4.out.a.alloc _) ⟨w4.heap.size, 0, none⟩ 1 1 [.slice none 0 0] rfl rfl (cell_one_new w4 _ 22) (by intro u hu; rw [List.mem_singleton.1 hu]; rfl) (by omega) (by simp only [maxLen]; omega) (by omega) (by have := ht4.out; simp; omega) (w4.heap.size + 1) (by simp) ?_; intro gg cap w5 hown5 hgrow5 hat5 hlt5; have r5 := Hid.mk ((hgrow5.block w.heap.size (by have := ht4.out; simp; omega) (fun e => hG4.out.ta e.symm)).trans ((Below.heap_alloc w4 _ _ ht4.out).trans r4.out)); have u5 : w5.cell? ⟨w.heap.size, 5, none⟩ = some (.int .i64 (G : Int)) := cell_at r5.out rfl; have u4 : w5.cell? ⟨w.heap.size, 4, none⟩ = some (.int .i64 (P : Int)) := cell_at r5.out rfl; have v5 : w5.frozen? ⟨w.heap.size, 5, none⟩ = false := frozen_at r5.out; have v4 : w5.frozen? ⟨w.heap.size, 4, none⟩ = false := frozen_at r5.out))
                  go_roundw
                  case rel =>
                    have hk00 : ∀ b, gv.ownBlock = some b → κ b = 0 := fun b hb => hz'.out b (hGx.out.g.lt b hb).1
                    have hk01 : ∀ b, av.ownBlock = some b → κ b = 0 := fun b hb => hz'.out b (hGx.out.a.lt b hb).1
                    have hkt : κ w.heap.size = 0 := hz'.out _ (Nat.le_refl _)
                    change (w4.alloc _).grownBy w5 av.ownBlock at hgrow5
                    change av.ownBlock = some gg ∨ gg = w4.heap.size + 1 at hat5
                    have tg4 : To (fun j => j = 0) κ κ wc w4 := (To.refl _ κ wc).grown hgrow (fun b hb _ => hk00 b hb)
                    have tg5 : To (fun j => j = 0) κ κ wc w5 := (tg4.alloc _).grown hgrow5 (fun b hb _ => hk01 b hb)
                    have hG5 := (hG4.out.to ((To.refl No κ w4).alloc _) (fun _ _ _ h => h)).push hgrow5 hown5 (by
                      rcases hat5 with h | h
                      · exact .inl h
                      · refine .inr ?_
                        show some gg = _
                        rw [h]; simp) (by have := ht4.out; simp; omega)
                    have hG6 := (hG5.far (grown_setCell w5 ⟨w.heap.size, 5, none⟩ (.int .i64 ((G : Int) + 1)))).far (grown_setCell _ ⟨w.heap.size, 4, none⟩ (.int .i64 ((pl : Int) + 1)))
                    refine ⟨pl + 1, _, _, pl + 1, G + 1, d2, all ++ [grp ++ q], [], none, _, by omega, by go_num, rfl, rfl, ?_, ?_, by omega, Nat.le_refl _, ?_, ?_, ?_, hG6, by simp, by rw [List.length_append, List.length_singleton]; omega, ?_⟩
                    · show Value.int .i64 ((lf : Int) - 1) = .int .i64 (-1)
                      rw [hll.out]; rfl
                    · show _ = _
                      rw [hq.out, hsc3.out, show hi - lo - (pl + 1) = m by omega]
                    · intro u hu; cases hu
                    · exact hDx.out.to ((tg5.setCell _ (fun _ => hkt)).setCell _ (fun _ => hkt)) (fun k hk h => by have := hk.1; omega)
                    · exact (((((hTx.out.grown hgrow (fun b hb hlt => by have := (hGx.out.g.lt b hb).1; omega)).alloc _).grown hgrow5 (fun b hb hlt => by have := (hGx.out.a.lt b hb).1; omega)).setCell (a := ⟨w.heap.size, 5, none⟩) _ (fun h => absurd h (Nat.lt_irrefl _))).setCell (a := ⟨w.heap.size, 4, none⟩) _ (fun h => absurd h (Nat.lt_irrefl _)))
                    · have := heap_setCell_at (i := 4) (.int .i64 ((pl : Int) + 1)) (heap_setCell_at (i := 5) (.int .i64 ((G : Int) + 1)) r5.out)
                      show _ = _
                      rw [show ((pl + 1 : Nat) : Int) = (pl : Int) + 1 by omega, show ((G + 1 : Nat) : Int) = (G : Int) + 1 by omega]
                      exact this
                  case measure => simp [intOf]; omega
                · have hnn' := Hid.mk hnn
                  clear hnn
                  go_wp2_with (first
                    | (at_builtin; refine wpList_append_own_at (o := ⟨some 138, _, _, _, _, _⟩) wc rfl (.tmp 133) (.tmp 137) 22 rfl w.heap.size 5 i0 y0 1 1 Tryz.underlying22 ei ey e1 e2' e3 (by omega) gv grp.length (byC grp) rfl hGx.out.g ⟨g, 16, none⟩ sz (cp - 16) (byC q) rfl (by rw [byC_len, hql.out, Nat.mul_one]) hq16.out (byC_one _) (by simp only [maxLen]; omega) (by omega) (Nat.le_of_lt htx.out) ?_; intro v' w4 hown4 hgrow hnil hat; have hG4 := Hid.mk (hGx.out.grow (grp' := grp ++ q) hgrow (by rw [List.length_append, hql.out, byC_app]; exact hown4) hat htx.out); have ht4 := Hid.mk (Nat.lt_of_lt_of_le htx.out hgrow.size); have r4 := Hid.mk ((hgrow.block _ htx.out (fun e => hGx.out.tg e.symm)).trans hrx.out); obtain ⟨hb, cb, rfl⟩ := own_some hown4 (fun e => hnn'.out (hnil.1 e)); clear hnil hat hown4)
                    | (at_builtin; refine wpList_append_lies (o := ⟨some 146, _, _, _, _, _⟩) _ rfl (.tmp 143) (.tmp 145) 52 rfl w.heap.size 22 i1 y1 1 24 Tryz.underlying52 ei1 ey1 ea1 ea2 ea3 (by omega) av all.length vals rfl (hG4.out.a.alloc _) ⟨w4.heap.size, 0, none⟩ 1 1 [.slice (some ⟨hb, 0, none⟩) (grp.length + sz) cb] rfl rfl (cell_one_new w4 _ 22) (by intro u hu; rw [List.mem_singleton.1 hu]; rfl) (by omega) (by simp only [maxLen]; omega) (by omega) (by have := ht4.out; simp; omega) (w4.heap.size + 1) (by simp) ?_; intro gg cap w5 hown5 hgrow5 hat5 hlt5; have r5 := Hid.mk ((hgrow5.block w.heap.size (by have := ht4.out; simp; omega) (fun e => hG4.out.ta e.symm)).trans ((Below.heap_alloc w4 _ _ ht4.out).trans r4.out)); have u5 : w5.cell? ⟨w.heap.size, 5, none⟩ = some (.int .i64 (G : Int)) := cell_at r5.out rfl; have u4 : w5.cell? ⟨w.heap.size, 4, none⟩ = some (.int .i64 (P : Int)) := cell_at r5.out rfl; have v5 : w5.frozen? ⟨w.heap.size, 5, none⟩ = false := frozen_at r5.out; have v4 : w5.frozen? ⟨w.heap.size, 4, none⟩ = false := frozen_at r5.out))
                  go_roundw
                  case rel =>
                    have hk00 : ∀ b, gv.ownBlock = some b → κ b = 0 := fun b hb => hz'.out b (hGx.out.g.lt b hb).1
                    have hk01 : ∀ b, av.ownBlock = some b → κ b = 0 := fun b hb => hz'.out b (hGx.out.a.lt b hb).1
                    have hkt : κ w.heap.size = 0 := hz'.out _ (Nat.le_refl _)
                    change (w4.alloc _).grownBy w5 av.ownBlock at hgrow5
                    change av.ownBlock = some gg ∨ gg = w4.heap.size + 1 at hat5
                    have tg4 : To (fun j => j = 0) κ κ wc w4 := (To.refl _ κ wc).grown hgrow (fun b hb _ => hk00 b hb)
                    have tg5 : To (fun j => j = 0) κ κ wc w5 := (tg4.alloc _).grown hgrow5 (fun b hb _ => hk01 b hb)
                    have hG5 := (hG4.out.to ((To.refl No κ w4).alloc _) (fun _ _ _ h => h)).push hgrow5 hown5 (by
                      rcases hat5 with h | h
                      · exact .inl h
                      · refine .inr ?_
                        show some gg = _
                        rw [h]; simp) (by have := ht4.out; simp; omega)
                    have hG6 := (hG5.far (grown_setCell w5 ⟨w.heap.size, 5, none⟩ (.int .i64 ((G : Int) + 1)))).far (grown_setCell _ ⟨w.heap.size, 4, none⟩ (.int .i64 ((pl : Int) + 1)))
                    refine ⟨pl + 1, _, _, pl + 1, G + 1, d2, all ++ [grp ++ q], [], none, _, by omega, by go_num, rfl, rfl, ?_, ?_, by omega, Nat.le_refl _, ?_, ?_, ?_, hG6, by simp, by rw [List.length_append, List.length_singleton]; omega, ?_⟩
                    · show Value.int .i64 ((lf : Int) - 1) = .int .i64 (-1)
                      rw [hll.out]; rfl
                    · show _ = _
                      rw [hq.out, hsc3.out, show hi - lo - (pl + 1) = m by omega]
                    · intro u hu; cases hu
                    · exact hDx.out.to ((tg5.setCell _ (fun _ => hkt)).setCell _ (fun _ => hkt)) (fun k hk h => by have := hk.1; omega)
                    · exact (((((hTx.out.grown hgrow (fun b hb hlt => by have := (hGx.out.g.lt b hb).1; omega)).alloc _).grown hgrow5 (fun b hb hlt => by have := (hGx.out.a.lt b hb).1; omega)).setCell (a := ⟨w.heap.size, 5, none⟩) _ (fun h => absurd h (Nat.lt_irrefl _))).setCell (a := ⟨w.heap.size, 4, none⟩) _ (fun h => absurd h (Nat.lt_irrefl _)))
                    · have := heap_setCell_at (i := 4) (.int .i64 ((pl : Int) + 1)) (heap_setCell_at (i := 5) (.int .i64 ((G : Int) + 1)) r5.out)
                      show _ = _
                      rw [show ((pl + 1 : Nat) : Int) = (pl : Int) + 1 by omega, show ((G + 1 : Nat) : Int) = (G : Int) + 1 by omega]
                      exact this
                  case measure => simp [intOf]; omega
              · rw [if_neg hl0] at hsc3
                have hl0' : ((lf : Int) == 0) = false := by rw [beq_eq_false_iff_ne]; omega
                have hl1 : Hid (1 ≤ lf) := by show 1 ≤ lf; omega
                go_wp2_with (at_builtin; refine wpList_append_own_at wc rfl (.tmp 133) (.tmp 137) 22 rfl w.heap.size 5 i0 y0 1 1 Tryz.underlying22 ei ey e1 e2' e3 (by omega) gv grp.length (byC grp) rfl hGx.out.g ⟨g, 16, none⟩ sz (cp - 16) (byC q) rfl (by rw [byC_len, hql.out, Nat.mul_one]) hq16.out (byC_one _) (by simp only [maxLen]; omega) (by omega) (Nat.le_of_lt htx.out) ?_; intro v' w4 hown4 hgrow hnil hat)
                go_roundw
                case rel =>
                  have hk00 : ∀ b, gv.ownBlock = some b → κ b = 0 := fun b hb => hz'.out b (hGx.out.g.lt b hb).1
                  have tg4 : To (fun j => j = 0) κ κ wc w4 := (To.refl _ κ wc).grown hgrow (fun b hb _ => hk00 b hb)
                  refine ⟨pl + 1, av, v', P, G, d2, all, grp ++ q, some (lf - 1), vals, by omega, by go_num, rfl, rfl, ?_, ?_, hGP, by omega, ?_, ?_, ?_, ?_, ?_, by omega, ?_⟩
                  · show Value.int .i64 ((lf : Int) - 1) = .int .i64 (((lf - 1 : Nat)) : Int)
                    have := hl1.out
                    congr 1; omega
                  · show _ = _
                    rw [hq.out, hsc3.out, show hi - lo - (pl + 1) = m by omega]
                  · intro u hu; cases hu; omega
                  · exact hDx.out.to tg4 (fun k hk h => by have := hk.1; omega)
                  · exact hTx.out.grown hgrow (fun b hb hlt => by have := (hGx.out.g.lt b hb).1; omega)
                  · refine hGx.out.grow hgrow ?_ hat htx.out
                    rw [List.length_append, hql.out, byC_app]; exact hown4
                  · rw [List.length_append, hql.out]; omega
                  · exact (hgrow.block _ htx.out (fun e => hGx.out.tg e.symm)).trans hrx.out
                case measure => simp [intOf]; omega
            · rw [if_pos rfl] at hq2
              have hsc3 := Hid.mk hq2
              clear hq2 l0 l1 l2 l3 l4
              go_wp2
              go_ret3
              rw [hsc3.out]
              refine ⟨_, _, rfl, hDx.out, hTx.out, fun _ => ⟨w.heap.size, vals, rfl, Nat.le_refl _, hrx.out, ⟨?_, ?_, hg2, hGP⟩, hGx.out.a, fun i h => ?_⟩⟩
              · show hi ≤ 16384; omega
              · show lo + P ≤ hi; omega
              · obtain ⟨v, h1, h2⟩ := hGx.out.each i h
                exact ⟨v, h1, h2.free⟩
      · have he' : ((e2 : Int) != 0) = true := by rw [bne_iff_ne]; omega
        have cR : Hid (Calls Tryz.prog 97 #[.pointer (some ⟨a, 0, none⟩), .int .i64 ((lo : Int) + (pl : Int))] wr fun e w' => ∃ v, e = .returned (.tuple #[v, .int .i64 (e2 : Int)]) ∧ DrumAt κ c w' a d2 ∧ To (Dc c) κ κ wr w') := by
          show Calls _ _ _ _ _
          rw [eB]; exact c_read1 κ c a (lo + pl) _ wr hDr hrd.out
        obtain ⟨m, hm⟩ : ∃ m, hi - lo - pl = m + 1 := ⟨hi - lo - pl - 1, by omega⟩
        have hR : Hid (Vm.Tape.open d lo hi gen = (e2, ⟨lo, hi, gen, P, G, false⟩, [], d2)) := by
          show _ = _
          rw [hsc.out, hm, Vm.Tape.scan, hrd.out]
          rcases e2 with _ | e2
          · exact absurd rfl he
          · rfl
        have hne := Hid.mk he
        clear hDr eB he
        go_wp2_with (go_at_call 97; refine cR.out.mono ?_; rintro e w3 ⟨v, rfl, hD3, hT3⟩)
        go_ret3
        rw [hR.out]
        exact ⟨_, _, rfl, hD3, hTr.trans hT3, fun h => absurd h hne.out⟩
    · have hpe : pl = hi - lo := by omega
      have hR : Hid (Vm.Tape.open d lo hi gen = (0, ⟨lo, hi, gen, P, G, false⟩, all, dj)) := by
        show _ = _
        rw [hsc.out, show hi - lo - pl = 0 by omega, Vm.Tape.scan]
      have hlt' : ¬ ((pl : Int) < (hi : Int) - lo) := by omega
      have hDr' := Hid.mk hDr
      have hpe' := Hid.mk hpe
      clear hDr hpe
      go_wp2
      go_ret3
      rw [hR.out]
      refine ⟨_, _, rfl, hDr'.out, hTr, fun _ => ⟨w.heap.size, vals, rfl, Nat.le_refl _, hrow.out, ⟨?_, ?_, hg2, hGP⟩, hGs.out.a, fun i h => ?_⟩⟩
      · show hi ≤ 16384; omega
      · show lo + P ≤ hi; have := hpe'.out; omega
      · obtain ⟨v, h1, h2⟩ := hGs.out.each i h
        exact ⟨v, h1, h2.free⟩
end Go.Proofs.YtoacaikopcdkmaaGreat
