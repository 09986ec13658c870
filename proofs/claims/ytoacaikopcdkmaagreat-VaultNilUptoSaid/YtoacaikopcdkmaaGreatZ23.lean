/- The vault while it is opened: what recover needs. The vault while it is opened: the drum in the rounds of recover. The vault while it is opened: recover. No condition. -/
import Derived.Test.YtoacaikopcdkmaaGreatZ22
import Derived.RangeFuncWrites
set_option linter.unusedSimpArgs false
set_option linter.unusedVariables false
namespace Go.Proofs.YtoacaikopcdkmaaGreat
open Go.RowKit Go.Sort Go.MapKept Go.Maps Go.WideElems Go.ChangeMaps Go.Shelf
/-! ## how long the groups on a log are -/
def tot (l : List (List UInt8)) : Nat := (l.map List.length).sum
theorem tot_app (a b : List (List UInt8)) : tot (a ++ b) = tot a + tot b := by unfold tot; rw [List.map_append, List.sum_append]
theorem tot_one (p : List UInt8) : tot [p] = p.length := by simp [tot]
theorem tot_mem {p : List UInt8} {l : List (List UInt8)} (h : p ∈ l) : p.length ≤ tot l := by
  obtain ⟨a, b, rfl⟩ := List.append_of_mem h
  rw [tot_app, show p :: b = [p] ++ b from rfl, tot_app, tot_one]; omega
theorem scan_tot (gen lo : Nat) : ∀ (k pl : Nat) (d : Vm.Drum) (T : Vm.Tape) (all : List (List UInt8)) (grp : List UInt8) (due : Option Nat), tot (Vm.Tape.scan gen lo k pl d T all grp due).2.2.1 ≤ tot all + grp.length + 48 * k
  | 0, _, d, _, all, _, _ => by simp only [Vm.Tape.scan]; omega
  | k + 1, pl, d, T, all, grp, due => by
    obtain ⟨er, b, d2, hd⟩ : ∃ er b d2, d.read (lo + pl) = (er, b, d2) := ⟨_, _, _, rfl⟩
    cases er with
    | zero =>
      rw [scan_step hd rfl rfl rfl]
      split
      · simp only; omega
      · rename_i hB
        have h48 : Vm.num ((b.drop 14).take 2) ≤ 48 := by
          simp only [Bool.not_eq_true, Bool.or_eq_false_iff, decide_eq_false_iff_not] at hB
          omega
        have hl : ((b.drop 16).take (Vm.num ((b.drop 14).take 2))).length ≤ 48 := Nat.le_trans (List.length_take_le _ _) h48
        split
        · refine Nat.le_trans (scan_tot gen lo k _ d2 _ _ _ _) ?_
          rw [tot_app, tot_one, List.length_append]
          simp only [List.length_nil]
          omega
        · refine Nat.le_trans (scan_tot gen lo k _ d2 _ _ _ _) ?_
          rw [List.length_append]; omega
    | succ er =>
      rw [Vm.Tape.scan, hd]
      simp [tot]
theorem topen_tot (d : Vm.Drum) (lo hi gen : Nat) : tot (Vm.Tape.open d lo hi gen).2.2.1 ≤ 48 * (hi - lo) := by
  unfold Vm.Tape.open
  split
  · simp [tot]
  · have := scan_tot gen lo (hi - lo) 0 d ⟨lo, hi, gen, 0, 0, false⟩ [] [] none
    simpa [tot] using this
/-! ## a group is done again -/
theorem redo_stop (base : Nat) : ∀ (l : List (List UInt8)) (r : Nat × Nat × Vm.Drum), r.1 ≠ 0 → l.foldl (Vm.redo base) r = r
  | [], _, _ => rfl
  | g :: l, r, h => by
    rw [List.foldl_cons, show Vm.redo base r g = r by unfold Vm.redo; rw [if_neg h]]
    exact redo_stop base l r h
def rfold (base st : Nat) (L : List UInt8) (d : Vm.Drum) {m : Nat} (pre : List (Ix m)) : Nat × Vm.Drum := pre.foldl (fun r x => Vm.putRec base st r (chk L x.1)) (0, d)
theorem rfold_snoc (base st : Nat) (L : List UInt8) (d : Vm.Drum) {m : Nat} (pre : List (Ix m)) (x : Ix m) : rfold base st L d (pre ++ [x]) = Vm.putRec base st (rfold base st L d pre) (chk L x.1) := by
  unfold rfold; rw [List.foldl_append]; rfl
theorem putRec_stop (base st : Nat) : ∀ (l : List (List UInt8)) (r : Nat × Vm.Drum), r.1 ≠ 0 → l.foldl (Vm.putRec base st) r = r
  | [], _, _ => rfl
  | g :: l, r, h => by
    rw [List.foldl_cons, show Vm.putRec base st r g = r by unfold Vm.putRec; rw [if_neg h]]
    exact putRec_stop base st l r h
theorem rfold_range (base st : Nat) (L : List UInt8) (d : Vm.Drum) (m k : Nat) (h : k ≤ m) : rfold base st L d (upto m k h) = ((List.range k).map (chk L)).foldl (Vm.putRec base st) (0, d) := by
  rw [← upto_val m k h, List.map_map, List.foldl_map]; rfl
theorem rfold_stop (base st : Nat) (L : List UInt8) (d : Vm.Drum) (m k : Nat) (h : k ≤ m) (hf : (rfold base st L d (upto m k h)).1 ≠ 0) : rfold base st L d (upto m m (Nat.le_refl _)) = rfold base st L d (upto m k h) := by
  rw [rfold_range] at hf ⊢
  rw [rfold_range]
  have e : List.range m = List.range k ++ (List.range (m - k)).map (k + ·) := by
    rw [← List.range_add, show k + (m - k) = m by omega]
  rw [e, List.map_append, List.foldl_append, putRec_stop _ _ _ _ hf]
theorem redo_rfold {base : Nat} {st : Nat} {d : Vm.Drum} {g : List UInt8} {m : Nat} (hg : g.length = 10 + m * 500) : Vm.redo base (0, st, d) g = ((rfold base (Vm.num ((g.drop 2).take 8)) (g.drop 10) d (upto m m (Nat.le_refl _))).1, Vm.num ((g.drop 2).take 8), (rfold base (Vm.num ((g.drop 2).take 8)) (g.drop 10) d (upto m m (Nat.le_refl _))).2) := by
  unfold Vm.redo
  rw [if_pos rfl, chunks_eq m g.length (g.drop 10) (by omega) (by rw [List.length_drop]; omega), rfold_range]
theorem putRec_kp (base st : Nat) (r : Nat × Vm.Drum) (p : List UInt8) : Kp 8 r.2 (Vm.putRec base st r p).2 := by
  unfold Vm.putRec
  split
  · exact putPage_kp _ _ _ _ _
  · exact .refl _ _
theorem rfold_kp (base st : Nat) (L : List UInt8) (d : Vm.Drum) {m : Nat} (pre : List (Ix m)) : Kp (8 * pre.length) d (rfold base st L d pre).2 := by
  suffices h : ∀ (pre : List (Ix m)) (r : Nat × Vm.Drum), Kp (8 * pre.length) r.2 (pre.foldl (fun r x => Vm.putRec base st r (chk L x.1)) r).2 from h pre (0, d)
  intro pre
  induction pre with
  | nil => intro r; exact .refl _ _
  | cons x pre ih =>
    intro r
    rw [List.foldl_cons]
    exact ((putRec_kp base st r (chk L x.1)).trans (ih _)).mono (by rw [List.length_cons]; omega)
/-- What form says of each chunk. -/
theorem fst1_all (pages : Nat) (L : List UInt8) (m : Nat) (h : (fst1 pages L (upto m m (Nat.le_refl _))).1 = true) : ∀ x, x < m → Vm.num ((chk L x).take 4) < pages := by
  rw [fst1_range] at h
  intro x hx
  have key : ∀ (l : List (List UInt8)) (r : Bool × Int), (l.foldl (stp pages) r).1 = true → ∀ q ∈ l, Vm.num (q.take 4) < pages := by
    intro l
    induction l with
    | nil => intro r _ q hq; cases hq
    | cons y l ih =>
      intro r hr q hq
      rw [List.foldl_cons] at hr
      rcases List.mem_cons.1 hq with rfl | hq
      · cases hb : (stp pages r q).1 with
        | true =>
          unfold stp at hb
          simp only [Bool.and_eq_true, decide_eq_true_eq] at hb
          exact hb.2
        | false =>
          have := stp_false pages l (stp pages r q).2
          rw [show ((false, (stp pages r q).2) : Bool × Int) = stp pages r q from Prod.ext hb.symm rfl, hr] at this
          cases this
      · exact ih _ hr q hq
  exact key _ _ h _ (List.mem_map.2 ⟨x, List.mem_range.2 hx, rfl⟩)
/-! ## a colour that no block has -/
theorem fresh_col (κ : Nat → Nat) (n : Nat) : ∃ K, ∀ b, b < n → κ b < K := by
  induction n with
  | zero => exact ⟨0, fun b h => absurd h (Nat.not_lt_zero b)⟩
  | succ n ih =>
    obtain ⟨K, hK⟩ := ih
    refine ⟨max K (κ n + 1), fun b hb => ?_⟩
    by_cases e : b = n
    · subst e; omega
    · have := hK b (by omega); omega
/-! ## the blocks for deferred calls -/
def mkD (D : Nat) : Deferred := { target := .collected D, args := #[] }
structure Gone (Ds : List Nat) (W W' : World) : Prop where
  os : W'.os = W.os
  tape : W'.tape = W.tape
  output : W'.output = W.output
  size : W'.heap.size = W.heap.size
  same : ∀ k, k ∉ Ds → W'.heap[k]? = W.heap[k]?
theorem leaves_all {n : Nat} {P : Program} {fn : Func} {tmps : Array Value} {R : Ending → World → Prop} : ∀ (Ds : List Nat) (W : World), Ds.Nodup → (∀ D ∈ Ds, W.heap[D]? = some (.deferred (some []))) →
    (∀ W', Gone Ds W W' → LeavesInM Fence.wide n P fn tmps R [] .returning W') → LeavesInM Fence.wide n P fn tmps R (Ds.map mkD) .returning W
  | [], W, _, _, h => h W ⟨rfl, rfl, rfl, rfl, fun _ _ => rfl⟩
  | D :: Ds, W, hn, hd, h => by
    rw [List.nodup_cons] at hn
    have hD := hd D List.mem_cons_self
    refine ⟨by simp, .inl ⟨D, _, rfl, run_takeDeferred hD, leaves_all Ds _ hn.2 (fun E hE => ?_) fun W' g => h W' ⟨g.os, g.tape, g.output, g.size.trans (by simp), fun k hk => ?_⟩⟩⟩
    · have hne : D ≠ E := fun e => hn.1 (e ▸ hE)
      exact (World.putObj_heap_other hne.symm).trans (hd E (List.mem_cons_of_mem _ hE))
    · rw [List.mem_cons] at hk
      exact (g.same k fun e => hk (.inr e)).trans (World.putObj_heap_other fun e => hk (.inl e))
end Go.Proofs.YtoacaikopcdkmaaGreat

namespace Go.Proofs.YtoacaikopcdkmaaGreat
open Go.RowKit Go.Sort Go.MapKept Go.Maps Go.WideElems Go.ChangeMaps Go.Shelf
/-- From B on only blocks of cells have the drum's colours, the others have none. -/
def Cl (c B : Nat) (κ : Nat → Nat) (W : World) : Prop := ∀ k, B ≤ k → κ k = 0 ∨ (Dc c (κ k) ∧ ∃ o, W.heap[k]? = some o ∧ o.isCells = true)
theorem Cl.dc {c B κ W k} (h : Cl c B κ W) (hc0 : 1 ≤ c) (hk : B ≤ k) (hd : Dc c (κ k)) : ∃ o, W.heap[k]? = some o ∧ o.isCells = true := by
  rcases h k hk with e | e
  · rw [e] at hd; have := hd.1; omega
  · exact e.2
theorem norm {κ κ' c B W W' a d} (hc0 : 1 ≤ c) (hc : Cl c B κ W) (hD : DrumAt κ' c W' a d) (t : To (Dc c) κ κ' W W') (hz : Cz κ' W') :
    ∃ κ2, DrumAt κ2 c W' a d ∧ To (Dc c) κ κ2 W W' ∧ Cz κ2 W' ∧ Cl c B κ2 W' ∧ KeepsFrom B W W' := by
  obtain ⟨h0, s, sc, n, nc, lv, hB⟩ := hD
  obtain ⟨good, hgood⟩ : ∃ good : Nat → Prop, good = fun k => k = a ∨ k = s ∨ k = n ∨ lv.ownBlock = some k := ⟨_, rfl⟩
  have hcells : ∀ k, good k → Dc c (κ' k) ∧ ∃ o, W'.heap[k]? = some o ∧ o.isCells = true := by
    intro k hk
    rw [hgood] at hk
    have hrow : ∀ {kk e size v nn xs}, Row κ' kk W' e size v nn xs → v.ownBlock = some k → ∃ o, W'.heap[k]? = some o ∧ o.isCells = true := by
      intro kk e size v nn xs hR hv
      rcases hR.1.2 with ⟨e1, _⟩ | ⟨g, cap, cur, e1, _, e3, _⟩
      · rw [e1] at hv; cases hv
      · rw [e1] at hv
        injection hv with hv
        subst hv
        exact ⟨_, e3, rfl⟩
    rcases hk with rfl | rfl | rfl | hk
    · exact ⟨by rw [hB.col]; exact ⟨by omega, by omega⟩, _, hB.blk, rfl⟩
    · exact ⟨by rw [hB.safe.2 _ rfl]; exact ⟨by omega, by omega⟩, hrow hB.safe rfl⟩
    · exact ⟨by rw [hB.now.2 _ rfl]; exact ⟨by omega, by omega⟩, hrow hB.now rfl⟩
    · exact ⟨by rw [hB.loose.2 _ hk]; exact ⟨by omega, by omega⟩, hrow hB.loose hk⟩
  classical
  obtain ⟨κ2, hκ⟩ : ∃ κ2 : Nat → Nat, κ2 = fun k => if B ≤ k ∧ ¬ good k then 0 else κ' k := ⟨_, rfl⟩
  have k1 : ∀ k, good k → κ2 k = κ' k := fun k hk => by rw [hκ]; simp only; rw [if_neg (fun e => e.2 hk)]
  have k2 : ∀ k, ¬ B ≤ k → κ2 k = κ' k := fun k hk => by rw [hκ]; simp only; rw [if_neg (fun e => hk e.1)]
  have k3 : ∀ k, B ≤ k → ¬ good k → κ2 k = 0 := fun k hk hg => by rw [hκ]; simp only; rw [if_pos ⟨hk, hg⟩]
  have hrow : ∀ {kk e size v nn xs}, Row κ' kk W' e size v nn xs → (∀ k, v.ownBlock = some k → good k) → Row κ2 kk W' e size v nn xs := fun hR hg => ⟨hR.1, fun b hb => (k1 b (hg b hb)).trans (hR.2 b hb)⟩
  refine ⟨κ2, ⟨h0, s, sc, n, nc, lv, (k1 a (by rw [hgood]; exact .inl rfl)).trans hB.col, hB.blk, hrow hB.safe ?_, hrow hB.now ?_, hrow hB.loose ?_⟩, ⟨t.os, t.tape, t.output, t.size, fun b hb hn => ?_, t.blk⟩, fun b hb => ?_, fun k hk => ?_, ⟨t.size, fun k o hk ho hn => ?_⟩⟩
  · intro k hk; injection hk with hk; rw [hgood]; exact .inr (.inl hk.symm)
  · intro k hk; injection hk with hk; rw [hgood]; exact .inr (.inr (.inl hk.symm))
  · intro k hk; rw [hgood]; exact .inr (.inr (.inr hk))
  · have e := t.col b hb hn
    by_cases hb2 : B ≤ b
    · by_cases hg : good b
      · rw [k1 b hg, e]
      · rw [k3 b hb2 hg]
        rcases hc b hb2 with h | h
        · exact h.symm
        · exact absurd h.1 hn
    · rw [k2 b hb2, e]
  · have e := hz b hb
    by_cases hb2 : B ≤ b
    · by_cases hg : good b
      · rw [k1 b hg, e]
      · exact k3 b hb2 hg
    · rw [k2 b hb2, e]
  · by_cases hg : good k
    · obtain ⟨q1, q2⟩ := hcells k hg
      exact .inr ⟨by rw [k1 k hg]; exact q1, q2⟩
    · exact .inl (k3 k hk hg)
  · have hlt := (Array.getElem?_eq_some_iff.1 ho).1
    rw [t.blk k hlt fun hd => ?_]
    · exact ho
    · obtain ⟨o', ho', hc'⟩ := hc.dc hc0 hk hd
      rw [ho] at ho'
      injection ho' with ho'
      rw [← ho', hn] at hc'; cases hc'
/-- What the drum is, in the rounds. -/
structure RdI (S : Nat → Prop) (κ1 : Nat → Nat) (c B : Nat) (W1 W : World) (dA : Nat) (κr : Nat → Nat) (d : Vm.Drum) : Prop where
  drum : DrumAt κr c W dA d
  t : To S κ1 κr W1 W
  z : Cz κr W
  cl : Cl c B κr W
theorem RdI.turn {S κ1 c B W1 W W' dA κr d row} (h : RdI S κ1 c B W1 W dA κr d) (hc0 : 1 ≤ c) (hB : W1.heap.size ≤ B) (hg : W.grownBy W' row) (hr : ∀ r, row = some r → B ≤ r ∧ ∃ o : Obj, W.heap[r]? = some o ∧ o.isCells = false) : RdI S κ1 c B W1 W' dA κr d := by
  have hne : ∀ k, B ≤ k → Dc c (κr k) → some k ≠ row := fun k hk hd e => by
    obtain ⟨_, o, ho, hn⟩ := hr k e.symm
    obtain ⟨o', ho', hc⟩ := h.cl.dc hc0 hk hd
    rw [ho] at ho'
    injection ho' with ho'
    rw [← ho', hn] at hc; cases hc
  have t' : To (fun j => ¬ Dc c j) κr κr W W' := ⟨hg.os, hg.tape, hg.output, hg.size, fun _ _ _ => rfl, fun b hb hn => hg.block b hb fun e => by
    have hd : Dc c (κr b) := Classical.byContradiction hn
    by_cases hb2 : B ≤ b
    · exact hne b hb2 hd e
    · obtain ⟨h1, _⟩ := hr b e.symm
      omega⟩
  refine ⟨h.drum.to t' (fun k hk hn => hn hk), h.t.grown hg fun k hk hlt => ?_, fun b hb => h.z b (Nat.le_trans hg.size hb), fun k hk => ?_⟩
  · obtain ⟨h1, _⟩ := hr k hk
    omega
  · rcases h.cl k hk with e | ⟨hd, o, ho, hc⟩
    · exact .inl e
    · exact .inr ⟨hd, o, (hg.block k (Array.getElem?_eq_some_iff.1 ho).1 (hne k hk hd)).trans ho, hc⟩
/-- The drum goes on. -/
theorem RdI.next {S κ1 c B W1 W W' dA κr d κ' d'} (h : RdI S κ1 c B W1 W dA κr d) (hS : ∀ j, Dc c j → S j) (hc0 : 1 ≤ c) (hD : DrumAt κ' c W' dA d') (t : To (Dc c) κr κ' W W') (hz : Cz κ' W') : ∃ κ2, RdI S κ1 c B W1 W' dA κ2 d' ∧ KeepsFrom B W W' ∧ To (Dc c) κr κ2 W W' := by
  obtain ⟨κ2, n1, n2, n3, n4, n5⟩ := norm hc0 h.cl hD t hz
  exact ⟨κ2, ⟨n1, h.t.trans (n2.mono hS), n3, n4⟩, n5, n2⟩
/-- A cell of another colour is stored. -/
theorem RdI.store {S S' κ1 c B W1 W dA κr d} (h : RdI S κ1 c B W1 W dA κr d) (hS : ∀ j, S j → S' j) {p : Addr} (hp : ¬ Dc c (κr p.block)) (hk : p.block < W1.heap.size) (hs' : S' (κ1 p.block)) (u : Value) : RdI S' κ1 c B W1 (W.setCell p u) dA κr d := by
  have t : To (fun j => j = κr p.block) κr κr W (W.setCell p u) := (To.refl _ κr W).setCell _ (fun _ => rfl)
  refine ⟨h.drum.to t (fun k hk e => hp (e ▸ hk)), (h.t.mono hS).setCell u (fun _ => hs'), fun b hb => h.z b (by simpa using hb), fun k hk => ?_⟩
  rcases h.cl k hk with e | ⟨hd, o, ho, hc⟩
  · exact .inl e
  · refine .inr ⟨hd, o, ?_, hc⟩
    rw [Below.heap_setCell _ _ _ _ (fun e => hp (by rw [← e]; exact hd))]
    exact ho
end Go.Proofs.YtoacaikopcdkmaaGreat

namespace Go.Proofs.YtoacaikopcdkmaaGreat
open Go.RowKit Go.Sort Go.MapKept Go.Maps Go.WideElems Go.ChangeMaps Go.Shelf
attribute [local go_sem] Oper.semAt_some
def RecAns (κ : Nat → Nat) (c : Nat) (w : World) (a dA : Nat) (pl : Vm.Plan) (fr : Nat) (cv tk wv mv : Value) (bz dn : Bool) (R : Nat × Vm.Head × Vm.Tape × Vm.Drum) (e : Ending) (w' : World) : Prop :=
  e = .returned (.int .i64 (R.1 : Int)) ∧ ∃ κ' lv' hh, VR κ' c w' a dA pl fr cv lv' hh tk wv mv bz dn R.2.2.2 ∧ To (St c) κ κ' w w' ∧ Cz κ' w' ∧ (R.1 = 0 → hh = R.2.1 ∧ ∃ tA, lv' = pB tA ∧ TapeB κ' (c + 7) w' tA dA R.2.2.1 ∧ TapeOk R.2.2.1)
/-- A group at hand: its row is of the colour 0. -/
def GC (κ : Nat → Nat) (w : World) (v : Value) (p : List UInt8) : Prop := (v = .slice none 0 0 ∧ p = []) ∨ ∃ b cap, v = .slice (some ⟨b, 0, none⟩) p.length cap ∧ p.length ≤ cap ∧ b < w.heap.size ∧ κ b = 0 ∧ w.rangeAt b 0 (byC p)
theorem GC.gv {κ w v p} (h : GC κ w v p) : GV w v p := by
  rcases h with h | ⟨b, cap, h1, h2, h3, h4, h5⟩
  · exact .inl h
  · exact .inr ⟨b, cap, h1, h2, h3, h5⟩
theorem GC.to {S κ κ' w w' v p} (h : GC κ w v p) (t : To S κ κ' w w') (hS : ¬ S 0) : GC κ' w' v p := by
  rcases h with h | ⟨b, cap, h1, h2, h3, h4, h5⟩
  · exact .inl h
  · have hn : ¬ S (κ b) := by rw [h4]; exact hS
    exact .inr ⟨b, cap, h1, h2, Nat.lt_of_lt_of_le h3 t.size, (t.col b h3 hn).trans h4, rangeAt_to h5 t hn⟩
theorem GC.form {κ w v p} (h : GC κ w v p) : ∃ vp vcap, v = .slice vp p.length vcap := by
  rcases h with ⟨rfl, rfl⟩ | ⟨b, cap, h1, _⟩
  · exact ⟨none, 0, rfl⟩
  · exact ⟨_, cap, h1⟩
/-- The groups at hand. -/
structure GsC (κ : Nat → Nat) (w : World) (gp : Option Addr) (N gcap : Nat) (gs : List (List UInt8)) : Prop where
  len : gs.length = N
  le : N ≤ 9223372036854775807
  at_ : ∀ i (h : i < gs.length), ∃ g v, gp = some ⟨g, 0, none⟩ ∧ g < w.heap.size ∧ κ g = 0 ∧ w.cell? ⟨g, i, none⟩ = some v ∧ GC κ w v gs[i]
theorem GsC.to {S κ κ' w w' gp N gcap gs} (h : GsC κ w gp N gcap gs) (t : To S κ κ' w w') (hS : ¬ S 0) : GsC κ' w' gp N gcap gs := by
  refine ⟨h.len, h.le, fun i hi => ?_⟩
  obtain ⟨g, v, h1, h2, h3, h4, h5⟩ := h.at_ i hi
  have hn : ¬ S (κ g) := by rw [h3]; exact hS
  exact ⟨g, v, h1, Nat.lt_of_lt_of_le h2 t.size, (t.col g h2 hn).trans h3, (World.cell?_of_block (a := ⟨g, i, none⟩) (t.blk g h2 hn)).trans h4, h5.to t hS⟩
theorem GsC.of {κ c w w' gv gs vals} (hz : Cz κ w) (t : To (Dc c) κ κ w w') (hr : w'.ownsRow w.heap.size 22 1 gv gs.length vals) (hg : ∀ i (h : i < gs.length), ∃ v, vals[i]? = some v ∧ GrpV w w' none none v gs[i]) : ∃ gp gcap, gv = .slice gp gs.length gcap ∧ GsC κ w' gp gs.length gcap gs := by
  rcases hr.2 with ⟨e1, e2⟩ | ⟨g, cap, cur, e1, e2, e3⟩
  · refine ⟨none, 0, by rw [e1, e2], ⟨rfl, by omega, fun i hi => ?_⟩⟩
    omega
  · refine ⟨_, cap, e1, ⟨rfl, by have h1 := e3.2.1; have h2 := e3.2.2.1; simp only [maxLen] at h2; omega, fun i hi => ?_⟩⟩
    obtain ⟨v, h1, h2⟩ := hg i hi
    subst e1
    have hra := own_range hr
    have hc := hra i v h1
    rw [Nat.zero_add] at hc
    refine ⟨g, v, rfl, (hr.lt g rfl).2, hz g e2, hc, ?_⟩
    rcases h2 with h2 | ⟨b, cap, q1, q2, q3, q4, q5, _, _⟩
    · exact .inl h2
    · exact .inr ⟨b, cap, q1, q2, q4, hz b q3, q5⟩
theorem two {w W : World} {o1 o2 : Obj} (hW : W = (w.alloc o1).alloc o2) : W.heap.size = w.heap.size + 2 ∧ W.heap[w.heap.size]? = some o1 ∧ W.heap[w.heap.size + 1]? = some o2 ∧ Below w.heap.size w W := by
  subst hW
  refine ⟨by simp, ?_, ?_, ((Below.refl _ _).alloc (Nat.le_refl _) _).alloc (by simp) _⟩ <;> (simp only [heap_push, World.size_alloc]; (repeat (first | rw [if_neg (by omega)] | rw [if_pos (by omega)])); first | rfl | (simp only [if_true]))
theorem VR.to {S κ κ' c w w' a dA pl fr cv lv h tk wv mv bz dn d} (H : VR κ c w a dA pl fr cv lv h tk wv mv bz dn d) (t : To S κ κ' w w') (hS : ∀ j, Dc c j → ¬ S j) (h8 : ¬ S (c + 8)) : VR κ' c w' a dA pl fr cv lv h tk wv mv bz dn d := by
  have s8 : ¬ S (κ a) := by rw [H.col]; exact h8
  exact ⟨(t.col a H.lt s8).trans H.col, (t.blk a H.lt s8).trans H.blk, H.drum.to t hS⟩
/-- The error is laid, the deferred are gone. -/
theorem rec_fin {κ κ0 κr c w W1 W W' W'' a dA pl fr cv lv' hh tk wv mv bz dn s K2 Ds R} {u : Value} (hc0 : 1 ≤ c) (hs : w.heap.size = s) (z0 : W1.heap.size = s + 2) (T01 : To No κ κ w W1) (κs : κ0 (s + 1) = K2) (κo : ∀ b, b ≠ s + 1 → κ0 b = κ b) (hK : c + 12 ≤ K2)
    (V : VR κr c W a dA pl fr cv lv' hh tk wv mv bz dn R.2.2.2) (T : To (St c) κ0 κr W1 W) (Z : Cz κr W) (hW : W' = W.setCell ⟨s + 1, 0, none⟩ u) (g : Gone Ds W' W'') (hDs : ∀ D ∈ Ds, s + 2 ≤ D ∧ κr D = 0)
    (hT : R.1 = 0 → hh = R.2.1 ∧ ∃ tA, lv' = pB tA ∧ TapeB κr (c + 7) W tA dA R.2.2.1 ∧ TapeOk R.2.2.1) : RecAns κ c w a dA pl fr cv tk wv mv bz dn R (.returned (.int .i64 (R.1 : Int))) W'' := by
  have hks : κr (s + 1) = K2 := (T.col (s + 1) (by omega) (by rw [κs]; exact fun e => by rcases e with e | e | e <;> first | omega | (have := e.2; omega))).trans κs
  have t1 : To (fun j => j = K2) κr κr W W' := by rw [hW]; exact (To.refl _ κr W).setCell _ (fun _ => hks)
  have t2 : To (fun j => j = 0) κr κr W' W'' := ⟨g.os, g.tape, g.output, by rw [g.size]; exact Nat.le_refl _, fun _ _ _ => rfl, fun b hb hn => g.same b fun e => hn (hDs b e).2⟩
  refine ⟨rfl, κr, lv', hh, (V.to t1 (fun j hj e => by have := hj.2; omega) (by omega)).to t2 (fun j hj e => by have := hj.1; omega) (by omega), ⟨t2.os.trans (t1.os.trans (T.os.trans T01.os)), t2.tape.trans (t1.tape.trans (T.tape.trans T01.tape)), t2.output.trans (t1.output.trans (T.output.trans T01.output)), ?_, fun b hb hn => ?_, fun b hb hn => ?_⟩, fun b hb => Z b ?_, fun h => ?_⟩
  · have := T01.size; have := T.size; have := t1.size; have := t2.size; omega
  · rw [← κo b (by omega)] at hn ⊢
    exact T.col b (by omega) hn
  · have e1 : b ∉ Ds := fun e => by have := (hDs b e).1; omega
    rw [g.same b e1, hW, Below.heap_setCell _ _ _ _ (show b ≠ s + 1 by omega)]
    exact (T.blk b (by omega) (by rw [κo b (by omega)]; exact hn)).trans (T01.blk b hb (fun h => h))
  · have := g.size
    have h1 : W'.heap.size = W.heap.size := by rw [hW]; simp
    omega
  · obtain ⟨h1, tA, h2, h3, h4⟩ := hT h
    exact ⟨h1, tA, h2, (h3.to t1 (by omega)).to t2 (by omega), h4⟩
/-- The deferred are gone. -/
theorem rec_fin2 {κ κ0 κr c w W1 W' W'' a dA pl fr cv lv' hh tk wv mv bz dn s K2 Ds R} (hc0 : 1 ≤ c) (hs : w.heap.size = s) (z0 : W1.heap.size = s + 2) (T01 : To No κ κ w W1) (κo : ∀ b, b ≠ s + 1 → κ0 b = κ b) (hK : ∀ b, κ b < K2)
    (V : VR κr c W' a dA pl fr cv lv' hh tk wv mv bz dn R.2.2.2) (T : To (fun j => St c j ∨ j = K2) κ0 κr W1 W') (Z : Cz κr W') (g : Gone Ds W' W'') (hDs : ∀ D ∈ Ds, s + 2 ≤ D ∧ κr D = 0)
    (hT : R.1 = 0 → hh = R.2.1 ∧ ∃ tA, lv' = pB tA ∧ TapeB κr (c + 7) W' tA dA R.2.2.1 ∧ TapeOk R.2.2.1) : RecAns κ c w a dA pl fr cv tk wv mv bz dn R (.returned (.int .i64 (R.1 : Int))) W'' := by
  have t2 : To (fun j => j = 0) κr κr W' W'' := ⟨g.os, g.tape, g.output, by rw [g.size]; exact Nat.le_refl _, fun _ _ _ => rfl, fun b hb hn => g.same b fun e => hn (hDs b e).2⟩
  refine ⟨rfl, κr, lv', hh, V.to t2 (fun j hj e => by have := hj.1; omega) (by omega), ⟨t2.os.trans (T.os.trans T01.os), t2.tape.trans (T.tape.trans T01.tape), t2.output.trans (T.output.trans T01.output), ?_, fun b hb hn => ?_, fun b hb hn => ?_⟩, fun b hb => Z b ?_, fun h => ?_⟩
  · have := T01.size; have := T.size; have := t2.size; omega
  · rw [← κo b (by omega)] at hn ⊢
    refine T.col b (by omega) fun e => ?_
    rcases e with e | e
    · exact hn e
    · rw [κo b (by omega)] at e; have := hK b; omega
  · have e1 : b ∉ Ds := fun e => by have := (hDs b e).1; omega
    rw [g.same b e1]
    refine (T.blk b (by omega) fun e => ?_).trans (T01.blk b hb (fun h => h))
    rw [κo b (by omega)] at e
    rcases e with e | e
    · exact hn e
    · have := hK b; omega
  · have := g.size
    omega
  · obtain ⟨h1, tA, h2, h3, h4⟩ := hT h
    exact ⟨h1, tA, h2, h3.to t2 (by omega), h4⟩
/-- Behind j groups. -/
structure Rec2 (κ0 : Nat → Nat) (c : Nat) (w2 wr : World) (a dA : Nat) (pl : Vm.Plan) (fr : Nat) (cv lv : Value) (gn : Nat) (tk wv mv : Value) (bz dn : Bool) (d1 : Vm.Drum) (st : Nat) (gs : List (List UInt8)) (j : Nat) (Ds : List Nat) (κr : Nat → Nat) (stj : Nat) (dj : Vm.Drum) : Prop where
  vr : VR κr c wr a dA pl fr cv lv ⟨gn, stj⟩ tk wv mv bz dn dj
  t : To (St c) κ0 κr w2 wr
  z : Cz κr wr
  fold : (gs.take j).foldl (Vm.redo pl.base) (0, st, d1) = (0, stj, dj)
  sj : stj < 18446744073709551616
  kp : Kp (tot (gs.take j)) d1 dj
  nd : Ds.Nodup
  ds : ∀ D ∈ Ds, w2.heap.size ≤ D ∧ κr D = 0 ∧ wr.heap[D]? = some (.deferred (some []))
end Go.Proofs.YtoacaikopcdkmaaGreat
