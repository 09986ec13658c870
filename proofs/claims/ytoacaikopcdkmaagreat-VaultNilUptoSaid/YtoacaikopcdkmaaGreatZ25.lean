/- The vault: Open. The vault: Open, the walk. No condition. -/
import Derived.Test.YtoacaikopcdkmaaGreatZ24
set_option linter.unusedSimpArgs false
set_option linter.unusedVariables false
namespace Go.Proofs.YtoacaikopcdkmaaGreat
open Go.RowKit Go.Sort Go.MapKept Go.Maps Go.WideElems Go.ChangeMaps
theorem getHead2_eq (d : Vm.Drum) : Vm.getHead d = Vm.getHead2 d := by
  unfold Vm.getHead Vm.getHead2
  obtain ⟨e0, b0, d0, h0⟩ : ∃ e b d', d.read 0 = (e, b, d') := ⟨_, _, _, rfl⟩
  rw [h0]
  cases e0 with
  | succ e => rfl
  | zero =>
    simp only
    obtain ⟨e1, b1, d1, h1⟩ : ∃ e b d', d0.read 1 = (e, b, d') := ⟨_, _, _, rfl⟩
    rw [h1]
    cases e1 with
    | succ e => rfl
    | zero =>
      simp only
      unfold Vm.headOf
      cases Vm.takeHead b0 <;> cases Vm.takeHead b1 <;> rfl
/-- The struct while it is opened, its cache, its map. -/
structure OpI (κ : Nat → Nat) (c : Nat) (W : World) (a dA : Nat) (pl : Vm.Plan) (fr : Nat) (cA : Nat) (lv : Value) (h : Vm.Head) (tk : Value) (mA : Nat) (d : Vm.Drum) : Prop where
  vr : VR κ c W a dA pl fr (pB cA) lv h tk (.slice none 0 0) (.map (some mA)) false false d
  cache : CacheAt κ (c + 4) W cA fr []
  colm : κ mA = c + 10
  map : MapB W mA []
theorem OpI.to {S κ κ' c W W' a dA pl fr cA lv h tk mA d lv' h' tk' d'} (H : OpI κ c W a dA pl fr cA lv h tk mA d) (t : To S κ κ' W W') (hS : ∀ j, c + 4 ≤ j → j < c + 7 → ¬ S j) (h0 : ¬ S 0) (h10 : ¬ S (c + 10)) (V : VR κ' c W' a dA pl fr (pB cA) lv' h' tk' (.slice none 0 0) (.map (some mA)) false false d') : OpI κ' c W' a dA pl fr cA lv' h' tk' mA d' :=
  ⟨V, H.cache.to t (fun j hj => hS j hj.1 (by have := hj.2; omega)) h0, (t.col mA H.map.lt (by rw [H.colm]; exact h10)).trans H.colm, H.map.to t (by rw [H.colm]; exact h10)⟩
theorem open_mid {κ c w w2 Wa dA pl fr d} (hD : DrumAt κ c w dA d) (hz : Cz κ w) (hc0 : 1 ≤ c) (hb : Below w.heap.size w w2) (o : Obj)
    (hW : Wa = ((w2.alloc o).alloc (.map #[] 0)).alloc (.cells (vcs dA pl fr (.pointer none) (.pointer none) ⟨0, 0⟩ (.slice none 0 0) (.slice none 0 0) (.map (some (w2.heap.size + 1))) false false) 96)) :
    ∃ κ0, VR κ0 c Wa (w2.heap.size + 2) dA pl fr (.pointer none) (.pointer none) ⟨0, 0⟩ (.slice none 0 0) (.slice none 0 0) (.map (some (w2.heap.size + 1))) false false d ∧ To No κ κ0 w Wa ∧ Cz κ0 Wa ∧ κ0 (w2.heap.size + 1) = c + 10 ∧ MapB Wa (w2.heap.size + 1) [] := by
  obtain ⟨p, hp⟩ : ∃ p, p = w2.heap.size := ⟨_, rfl⟩
  have hs := hb.size
  have sz : Wa.heap.size = p + 3 := by rw [hW, hp]; simp
  have g1 : Wa.heap[p + 1]? = some (.map #[] 0) := by
    rw [hW]; simp only [heap_push, World.size_alloc, ← hp]; (repeat (first | rw [if_neg (by omega)] | rw [if_pos (by omega)])); first | rfl | (simp only [if_true])
  have g2 : Wa.heap[p + 2]? = some (.cells (vcs dA pl fr (.pointer none) (.pointer none) ⟨0, 0⟩ (.slice none 0 0) (.slice none 0 0) (.map (some (w2.heap.size + 1))) false false) 96 (0, 0)) := by
    rw [hW]; simp only [heap_push, World.size_alloc, ← hp]; (repeat (first | rw [if_neg (by omega)] | rw [if_pos (by omega)])); first | rfl | (simp only [if_true])
  have hbW : Below w.heap.size w Wa := by
    rw [hW]; exact ((hb.alloc (by omega) _).alloc (by simp; omega) _).alloc (by simp; omega) _
  obtain ⟨κ0, hκ⟩ : ∃ κ0 : Nat → Nat, κ0 = fun b => if b = p + 2 then c + 8 else if b = p + 1 then c + 10 else κ b := ⟨_, rfl⟩
  have k1 : κ0 (p + 2) = c + 8 := by rw [hκ]; simp
  have k2 : κ0 (p + 1) = c + 10 := by rw [hκ]; simp
  have k3 : ∀ b, b ≠ p + 2 → b ≠ p + 1 → κ0 b = κ b := fun b h1 h2 => by rw [hκ]; simp only; rw [if_neg h1, if_neg h2]
  rw [← hp]
  rw [← hp] at g2
  have t : To No κ κ Wa Wa := .refl _ _ _
  have tb : To No κ κ0 w Wa := ⟨hbW.os, hbW.tape, hbW.output, by have := hbW.size; omega, fun b h _ => k3 b (by omega) (by omega), fun b h _ => hbW.block b h⟩
  exact ⟨κ0, ⟨k1, g2, hD.to tb (fun _ _ h => h)⟩, tb, fun b h => (k3 b (by omega) (by omega)).trans (hz b (by omega)), k2, ⟨#[], 0, g1, ⟨stamped_empty 0, rfl, fun _ h => absurd h List.not_mem_nil⟩⟩⟩
/-- The taken pages' row comes in: the vault stands. -/
theorem open_end {κ c W0 W W' a dA pl fr cA tA mA T h tk0 tv d p} (H : OpI κ c W a dA pl fr cA (pB tA) h tk0 mA d) (hT : TapeB κ (c + 7) W tA dA T) (hTo : TapeOk T) (hz0 : Cz κ W0) (hz : Cz κ W) (hl : p.length = 496) (hr : W.ownsRow W0.heap.size 5 1 tv p.length (byC p)) (hc0 : 1 ≤ c) (t0 : To (Dc c) κ κ W0 W) (hW : W' = W.setCell ⟨a, 9, none⟩ tv) :
    ∃ κ', VAt κ' c W' a dA ⟨pl, fr, [], T, h, p, [], [], false, false⟩ d ∧ To (St c) κ κ' W0 W' ∧ Cz κ' W' := by
  rcases hr.2 with ⟨e1, e2⟩ | ⟨g, cap, cur, e1, e2, e3⟩
  · omega
  subst e1
  have hgl : g < W.heap.size := (hr.lt g rfl).2
  have k0 : κ g = 0 := hz0 g e2
  obtain ⟨κ', hκ⟩ : ∃ κ' : Nat → Nat, κ' = fun b => if b = g then c + 9 else κ b := ⟨_, rfl⟩
  have k1 : κ' g = c + 9 := by rw [hκ]; exact if_pos rfl
  have k2 : ∀ b, b ≠ g → κ' b = κ b := fun b hb => by rw [hκ]; exact if_neg hb
  have hag : a ≠ g := fun e => by have := H.vr.col; rw [e, k0] at this; omega
  have k3 : ∀ b, 1 ≤ κ b → κ' b = κ b := fun b hb => k2 b fun e => by rw [e, k0] at hb; omega
  have V : VR κ' c W a dA pl fr (pB cA) (pB tA) h tk0 (.slice none 0 0) (.map (some mA)) false false d := H.vr.recol (fun b _ hb => k3 b hb) hc0
  have hC : CacheAt κ' (c + 4) W cA fr [] := by
    obtain ⟨m, r, M, R, hB, hL⟩ := H.cache
    have hR : R = [] := by cases R with | nil => rfl | cons x R => cases hL
    subst hR
    exact ⟨m, r, M, [], ⟨(k3 _ (by rw [hB.col]; omega)).trans hB.col, (k3 _ (by rw [hB.colm]; omega)).trans hB.colm, fun y hy => (k3 _ (by rw [hB.colr y hy]; omega)).trans (hB.colr y hy), hB.blk, hB.map, hB.perm, hB.ring, fun x hx => (by cases hx), hB.len, hB.le⟩, hL⟩
  have hTB : TapeB κ' (c + 7) W tA dA T := ⟨(k3 _ (by rw [hT.col]; omega)).trans hT.col, hT.blk⟩
  have hcm : κ' mA = c + 10 := (k3 _ (by rw [H.colm]; omega)).trans H.colm
  have t : To (fun j => j = c + 8) κ' κ' W W' := by rw [hW]; exact (To.refl _ κ' W).setCell _ (fun _ => V.col)
  have hb : W'.heap[a]? = some (.cells (vcs dA pl fr (pB cA) (pB tA) h (.slice (some ⟨g, 0, none⟩) p.length cap) (.slice none 0 0) (.map (some mA)) false false) 96 (0, 0)) := by
    rw [hW]; exact heap_setCell_at (i := 9) _ V.blk
  have hro : W'.ownsRow 0 5 1 (.slice (some ⟨g, 0, none⟩) p.length cap) p.length (byC p) := by
    have e : W'.heap[g]? = W.heap[g]? := by rw [hW]; exact Below.heap_setCell _ _ _ _ (Ne.symm hag)
    exact ⟨hr.1, .inr ⟨g, cap, cur, rfl, Nat.zero_le _, e.trans e3.1, e3.2⟩⟩
  refine ⟨κ', ⟨cA, tA, mA, _, .slice none 0 0, ⟨V.col, hb, hC.to t (fun j hj => by have := hj.2; omega) (by omega), hTB.to t (by omega), hTo, ⟨hro, fun b hb => by injection hb with hb; rw [← hb]; exact k1⟩, hl, (fun e => by cases e), hcm, ?_, V.drum.to t fun j hj => by have := hj.2; omega⟩⟩, ⟨t.os.trans t0.os, t.tape.trans t0.tape, t.output.trans t0.output, Nat.le_trans t0.size t.size, fun b hb hn => k2 b (by omega), fun b hb hn => ?_⟩, fun b hb => ?_⟩
  · exact H.map.to t (by rw [hcm]; omega)
  · have e : b ≠ g := by omega
    refine (t.blk b (Nat.lt_of_lt_of_le hb t0.size) fun e2 => ?_).trans (t0.blk b hb fun e2 => hn (.inl e2))
    rw [k2 b e] at e2
    exact hn (.inr (.inr e2))
  · have := t.size
    rw [k2 b (by omega)]; exact hz b (by omega)
theorem getHead_kp (d : Vm.Drum) : Kp 0 d (Vm.getHead2 d).2.2 := by
  have h0 := read_kp d 0
  unfold Vm.getHead2
  obtain ⟨e0, b0, d0, r0⟩ : ∃ e b d', d.read 0 = (e, b, d') := ⟨_, _, _, rfl⟩
  rw [r0] at h0 ⊢
  cases e0 with
  | succ e => exact h0
  | zero =>
    have h1 := read_kp d0 1
    simp only
    obtain ⟨e1, b1, d1, r1⟩ : ∃ e b d', d0.read 1 = (e, b, d') := ⟨_, _, _, rfl⟩
    rw [r1] at h1 ⊢
    cases e1 with
    | succ e => exact (h0.trans h1).mono (by omega)
    | zero =>
      simp only
      split
      · exact (h0.trans h1).mono (by omega)
      · exact (h0.trans h1).mono (by omega)
theorem takeHead_stamp {b : List UInt8} {h : Vm.Head} (e : Vm.takeHead b = some h) : h.stamp < 18446744073709551616 := by
  unfold Vm.takeHead at e
  split at e
  · cases e
  · simp only at e
    split at e
    · injection e with e
      rw [← e]
      have : ∀ l : List UInt8, l.length ≤ 8 → Vm.num l < 18446744073709551616 := fun l hl => by
        have h1 := num4_lt l l.length (Nat.le_refl _)
        rw [List.take_length] at h1
        exact Nat.lt_of_lt_of_le h1 (Nat.le_trans (Nat.pow_le_pow_right (by decide) hl) (by decide))
      exact this _ (List.length_take_le _ _)
    · cases e
theorem headOf_stamp (b0 b1 : List UInt8) : (Vm.headOf b0 b1).stamp < 18446744073709551616 := by
  unfold Vm.headOf
  have h0 : ((Vm.takeHead b0).getD ⟨0, 0⟩).stamp < 18446744073709551616 := by
    cases e : Vm.takeHead b0 with
    | none => decide
    | some h => exact takeHead_stamp e
  cases e : Vm.takeHead b1 with
  | none => exact h0
  | some h =>
    simp only
    split
    · exact takeHead_stamp e
    · exact h0
theorem getHead_facts (d : Vm.Drum) : ((Vm.getHead2 d).1 = 0 → 1 ≤ (Vm.getHead2 d).2.1.gen ∧ (Vm.getHead2 d).2.1.stamp < 18446744073709551616) ∧ ((Vm.getHead2 d).1 ≠ 0 → (Vm.getHead2 d).2.1 = ⟨0, 0⟩) := by
  unfold Vm.getHead2
  obtain ⟨e0, b0, d0, r0⟩ : ∃ e b d', d.read 0 = (e, b, d') := ⟨_, _, _, rfl⟩
  rw [r0]
  cases e0 with
  | succ e => exact ⟨fun h => (by cases h), fun _ => rfl⟩
  | zero =>
    simp only
    obtain ⟨e1, b1, d1, r1⟩ : ∃ e b d', d0.read 1 = (e, b, d') := ⟨_, _, _, rfl⟩
    rw [r1]
    cases e1 with
    | succ e => exact ⟨fun h => (by cases h), fun _ => rfl⟩
    | zero =>
      simp only
      split
      · exact ⟨fun h => (by cases h), fun _ => rfl⟩
      · rename_i h
        exact ⟨fun _ => ⟨by simp only; omega, headOf_stamp _ _⟩, fun h => absurd rfl h⟩
theorem turn2_now (d : Vm.Drum) (pl : Vm.Plan) (h : Vm.Head) : (Vm.turn2 d pl h).2.2.2.now.length = d.now.length := by
  unfold Vm.turn2
  split
  · rfl
  · have h1 := write_kp d ((h.gen + 1) % 2) (Vm.layHead ⟨h.gen + 1, h.stamp⟩)
    obtain ⟨e1, d1, r1⟩ : ∃ e d', d.write ((h.gen + 1) % 2) (Vm.layHead ⟨h.gen + 1, h.stamp⟩) = (e, d') := ⟨_, _, rfl⟩
    rw [r1] at h1 ⊢
    cases e1 with
    | succ e => exact h1.1
    | zero =>
      have h2 := flush_kp d1
      simp only
      obtain ⟨e2, d2, r2⟩ : ∃ e d', d1.flush = (e, d') := ⟨_, _, rfl⟩
      rw [r2] at h2 ⊢
      cases e2 with
      | succ e => exact h2.1.trans h1.1
      | zero =>
        have h3 := topen_kp d2 2 (2 + pl.log) (h.gen + 1)
        simp only
        exact h3.1.trans (h2.1.trans h1.1)
theorem putRecs_now (base st : Nat) : ∀ (l : List (List UInt8)) (r : Nat × Vm.Drum), (l.foldl (Vm.putRec base st) r).2.now.length = r.2.now.length
  | [], _ => rfl
  | p :: l, r => by rw [List.foldl_cons, putRecs_now base st l]; exact (putRec_kp base st r p).1
theorem redo_now (base : Nat) : ∀ (l : List (List UInt8)) (r : Nat × Nat × Vm.Drum), (l.foldl (Vm.redo base) r).2.2.now.length = r.2.2.now.length
  | [], _ => rfl
  | g :: l, r => by
    rw [List.foldl_cons, redo_now base l]
    unfold Vm.redo
    split
    · exact putRecs_now base _ _ _
    · rfl
theorem recover2_now (d : Vm.Drum) (pl : Vm.Plan) (h : Vm.Head) : (Vm.recover2 d pl h).2.2.2.now.length = d.now.length := by
  have h1 := topen_kp d 2 (2 + pl.log) h.gen
  unfold Vm.recover2
  obtain ⟨e1, T1, gs, d1, r1⟩ : ∃ e T gs d', Vm.Tape.open d 2 (2 + pl.log) h.gen = (e, T, gs, d') := ⟨_, _, _, _, rfl⟩
  rw [r1] at h1 ⊢
  cases e1 with
  | succ e => exact h1.1
  | zero =>
    simp only
    split
    · exact h1.1
    · split
      · exact h1.1
      · have h2 := redo_now pl.base gs (0, h.stamp, d1)
        obtain ⟨e2, s2, d2, r2⟩ : ∃ e s d', gs.foldl (Vm.redo pl.base) (0, h.stamp, d1) = (e, s, d') := ⟨_, _, _, rfl⟩
        rw [r2] at h2 ⊢
        cases e2 with
        | succ e => exact h2.trans h1.1
        | zero =>
          have h3 := flush_kp d2
          simp only
          obtain ⟨e3, d3, r3⟩ : ∃ e d', d2.flush = (e, d') := ⟨_, _, rfl⟩
          rw [r3] at h3 ⊢
          cases e3 with
          | succ e => exact h3.1.trans (h2.trans h1.1)
          | zero => exact (turn2_now d3 pl _).trans (h3.1.trans (h2.trans h1.1))
theorem fresh2_now (d : Vm.Drum) (pl : Vm.Plan) (h : Vm.Head) : (Vm.fresh2 d pl h).2.2.2.now.length = d.now.length := by
  unfold Vm.fresh2
  rw [blk_fold]
  have h1 := blk_kp pl.base d 8
  generalize blk pl.base d 8 = X at h1 ⊢
  obtain ⟨e, d1⟩ := X
  cases e with
  | succ e => exact h1.1
  | zero => exact (turn2_now d1 pl h).trans h1.1
theorem getPage_len {d : Vm.Drum} {base n s : Nat} {p : List UInt8} {d' : Vm.Drum} (h : Vm.getPage d base n = (0, p, s, d')) : p.length = 496 := by
  rw [getPage_gf] at h
  generalize gf (base + n * 8) d 8 = G at h
  by_cases hG : G.1 = 0
  · rw [if_pos hG] at h
    generalize ht : Vm.take n G.2.1 = X at h
    obtain ⟨e, q, st⟩ := X
    have h1 : e = 0 := congrArg Prod.fst h
    have h2 : q = p := congrArg (fun x => x.2.1) h
    rw [h1] at ht
    rw [← h2]
    exact Vm.take_len ht
  · rw [if_neg hG] at h
    exact absurd (congrArg Prod.fst h) hG
theorem own_slice {w : World} {base e size n : Nat} {v : Value} {xs : List Value} (h : w.ownsRow base e size v n xs) : ∃ vp vn vc, v = .slice vp vn vc := by
  rcases h.2 with ⟨e1, _⟩ | ⟨g, cap, cur, e1, _⟩
  · exact ⟨_, _, _, e1⟩
  · exact ⟨_, _, _, e1⟩
theorem begun_eq {d : Vm.Drum} {pl : Vm.Plan} {eg : Nat} {hg : Vm.Head} {dg : Vm.Drum} (h : Vm.getHead2 d = (eg, hg, dg)) : Vm.begun d pl = if eg = 0 then Vm.recover2 dg pl hg else if eg = 11 then Vm.fresh2 dg pl hg else (eg, hg, Vm.z0, dg) := by
  unfold Vm.begun
  rw [h]
  generalize Vm.recover2 = f1
  generalize Vm.fresh2 = f2
  by_cases h0 : eg = 0
  · subst h0; rfl
  by_cases h1 : eg = 11
  · subst h1; rfl
  rw [if_neg h0, if_neg h1]
  split
  · rename_i h; injection h with h; exact absurd h h0
  · rename_i h; injection h with h; exact absurd h h1
  · rename_i h; injection h with h h'; injection h' with h' h''; rw [h, h', h'']
theorem vopen2_eq {d : Vm.Drum} {pl : Vm.Plan} {fr eb e3 s3 : Nat} {hb : Vm.Head} {tb : Vm.Tape} {db d3 : Vm.Drum} {p3 : List UInt8} (hf1 : 4 ≤ fr) (hf2 : fr ≤ 1024) (hp : Vm.draft d.now.length = some pl) (h : Vm.begun d pl = (eb, hb, tb, db)) (hg : Vm.getPage db pl.base 0 = (e3, p3, s3, d3)) :
    Vm.vopen2 d (fr : Int) = if eb = 0 then (if e3 = 0 then (0, some ⟨pl, fr, [], tb, hb, p3, [], [], false, false⟩, d3) else (e3, none, d3)) else (eb, none, db) := by
  unfold Vm.vopen2
  rw [if_neg (by omega), hp]
  simp only
  rw [h]
  cases eb with
  | succ n => rfl
  | zero =>
    simp only
    rw [hg, Int.toNat_natCast]
    cases e3 with
    | zero => rfl
    | succ n => rfl
end Go.Proofs.YtoacaikopcdkmaaGreat

namespace Go.Proofs.YtoacaikopcdkmaaGreat
open Go.RowKit Go.Sort Go.MapKept Go.Maps Go.WideElems Go.ChangeMaps
/-- What Open answers. -/
def OpAns (κ : Nat → Nat) (c : Nat) (w : World) (dA : Nat) (R : Nat × Option Vm.Va × Vm.Drum) (e : Ending) (w' : World) : Prop :=
  ∃ κ', DrumAt κ' c w' dA R.2.2 ∧ To (Vc c) κ κ' w w' ∧ Cz κ' w' ∧
    ((R.2.1 = none ∧ e = .returned (.tuple #[.pointer none, .int .i64 (R.1 : Int)])) ∨ ∃ a v, R.2.1 = some v ∧ R.1 = 0 ∧ e = .returned (.tuple #[.pointer (some ⟨a, 0, none⟩), .int .i64 0]) ∧ VAt κ' c w' a dA v R.2.2)
theorem open_5 {κ0 κ1 c Wa w' a dA pl fr mA d cA} (V : VR κ0 c Wa a dA pl fr (.pointer none) (.pointer none) ⟨0, 0⟩ (.slice none 0 0) (.slice none 0 0) (.map (some mA)) false false d) (hm : κ0 mA = c + 10) (hM : MapB Wa mA []) (hC : CacheAt κ1 (c + 4) w' cA fr []) (t : To No κ0 κ1 Wa w') (hc0 : 1 ≤ c) :
    OpI κ1 c (w'.setCell ⟨a, 5, none⟩ (pB cA)) a dA pl fr cA (.pointer none) ⟨0, 0⟩ (.slice none 0 0) mA d ∧ To (St c) κ0 κ1 Wa (w'.setCell ⟨a, 5, none⟩ (pB cA)) := by
  have V1 := V.to t (fun _ _ h => h) (fun h => h)
  have hm1 : κ1 mA = c + 10 := (t.col mA hM.lt (fun h => h)).trans hm
  have hM1 := hM.to t (fun h => h)
  obtain ⟨V2, t2⟩ := V1.cell (h' := ⟨0, 0⟩) (lv' := .pointer none) (tk' := .slice none 0 0) (wv' := .slice none 0 0) (mv' := .map (some mA)) (bz' := false) (dn' := false) (cv' := pB cA) (fr' := fr) (pl' := pl) 5 (pB cA) rfl
  have t3 : To (fun j => j = c + 8) κ1 κ1 w' (w'.setCell ⟨a, 5, none⟩ (pB cA)) := (To.refl _ κ1 w').setCell _ (fun _ => V1.col)
  exact ⟨⟨V2, hC.to t3 (fun j hj => by have := hj.2; omega) (by omega), hm1, hM1.to t3 (by rw [hm1]; omega)⟩, (ofNo t).trans t2⟩
set_option maxRecDepth 100000 in
set_option maxHeartbeats 1600000 in
theorem c_open1 (dA : Nat) (fr : Nat) (hf1 : 4 ≤ fr) (hf2 : fr ≤ 1024) (κ : Nat → Nat) (c : Nat) (d : Vm.Drum) (pl : Vm.Plan) (w : World) (hD : DrumAt κ c w dA d) (hz : Cz κ w) (hc0 : 1 ≤ c) (hp : Vm.draft d.now.length = some pl) (hgen : (Vm.getHead2 d).1 = 0 → (Vm.getHead2 d).2.1.gen < 4294967295) (hL : d.loose.length ≤ 100000) :
    Calls Tryz.prog 11 #[.pointer (some ⟨dA, 0, none⟩), .int .i64 (fr : Int)] w (OpAns κ c w dA (Vm.vopen2 d (fr : Int))) := by
  obtain ⟨R, hR⟩ : ∃ R, Hid (Vm.vopen2 d (fr : Int) = R) := ⟨_, Hid.mk rfl⟩
  rw [hR.out]
  have cS := c_sectors κ c dA d w hD
  have cD := c_draft d.now.length pl hp w
  have hmm := @run_makeMap Tryz.prog
  have hfc := getHead_facts d
  have hgk := getHead_kp d
  obtain ⟨eg, R1, hgh⟩ := pair_ex (Vm.getHead2 d)
  obtain ⟨hg, dg, hR1⟩ := pair_ex R1
  rw [hR1.out] at hgh
  rw [hgh.out] at hgen hfc hgk
  obtain ⟨gg, gs⟩ := hg
  simp only at hgen hfc hgk
  have hD' := Hid.mk hD
  have hz' := Hid.mk hz
  have hp' := Hid.mk hp
  have hfc' := Hid.mk hfc
  have hgk' := Hid.mk hgk
  have hgen' := Hid.mk hgen
  clear hD hz hp hfc hgk hgen
  have b1 : ¬ ((fr : Int) < 4) := by omega
  have b2 : ¬ ((1024 : Int) < (fr : Int)) := by omega
  obtain ⟨lg, hlg⟩ : ∃ lg, Hid (pl.log = lg) := ⟨_, Hid.mk rfl⟩
  obtain ⟨ba, hba⟩ : ∃ ba, Hid (pl.base = ba) := ⟨_, Hid.mk rfl⟩
  obtain ⟨pg, hpg⟩ : ∃ pg, Hid (pl.pages = pg) := ⟨_, Hid.mk rfl⟩
  have cD' : Calls Tryz.prog 50 #[.int .i64 (d.now.length : Int)] w fun e w' => e = .returned (.tuple #[.agg #[.int .i64 (lg : Int), .int .i64 (ba : Int), .int .i64 (pg : Int)], .int .i64 0]) ∧ Hid (Below w.heap.size w w') := by
    rw [← hlg.out, ← hba.out, ← hpg.out]; exact cD
  clear cD
  have cMid : ∀ w2, Hid (Below w.heap.size w w2) → ∃ Wa, Hid (Wa = ((w2.alloc (Obj.cells #[Value.int IntKind.i64 lg, Value.int IntKind.i64 ba, Value.int IntKind.i64 pg] 87)).alloc (Obj.map #[] 0)).alloc (Obj.cells #[Value.pointer (some { block := dA, off := 0 }), Value.int IntKind.i64 lg, Value.int IntKind.i64 ba, Value.int IntKind.i64 pg, Value.int IntKind.i64 fr, Value.pointer none, Value.pointer none, Value.int IntKind.i64 0, Value.int IntKind.u64 0, Value.slice none 0 0, Value.slice none 0 0, Value.map (some (w2.heap.size + 1)), Value.bool false, Value.bool false] 96)) ∧
      ∃ κ0, Hid (VR κ0 c Wa (w2.heap.size + 2) dA pl fr (.pointer none) (.pointer none) ⟨0, 0⟩ (.slice none 0 0) (.slice none 0 0) (.map (some (w2.heap.size + 1))) false false d) ∧ Hid (To No κ κ0 w Wa) ∧ Hid (Cz κ0 Wa) ∧ Hid (κ0 (w2.heap.size + 1) = c + 10) ∧ Hid (MapB Wa (w2.heap.size + 1) []) := by
    intro w2 hb
    rw [← hlg.out, ← hba.out, ← hpg.out]
    obtain ⟨κ0, h1, h2, h3, h4, h5⟩ := open_mid (fr := fr) (pl := pl) hD'.out hz'.out hc0 hb.out _ rfl
    exact ⟨_, Hid.mk rfl, κ0, Hid.mk h1, Hid.mk h2, Hid.mk h3, Hid.mk h4, Hid.mk h5⟩
  go_enter Tryz.func11, Tryz.ntmps11
  go_wp2_with (first | (go_at_call 51; refine cS.mono ?_; rintro e w1 ⟨rfl, rfl⟩) | (go_at_call 50; refine cD'.mono ?_; rintro e w2 ⟨rfl, hb2⟩))
  obtain ⟨Wa, hWa, κ0, V0, T0, Z0, m0, M0⟩ := cMid _ hb2
  rw [← hWa.out]
  clear hWa cMid cD' cS hmm
  obtain ⟨a, ha⟩ : ∃ a, Hid (w2.heap.size + 2 = a) := ⟨_, Hid.mk rfl⟩
  obtain ⟨mA, hmA⟩ : ∃ mA, Hid (w2.heap.size + 1 = mA) := ⟨_, Hid.mk rfl⟩
  rw [ha.out, hmA.out] at V0
  rw [hmA.out] at m0 M0
  rw [show w2.heap.size + 1 + 1 = a from ha.out, hmA.out]
  have cN : Calls Tryz.prog 52 #[.int .i64 (fr : Int)] Wa fun e w' => ∃ cA, e = .returned (.tuple #[.pointer (some ⟨cA, 0, none⟩), .int .i64 0]) ∧ w'.cell? ⟨a, 5, none⟩ = some (.pointer none) ∧ w'.frozen? ⟨a, 5, none⟩ = false ∧ Hid (∃ κ1, CacheAt κ1 (c + 4) w' cA fr [] ∧ To No κ0 κ1 Wa w' ∧ Cz κ1 w') := by
    refine (c_cnew κ0 (c + 4) fr Wa Z0.out (by omega) (by omega) (by omega)).mono ?_
    rintro e w' ⟨cA, rfl, κ1, h1, h2, h3⟩
    have V1 := V0.out.to h2 (fun _ _ h => h) (fun h => h)
    exact ⟨cA, rfl, cell_at V1.blk rfl, frozen_at V1.blk, Hid.mk ⟨κ1, h1, h2, h3⟩⟩
  go_wp2_with (first | (go_at_call 52; refine cN.mono ?_; rintro e w3 ⟨cA, rfl, d5, f5, hN⟩))
  obtain ⟨W5, hW5⟩ : ∃ W5, Hid (W5 = w3.setCell ⟨a, 5, none⟩ (pB cA)) := ⟨_, Hid.mk rfl⟩
  have hO5 : Hid (∃ κ1, OpI κ1 c W5 a dA pl fr cA (.pointer none) ⟨0, 0⟩ (.slice none 0 0) mA d ∧ To (St c) κ κ1 w1 W5 ∧ Cz κ1 W5) := by
    obtain ⟨κ1, h1, h2, h3⟩ := hN.out
    obtain ⟨H5, t5⟩ := open_5 V0.out m0.out M0.out h1 h2 hc0
    rw [← hW5.out] at H5 t5
    exact Hid.mk ⟨κ1, H5, (ofNo T0.out).trans t5, fun b hb => h3 b (by rw [hW5.out] at hb; simpa using hb)⟩
  rw [show (Value.pointer (some { block := cA, off := 0 })) = pB cA from rfl, ← hW5.out]
  have cG : Calls Tryz.prog 53 #[.pointer (some ⟨dA, 0, none⟩)] W5 fun e w' => e = .returned (.tuple #[.agg #[.int .i64 (gg : Int), .int .u64 (gs : Int)], .int .i64 (eg : Int)]) ∧ w'.cell? ⟨a, 7, none⟩ = some (.int .i64 0) ∧ w'.cell? ⟨a, 8, none⟩ = some (.int .u64 0) ∧ w'.frozen? ⟨a, 7, none⟩ = false ∧ w'.frozen? ⟨a, 8, none⟩ = false ∧
      Hid (∃ κ1, OpI κ1 c w' a dA pl fr cA (.pointer none) ⟨0, 0⟩ (.slice none 0 0) mA dg ∧ To (St c) κ κ1 w1 w' ∧ Cz κ1 w') := by
    obtain ⟨κ1, h1, h2, h3⟩ := hO5.out
    refine (c_ghead κ1 c dA d pl W5 h1.vr.drum h3 hc0 hp'.out).mono ?_
    rw [getHead2_eq, hgh.out]
    rintro e w' ⟨rfl, g1, g2⟩
    have V := h1.vr.setD g1 g2
    obtain ⟨k0, k1, k6, k7, k8, kf⟩ := V.cells
    refine ⟨rfl, k7, k8, kf 7, kf 8, Hid.mk ⟨κ1, h1.to g2 (fun j h1 h2 e => by have := e.2; omega) (fun e => by have := e.1; omega) (fun e => by have := e.2; omega) V, h2.trans (g2.mono fun j e => .inl e), g2.cz h3⟩⟩
  clear V0 T0 Z0 m0 M0 cN hN d5 f5 hO5 hW5
  obtain ⟨eb, B1, hbg⟩ := pair_ex (Vm.begun d pl)
  obtain ⟨hb, B2, hB1⟩ := pair_ex B1
  obtain ⟨tb, db, hB2⟩ := pair_ex B2
  rw [hB1.out, hB2.out] at hbg
  have hbe := begun_eq (pl := pl) hgh.out
  rw [hbg.out] at hbe
  have hb0 : eg = 0 → Hid (Vm.recover2 dg pl ⟨gg, gs⟩ = (eb, hb, tb, db)) := fun h => by
    rw [if_pos h] at hbe; exact Hid.mk hbe.symm
  have hb11 : eg = 11 → Hid (Vm.fresh2 dg pl ⟨gg, gs⟩ = (eb, hb, tb, db)) := fun h => by
    rw [if_neg (by omega), if_pos h] at hbe; exact Hid.mk hbe.symm
  have hbo : eg ≠ 0 → eg ≠ 11 → Hid (eb = eg ∧ db = dg) := fun h1 h2 => by
    rw [if_neg h1, if_neg h2] at hbe
    injection hbe with t1 t2
    injection t2 with t2 t3
    injection t3 with t3 t4
    exact Hid.mk ⟨t1, t4⟩
  clear hbe
  have hnow : Hid (db.now.length = d.now.length) := by
    show _ = _
    by_cases h0 : eg = 0
    · have := recover2_now dg pl ⟨gg, gs⟩
      rw [(hb0 h0).out] at this
      exact this.trans hgk'.out.1
    · by_cases h1 : eg = 11
      · have := fresh2_now dg pl ⟨gg, gs⟩
        rw [(hb11 h1).out] at this
        exact this.trans hgk'.out.1
      · rw [(hbo h0 h1).out.2]; exact hgk'.out.1
  obtain ⟨e3, P1, hgp⟩ := pair_ex (Vm.getPage db pl.base 0)
  obtain ⟨p3, P2, hP1⟩ := pair_ex P1
  obtain ⟨s3, d3, hP2⟩ := pair_ex P2
  rw [hP1.out, hP2.out] at hgp
  have fin : Hid (R = if eb = 0 then (if e3 = 0 then (0, some ⟨pl, fr, [], tb, hb, p3, [], [], false, false⟩, d3) else (e3, none, d3)) else (eb, none, db)) := Hid.mk (hR.out.symm.trans (vopen2_eq hf1 hf2 hp'.out hbg.out hgp.out))
  have finE : eb ≠ 0 → Hid (R = (eb, none, db)) := fun h => Hid.mk (fin.out.trans (if_neg h))
  have fin0 : eb = 0 → Hid (R = if e3 = 0 then (0, some ⟨pl, fr, [], tb, hb, p3, [], [], false, false⟩, d3) else (e3, none, d3)) := fun h => Hid.mk (fin.out.trans (if_pos h))
  have hW6 : ∀ w4, Hid (∃ κ1, OpI κ1 c w4 a dA pl fr cA (.pointer none) ⟨0, 0⟩ (.slice none 0 0) mA dg ∧ To (St c) κ κ1 w1 w4 ∧ Cz κ1 w4) → ∀ W6, W6 = (w4.setCell ⟨a, 7, none⟩ (.int .i64 (gg : Int))).setCell ⟨a, 8, none⟩ (.int .u64 (gs : Int)) → Hid (∃ κ1, OpI κ1 c W6 a dA pl fr cA (.pointer none) ⟨gg, gs⟩ (.slice none 0 0) mA dg ∧ To (St c) κ κ1 w1 W6 ∧ Cz κ1 W6) := by
    intro w4 hG W6 hW
    obtain ⟨κ1, h1, h2, h3⟩ := hG.out
    obtain ⟨V7, t7⟩ := h1.vr.cell (h' := ⟨gg, 0⟩) (lv' := .pointer none) (tk' := .slice none 0 0) (wv' := .slice none 0 0) (mv' := .map (some mA)) (bz' := false) (dn' := false) (cv' := pB cA) (fr' := fr) (pl' := pl) 7 (.int .i64 (gg : Int)) rfl
    obtain ⟨V8, t8⟩ := V7.cell (h' := ⟨gg, gs⟩) (lv' := .pointer none) (tk' := .slice none 0 0) (wv' := .slice none 0 0) (mv' := .map (some mA)) (bz' := false) (dn' := false) (cv' := pB cA) (fr' := fr) (pl' := pl) 8 (.int .u64 (gs : Int)) rfl
    have t : To (fun j => j = c + 8) κ1 κ1 w4 W6 := by rw [hW]; exact ((To.refl _ κ1 w4).setCell _ (fun _ => h1.vr.col)).setCell _ (fun _ => h1.vr.col)
    rw [← hW] at V8
    exact Hid.mk ⟨κ1, h1.to t (fun j h1 h2 e => by omega) (by omega) (by omega) V8, h2.trans (t.mono fun j e => .inr (.inr e)), t.cz h3⟩
  have hend : ∀ W6, Hid (∃ κ1, OpI κ1 c W6 a dA pl fr cA (.pointer none) ⟨gg, gs⟩ (.slice none 0 0) mA dg ∧ To (St c) κ κ1 w1 W6 ∧ Cz κ1 W6) → (eg = 0 → Calls Tryz.prog 54 #[.pointer (some ⟨a, 0, none⟩)] W6 fun e w' => e = .returned (.int .i64 (eb : Int)) ∧ w'.cell? ⟨a, 9, none⟩ = some (.slice none 0 0) ∧ w'.frozen? ⟨a, 9, none⟩ = false ∧ Hid (∃ κ2 lv' hh, OpI κ2 c w' a dA pl fr cA lv' hh (.slice none 0 0) mA db ∧ To (St c) κ κ2 w1 w' ∧ Cz κ2 w' ∧ (eb = 0 → hh = hb ∧ ∃ tA, lv' = pB tA ∧ TapeB κ2 (c + 7) w' tA dA tb ∧ TapeOk tb))) ∧
      (eg = 11 → Calls Tryz.prog 55 #[.pointer (some ⟨a, 0, none⟩)] W6 fun e w' => e = .returned (.int .i64 (eb : Int)) ∧ w'.cell? ⟨a, 9, none⟩ = some (.slice none 0 0) ∧ w'.frozen? ⟨a, 9, none⟩ = false ∧ Hid (∃ κ2 lv' hh, OpI κ2 c w' a dA pl fr cA lv' hh (.slice none 0 0) mA db ∧ To (St c) κ κ2 w1 w' ∧ Cz κ2 w' ∧ (eb = 0 → hh = hb ∧ ∃ tA, lv' = pB tA ∧ TapeB κ2 (c + 7) w' tA dA tb ∧ TapeOk tb))) := by
    intro W6 hW
    obtain ⟨κ1, h1, h2, h3⟩ := hW.out
    have nS : ∀ j, c + 4 ≤ j → j < c + 7 → ¬ St c j := fun j h1 h2 e => by rcases e with e | e | e <;> first | omega | (have := e.2; omega)
    have n10 : ¬ St c (c + 10) := fun e => by rcases e with e | e | e <;> first | omega | (have := e.2; omega)
    refine ⟨fun h0 => ?_, fun h11 => ?_⟩
    · refine (c_recover h1.vr h3 hc0 (by rw [hgk'.out.1]; exact hp'.out) ⟨none, rfl⟩ (hfc'.out.1 h0).1 (hgen'.out h0) (hfc'.out.1 h0).2 (by have := hgk'.out.2; omega)).mono ?_
      rw [(hb0 h0).out]
      rintro e w' ⟨rfl, κ2, lv', hh, g1, g2, g3, g4⟩
      exact ⟨rfl, cell_at g1.blk rfl, frozen_at g1.blk, Hid.mk ⟨κ2, lv', hh, h1.to g2 nS (notSt0 hc0) n10 g1, h2.trans g2, g3, g4⟩⟩
    · have hz0 := hfc'.out.2 (by omega)
      injection hz0 with z1 z2
      refine (c_fresh h1.vr h3 hc0 (by rw [hgk'.out.1]; exact hp'.out) ⟨none, rfl⟩ (by show gg < _; omega) (by show gs < _; omega) (by have := hgk'.out.2; omega)).mono ?_
      rw [(hb11 h11).out]
      rintro e w' ⟨rfl, κ2, lv', g1, g2, g3, g4⟩
      exact ⟨rfl, cell_at g1.blk rfl, frozen_at g1.blk, Hid.mk ⟨κ2, lv', hb, h1.to g2 nS (notSt0 hc0) n10 g1, h2.trans g2, g3, fun h => ⟨rfl, g4 h⟩⟩⟩
  have hVc : ∀ j, St c j → Vc c j := fun j e => by rcases e with e | e | e <;> first | exact ⟨by omega, by omega⟩ | (have h1 := e.1; have h2 := e.2; exact ⟨by omega, by omega⟩)
  have hVc' := Hid.mk hVc
  clear hVc
  have hpg1 : Hid (0 < pl.pages) := by
    obtain ⟨f1, f2, f3, f4, f5⟩ := draft_some hp'.out
    show _ < _; omega
  have cP : ∀ w5, eb = 0 → Hid (∃ κ2 lv' hh, OpI κ2 c w5 a dA pl fr cA lv' hh (.slice none 0 0) mA db ∧ To (St c) κ κ2 w1 w5 ∧ Cz κ2 w5 ∧ (eb = 0 → hh = hb ∧ ∃ tA, lv' = pB tA ∧ TapeB κ2 (c + 7) w5 tA dA tb ∧ TapeOk tb)) → Calls Tryz.prog 56 #[.pointer (some ⟨dA, 0, none⟩), .int .i64 0] w5 fun e w' => ∃ vp vn vc, e = .returned (.tuple #[.slice vp vn vc, .int .u64 (s3 : Int), .int .i64 (e3 : Int)]) ∧ w'.cell? ⟨a, 9, none⟩ = some (.slice none 0 0) ∧ w'.frozen? ⟨a, 9, none⟩ = false ∧
      Hid (∀ W7, W7 = w'.setCell ⟨a, 9, none⟩ (.slice vp vn vc) → (e3 = 0 → ∃ κ', VAt κ' c W7 a dA ⟨pl, fr, [], tb, hb, p3, [], [], false, false⟩ d3 ∧ To (Vc c) κ κ' w1 W7 ∧ Cz κ' W7) ∧ ∃ κ', DrumAt κ' c W7 dA d3 ∧ To (Vc c) κ κ' w1 W7 ∧ Cz κ' W7) := by
    intro w5 heb hB
    obtain ⟨κ2, lv', hh, h1, h2, h3, h4⟩ := hB.out
    obtain ⟨rfl, tA, rfl, h5, h6⟩ := h4 heb
    refine (c_pget κ2 c dA 0 db pl w5 h1.vr.drum h3 hc0 (by rw [hnow.out]; exact hp'.out) hpg1.out).mono ?_
    rw [hgp.out]
    rintro e w' ⟨v, rfl, g1, g2, g3⟩
    obtain ⟨vp, vn, vc, rfl⟩ := own_slice g1
    have V := h1.vr.setD g2 g3
    have H := h1.to g3 (fun j h1 h2 e => by have := e.2; omega) (fun e => by have := e.1; omega) (fun e => by have := e.2; omega) V
    have z := g3.cz h3
    refine ⟨vp, vn, vc, rfl, cell_at V.blk rfl, frozen_at V.blk, Hid.mk fun W7 hW => ⟨fun he => ?_, ?_⟩⟩
    · subst he
      obtain ⟨κ', k1, k2, k3⟩ := open_end H (h5.to g3 (fun e => by have := e.2; omega)) h6 h3 z (getPage_len hgp.out) g1 hc0 g3 hW
      exact ⟨κ', k1, (h2.trans k2).mono hVc'.out, k3⟩
    · have t : To (fun j => j = c + 8) κ2 κ2 w' W7 := by rw [hW]; exact (To.refl _ κ2 w').setCell _ (fun _ => V.col)
      exact ⟨κ2, V.drum.to t (fun j hj => by have := hj.2; omega), (h2.trans ((g3.mono fun j e => Or.inl e).trans (t.mono fun j e => Or.inr (Or.inr e)))).mono hVc'.out, t.cz z⟩
  by_cases h01 : eg = 0 ∨ eg = 11
  · rcases h01 with rfl | rfl
    all_goals
      by_cases heb : eb = 0
      · by_cases he3 : e3 = 0
        · have n0 : ((eb : Int) == 0) = true := by rw [beq_iff_eq]; omega
          have n2 : ((e3 : Int) != 0) = false := by rw [bne_eq_false_iff_eq]; omega
          have R0 := (fin0 heb).out
          rw [if_pos he3] at R0
          have heb' := Hid.mk heb
          have he3' := Hid.mk he3
          have R0' := Hid.mk R0
          clear heb he3 R0
          go_wp2_with (first | (go_at_call 53; refine cG.mono ?_; rintro e w4 ⟨rfl, d7, d8, f7, f8, hG⟩; have hE := Hid.mk (hend _ (hW6 _ hG _ rfl))) | (go_at_call 54; refine (hE.out.1 (by simp)).mono ?_; rintro e w5 ⟨rfl, d9, f9, hB⟩) | (go_at_call 55; refine (hE.out.2 (by simp)).mono ?_; rintro e w5 ⟨rfl, d9, f9, hB⟩) | (go_at_call 56; refine (cP _ heb'.out hB).mono ?_; rintro e w6 ⟨vp, vn, vc, rfl, d9', f9', hP⟩))
          go_ret2
          obtain ⟨κ', k1, k2, k3⟩ := (hP.out _ rfl).1 he3'.out
          rw [R0'.out]
          exact ⟨κ', by obtain ⟨cA', tA', mA', tk', wv', hv⟩ := k1; exact hv.drum, k2, k3, .inr ⟨a, _, rfl, rfl, rfl, k1⟩⟩
        · have n0 : ((eb : Int) == 0) = true := by rw [beq_iff_eq]; omega
          have n2 : ((e3 : Int) != 0) = true := by rw [bne_iff_ne]; omega
          have R0 := (fin0 heb).out
          rw [if_neg he3] at R0
          have heb' := Hid.mk heb
          have R0' := Hid.mk R0
          clear heb R0
          go_wp2_with (first | (go_at_call 53; refine cG.mono ?_; rintro e w4 ⟨rfl, d7, d8, f7, f8, hG⟩; have hE := Hid.mk (hend _ (hW6 _ hG _ rfl))) | (go_at_call 54; refine (hE.out.1 (by simp)).mono ?_; rintro e w5 ⟨rfl, d9, f9, hB⟩) | (go_at_call 55; refine (hE.out.2 (by simp)).mono ?_; rintro e w5 ⟨rfl, d9, f9, hB⟩) | (go_at_call 56; refine (cP _ heb'.out hB).mono ?_; rintro e w6 ⟨vp, vn, vc, rfl, d9', f9', hP⟩))
          go_ret2
          obtain ⟨κ', k1, k2, k3⟩ := (hP.out _ rfl).2
          rw [R0'.out]
          exact ⟨κ', k1, k2, k3, .inl ⟨rfl, rfl⟩⟩
      · have n0 : ((eb : Int) == 0) = false := by rw [beq_eq_false_iff_ne]; omega
        have n2 : ((eb : Int) != 0) = true := by rw [bne_iff_ne]; omega
        have R0' := Hid.mk (finE heb).out
        go_wp2_with (first | (go_at_call 53; refine cG.mono ?_; rintro e w4 ⟨rfl, d7, d8, f7, f8, hG⟩; have hE := Hid.mk (hend _ (hW6 _ hG _ rfl))) | (go_at_call 54; refine (hE.out.1 (by simp)).mono ?_; rintro e w5 ⟨rfl, d9, f9, hB⟩) | (go_at_call 55; refine (hE.out.2 (by simp)).mono ?_; rintro e w5 ⟨rfl, d9, f9, hB⟩))
        go_ret2
        rw [R0'.out]
        obtain ⟨κ2, lv', hh, h1, h2, h3, h4⟩ := hB.out
        exact ⟨κ2, h1.vr.drum, h2.mono hVc'.out, h3, .inl ⟨rfl, rfl⟩⟩
  · have h0 : eg ≠ 0 := fun h => h01 (.inl h)
    have h1 : eg ≠ 11 := fun h => h01 (.inr h)
    have n0 : ((eg : Int) == 0) = false := by rw [beq_eq_false_iff_ne]; omega
    have n1 : ((eg : Int) == 11) = false := by rw [beq_eq_false_iff_ne]; omega
    have n2 : ((eg : Int) != 0) = true := by rw [bne_iff_ne]; omega
    go_wp2_with (first | (go_at_call 53; refine cG.mono ?_; rintro e w4 ⟨rfl, d7, d8, f7, f8, hG⟩))
    go_ret2
    obtain ⟨o1, o2⟩ := (hbo h0 h1).out
    rw [(finE (by rw [o1]; exact h0)).out, o1, o2]
    obtain ⟨κ1, g1, g2, g3⟩ := (hW6 _ hG _ rfl).out
    exact ⟨κ1, g1.vr.drum, g2.mono hVc'.out, g3, .inl ⟨rfl, rfl⟩⟩
end Go.Proofs.YtoacaikopcdkmaaGreat
