/- The vault: what Commit needs. The vault: Commit, its group. No condition. -/
import Derived.Test.YtoacaikopcdkmaaGreatZ26
set_option linter.unusedSimpArgs false
set_option linter.unusedVariables false
namespace Go.Proofs.YtoacaikopcdkmaaGreat
open Go.RowKit Go.Sort Go.MapKept Go.Maps Go.WideElems Go.ChangeMaps
theorem PgV.recolW {κ κ' w v p} (h : PgV κ w v p) (hk : ∀ b, b < w.heap.size → κ b = 0 → κ' b = κ b) : PgV κ' w v p := by
  obtain ⟨g, cap, h1, h2, h3, h4, h5⟩ := h
  exact ⟨g, cap, h1, h2, (hk g h4 h3).trans h3, h4, h5⟩
theorem CacheAt.recolW {κ κ' c w a n L} (h : CacheAt κ c w a n L) (hk : ∀ b, b < w.heap.size → (Cc c (κ b) ∨ κ b = 0) → κ' b = κ b) : CacheAt κ' c w a n L := by
  obtain ⟨m, r, M, R, h, hL⟩ := h
  exact ⟨m, r, M, R, ⟨(hk a h.lt (.inl (by rw [h.col]; exact ⟨by omega, by omega⟩))).trans h.col, (hk m h.map.lt (.inl (by rw [h.colm]; exact ⟨by omega, by omega⟩))).trans h.colm, fun y hy => (hk y.b (h.ring.lt hy) (.inl (by rw [h.colr y hy]; exact ⟨by omega, by omega⟩))).trans (h.colr y hy), h.blk, h.map, h.perm, h.ring, fun x hx => (h.rows x hx).recolW fun b hb e => hk b hb (.inr e), h.len, h.le⟩, hL⟩
theorem VB.recolW {κ κ' c w a dA cA tA mA tk wv v d} (h : VB κ c w a dA cA tA mA tk wv v d) (hk : ∀ b, b < w.heap.size → (Vc c (κ b) ∨ κ b = 0) → κ' b = κ b) : VB κ' c w a dA cA tA mA tk wv v d := by
  have hR : ∀ {e size v n xs}, Row κ (c + 9) w e size v n xs → Row κ' (c + 9) w e size v n xs := fun hR => hR.recol fun b hb e => (hk b hb (.inl (by rw [e]; exact ⟨by omega, by omega⟩))).trans e
  exact ⟨(hk a h.lt (.inl (by rw [h.col]; exact ⟨by omega, by omega⟩))).trans h.col, h.blk, h.cache.recolW (fun b hb e => hk b hb (e.imp (fun e => ⟨by have := e.1; omega, by have := e.2; omega⟩) id)), ⟨(hk tA h.tape.lt (.inl (by rw [h.tape.col]; exact ⟨by omega, by omega⟩))).trans h.tape.col, h.tape.blk⟩, h.tok, hR h.rtk, h.tkl, fun hb => ⟨hR (h.was hb).1, (h.was hb).2⟩, (hk mA h.map.lt (.inl (by rw [h.colm]; exact ⟨by omega, by omega⟩))).trans h.colm, h.map, h.drum.recol fun b hb e => hk b hb (.inl ⟨e.1, by have := e.2; omega⟩)⟩
theorem run_mclear {w : World} {m : Nat} {L} (H : MapB w m L) (ty : TypeId) :
    ∃ o, (Builtin.clear_ #[90] ty #[.map (some m)]).run Tryz.prog w = .ok (.tuple #[]) (setBlock w m o) ∧ MapB (setBlock w m o) m [] := by
  have hlt := H.lt
  obtain ⟨es, clock, hb, H⟩ := H
  refine ⟨.map #[] clock, ?_, ⟨#[], clock, heap_setBlock_same hb _, ⟨⟨by simp, by simp, by simp⟩, rfl, fun _ h => absurd h List.not_mem_nil⟩⟩⟩
  simp [Builtin.clear_, run_underlying ul90, MapKept.run_getObj_map hb, MapKept.run_setObj_map _ hb, Result.andThen, setBlock]
theorem wpList_mclear {w : World} {ops : Array Oper} {rest : List Oper} {o : Oper} {a : Act} {Q : Exit → Act → World → Prop} (hg : o.guard = none) (m : Operand) (hop : o.op = Op.call { callee := Callee.builtin Builtin.clear, args := #[m], argTypes := #[90] })
    (b : Nat) (L : List (Nat × Value)) (hm : a.eval m = .map (some b)) (H : MapB w b L)
    (hK : ∀ ob, MapB (setBlock w b ob) b [] → wpList Tryz.prog ops Q rest (a.put o.dst (.tuple #[])) (setBlock w b ob)) :
    wpList Tryz.prog ops Q (o :: rest) a w := by
  refine wpList_plain hg fun K' hK' => ?_
  obtain ⟨ob, hrun, r1⟩ := run_mclear H o.type
  unfold Oper.wp
  simp [execOp, hop, resolve, invoke, builtin, hm, hrun, Result.andThen]
  exact hK' _ _ (hK ob r1)
end Go.Proofs.YtoacaikopcdkmaaGreat

namespace Go.Proofs.YtoacaikopcdkmaaGreat
open Go.RowKit Go.Sort Go.MapKept Go.Maps Go.WideElems Go.ChangeMaps
/-- The group is being written: the blocks from base on have the colour K. -/
structure GI (κ2 : Nat → Nat) (c base K : Nat) (W1 wr : World) (a dA cA tA mA : Nat) (tk wv : Value) (v : Vm.Va) (d : Vm.Drum) (L : List Vm.En) (V : Value) (bs : List UInt8) : Prop where
  vb : VB κ2 c wr a dA cA tA mA tk wv { v with L := L } d
  t : To (fun j => Cc (c + 4) j ∨ j = K) κ2 κ2 W1 wr
  row : wr.ownsRow base 5 1 V bs.length (byC bs)
theorem GI.grown {κ2 c base K W1 wr w' a dA cA tA mA tk wv v d L V bs V' bs'} (h : GI κ2 c base K W1 wr a dA cA tA mA tk wv v d L V bs) (hb : W1.heap.size = base) (hK : c + 12 ≤ K) (hk : ∀ b, base ≤ b → κ2 b = K) (g : wr.grownBy w' V.ownBlock) (r : w'.ownsRow base 5 1 V' bs'.length (byC bs')) :
    GI κ2 c base K W1 w' a dA cA tA mA tk wv v d L V' bs' ∧ To (fun j => j = K) κ2 κ2 wr w' := by
  have t : To (fun j => j = K) κ2 κ2 wr w' := (To.refl _ κ2 wr).grown g fun k hk' _ => hk k (h.row.lt k hk').1
  exact ⟨⟨h.vb.to t (fun j hj e => by have := hj.2; omega) (by omega), h.t.trans (t.mono fun j e => .inr e), r⟩, t⟩
theorem GI.put {κ2 c base K W1 wr a dA cA tA mA tk wv v d L V bs} (h : GI κ2 c base K W1 wr a dA cA tA mA tk wv v d L V bs) (hb : W1.heap.size = base) (hK : c + 12 ≤ K) (hk : ∀ b, base ≤ b → κ2 b = K) (k x : Nat) (hk8 : k ≤ 8) (hx : x < 18446744073709551616) (hl : bs.length ≤ 1000000000) :
    Calls Tryz.prog 67 #[V, .int .u64 (x : Int), .int .i64 (k : Int)] wr fun e w' => ∃ V', e = .returned V' ∧ GI κ2 c base K W1 w' a dA cA tA mA tk wv v d L V' (bs ++ Vm.put x k) ∧ To (fun j => j = K) κ2 κ2 wr w' := by
  refine (c_putG base bs.length k x V (byC bs) wr hk8 hx hl (by rw [← hb]; exact h.t.size) h.row).mono ?_
  rintro e w' ⟨V', rfl, h1, h2, _⟩
  have e1 : bs.length + k = (bs ++ Vm.put x k).length := by rw [List.length_append, Vm.put_len]
  rw [e1, ← byC_app] at h1
  obtain ⟨G, t⟩ := h.grown hb hK hk h2 h1
  exact ⟨V', rfl, G, t⟩
theorem GI.get {κ2 c base K W1 wr a dA cA tA mA tk wv v d L V bs} (h : GI κ2 c base K W1 wr a dA cA tA mA tk wv v d L V bs) (hK : c + 12 ≤ K) (hk : ∀ b, base ≤ b → κ2 b = K) (hc0 : 1 ≤ c) (k : Nat) (en : Vm.En) (hf : Vm.fnd k L = some en) :
    Calls Tryz.prog 68 #[.pointer (some ⟨cA, 0, none⟩), .int .i64 (k : Int)] wr fun e w' => ∃ pv, e = .returned (.tuple #[pv, .bool true]) ∧ PgV κ2 w' pv en.val ∧ GI κ2 c base K W1 w' a dA cA tA mA tk wv v d (Vm.usd k L) V bs := by
  refine (c_cget1 κ2 (c + 4) cA v.frames k L en wr h.vb.cache hf).mono ?_
  rintro e w' ⟨pv, rfl, g1, g2, g3⟩
  exact ⟨pv, rfl, g1, h.vb.setL g2 g3 hc0, h.t.trans (g3.mono fun j e => .inl e), own_to h.row g3 fun b h1 _ e => by rw [hk b h1] at e; have := e.2; omega⟩
/-- A page is found, whatever was used. -/
theorem used_found {v : Vm.Va} {d : Vm.Drum} {C cur : Nat → Vm.B} (H : Vm.VI v d C cur) (l : List Nat) {k : Nat} (hk : k ∈ v.ch) : ∃ en, Vm.fnd k (Vm.used l v.L) = some en ∧ en.val = cur k ∧ (cur k).length = 496 := by
  have H1 := H.used l
  obtain ⟨e, he, hek⟩ := H1.ci.there k hk
  have hf := Vm.fnd_of H1.ci.nd he
  rw [hek] at hf
  refine ⟨e, hf, ?_, (H.len k (H.pages k hk)).2⟩
  cases hd : e.dirty with
  | true => rw [← hek]; exact (H1.ci.dirty e he hd).2
  | false => exact absurd hk (hek ▸ (H1.ci.clean e he hd).1)
/-- The group's bytes behind j pages. -/
def gb (n st : Nat) (cur : Nat → List UInt8) (l : List Nat) : List UInt8 := Vm.put n 2 ++ Vm.put st 8 ++ l.flatMap fun k => Vm.put k 4 ++ cur k
theorem gb_snoc (n st : Nat) (cur : Nat → List UInt8) (l : List Nat) (k : Nat) : gb n st cur (l ++ [k]) = gb n st cur l ++ Vm.put k 4 ++ cur k := by
  unfold gb; rw [List.flatMap_append]; simp
theorem used_snoc (l : List Nat) (k : Nat) (L : List Vm.En) : Vm.used (l ++ [k]) L = Vm.usd k (Vm.used l L) := by
  unfold Vm.used; rw [List.foldl_append]; rfl
theorem gb_len (n st : Nat) (cur : Nat → List UInt8) : ∀ (l : List Nat), (∀ k ∈ l, (cur k).length = 496) → (gb n st cur l).length = 10 + l.length * 500 := by
  intro l h
  unfold gb
  rw [List.length_append, List.length_append, Vm.put_len, Vm.put_len]
  have : ∀ l : List Nat, (∀ k ∈ l, (cur k).length = 496) → (l.flatMap fun k => Vm.put k 4 ++ cur k).length = l.length * 500 := fun l h => by
    induction l with
    | nil => rfl
    | cons x l ih =>
      rw [List.flatMap_cons, List.length_append, List.length_append, Vm.put_len, h x List.mem_cons_self, ih fun k hk => h k (List.mem_cons_of_mem _ hk), List.length_cons]
      omega
  rw [this l h]
theorem gb_enc {v : Vm.Va} {d : Vm.Drum} {C cur : Nat → Vm.B} (H : Vm.VI v d C cur) : v.group.enc = gb v.ch.length (v.head.stamp + 1) cur (Vm.isort v.ch) := by
  unfold Vm.Va.group Vm.Grp.enc gb
  simp only
  rw [List.length_map, Vm.isort_len, List.append_assoc, List.flatMap_map]
  congr 2
  have : ∀ l : List Nat, (∀ k ∈ l, k ∈ v.ch) → (l.flatMap fun a => Vm.rec1 (a, v.val a)) = l.flatMap fun k => Vm.put k 4 ++ cur k := fun l hl => by
    induction l with
    | nil => rfl
    | cons x l ih =>
      rw [List.flatMap_cons, List.flatMap_cons, ih fun k hk => hl k (List.mem_cons_of_mem _ hk)]
      congr 1
      unfold Vm.rec1
      rw [H.val (hl x List.mem_cons_self)]
  exact this _ fun k hk => Vm.mem_isort.1 hk
theorem putPages_stop (base st : Nat) : ∀ (l : List (Nat × List UInt8)) (r : Nat × Vm.Drum), r.1 ≠ 0 → l.foldl (fun r x => if r.1 = 0 then Vm.putPage r.2 base x.1 st x.2 else r) r = r
  | [], _, _ => rfl
  | x :: l, r, h => by rw [List.foldl_cons, if_neg h]; exact putPages_stop base st l r h
theorem putPages_app (base st : Nat) (d : Vm.Drum) (a b : List (Nat × List UInt8)) : Vm.putPages base st d (a ++ b) = b.foldl (fun r x => if r.1 = 0 then Vm.putPage r.2 base x.1 st x.2 else r) (Vm.putPages base st d a) := by
  unfold Vm.putPages; rw [List.foldl_append]
theorem putPages_pre {base st : Nat} {d : Vm.Drum} {a b : List (Nat × List UInt8)} (h : (Vm.putPages base st d (a ++ b)).1 = 0) : (Vm.putPages base st d a).1 = 0 := by
  rw [putPages_app] at h
  by_cases hz : (Vm.putPages base st d a).1 = 0
  · exact hz
  · rw [putPages_stop _ _ _ _ hz] at h; exact absurd h hz
theorem putPages_kp (base st : Nat) (d : Vm.Drum) (l : List (Nat × List UInt8)) : Kp (8 * l.length) d (Vm.putPages base st d l).2 := by
  suffices h : ∀ (l : List (Nat × List UInt8)) (r : Nat × Vm.Drum), Kp (8 * l.length) r.2 (l.foldl (fun r x => if r.1 = 0 then Vm.putPage r.2 base x.1 st x.2 else r) r).2 from h l (0, d)
  intro l
  induction l with
  | nil => intro r; exact .refl _ _
  | cons x l ih =>
    intro r
    rw [List.foldl_cons]
    refine (Kp.trans (i := 8) ?_ (ih _)).mono (by rw [List.length_cons]; omega)
    split
    · exact putPage_kp _ _ _ _ _
    · exact .refl _ _
/-- What a Commit does where the log has room. -/
theorem commit_parts {v : Vm.Va} {d : Vm.Drum} {C cur : Nat → Vm.B} (H : Vm.VI v d C cur) (hb : v.busy = true) (hg : v.head.gen + 1 < 4294967295) (hst : v.head.stamp + 1 < 2 ^ 64) (hch : v.ch ≠ []) (h1 : ¬ v.pl.log * 48 < v.group.enc.length) (h2 : ¬ v.tape.free * 48 < v.group.enc.length) :
    ∃ t1 d1 t2 d2 d3, v.tape.append d v.group.enc = (0, t1, d1) ∧ t1.flush d1 = (0, t2, d2) ∧ Vm.putPages v.pl.base v.group.st d2 v.group.pgs = (0, d3) ∧
      v.commit d = (0, { v with L := Vm.cleaned (Vm.isort v.ch) (Vm.used (Vm.isort v.ch) (Vm.used (Vm.isort v.ch) v.L)), tape := t2, head := ⟨v.head.gen, v.head.stamp + 1⟩, ch := [], busy := false, down := v.down || decide (0 = 9) }, d3) := by
  obtain ⟨e, v', d', hc, hcase, _⟩ := Vm.commit_ok H hb hg hst
  have he : e = 0 := by
    rcases hcase with h | h
    · exact h.1
    · exact absurd h.2.2.2 h1
  subst he
  have hask : v.ask true = 0 := by unfold Vm.Va.ask; rw [H.down, hb]; simp
  have hc0 := hc
  unfold Vm.Va.commit at hc
  rw [if_neg (by rw [hask]; decide), if_neg hch, if_neg h1, if_neg h2] at hc
  unfold Vm.Va.write at hc
  simp only at hc
  obtain ⟨ea, t1, d1, ha⟩ : ∃ e t d', v.tape.append d v.group.enc = (e, t, d') := ⟨_, _, _, rfl⟩
  rw [ha] at hc
  cases ea with
  | succ n => simp only at hc; cases (congrArg Prod.fst hc)
  | zero =>
    simp only at hc
    obtain ⟨eb, t2, d2, hb2⟩ : ∃ e t d', t1.flush d1 = (e, t, d') := ⟨_, _, _, rfl⟩
    rw [hb2] at hc
    cases eb with
    | succ n => simp only at hc; cases (congrArg Prod.fst hc)
    | zero =>
      simp only at hc
      obtain ⟨ep, d3, hp⟩ : ∃ e d', Vm.putPages v.pl.base v.group.st d2 v.group.pgs = (e, d') := ⟨_, _, rfl⟩
      rw [hp] at hc
      simp only at hc
      have h0 : ep = 0 := congrArg Prod.fst hc
      subst h0
      exact ⟨t1, d1, t2, d2, d3, ha, hb2, hp, by rw [hc0, ← hc]; rfl⟩
theorem writes_now (T : Vm.Tape) (p : List UInt8) (n : Nat) : ∀ (k : Nat) (d : Vm.Drum), (T.writes p n k d).2.now.length = d.now.length
  | 0, _ => rfl
  | k + 1, d => by
    rw [Vm.Tape.writes]
    have h1 := write_kp d (T.lo + T.place + (n - (k + 1))) (Vm.Sec.lay ⟨T.gen, T.place + (n - (k + 1)), T.groups, n - 1 - (n - (k + 1)), ((p.drop ((n - (k + 1)) * 48)).take 48).length⟩ ((p.drop ((n - (k + 1)) * 48)).take 48))
    generalize d.write (T.lo + T.place + (n - (k + 1))) (Vm.Sec.lay ⟨T.gen, T.place + (n - (k + 1)), T.groups, n - 1 - (n - (k + 1)), ((p.drop ((n - (k + 1)) * 48)).take 48).length⟩ ((p.drop ((n - (k + 1)) * 48)).take 48)) = X at h1 ⊢
    obtain ⟨e, d1⟩ := X
    cases e with
    | succ e => exact h1.1
    | zero => exact (writes_now T p n k d1).trans h1.1
theorem append_now {T T' : Vm.Tape} {d d' : Vm.Drum} {p : List UInt8} {e : Nat} (h : T.append d p = (e, T', d')) : d'.now.length = d.now.length := by
  have hw := writes_now T p (Vm.secs p.length) (Vm.secs p.length) d
  unfold Vm.Tape.append at h
  simp only at h
  split at h
  · have e2 : d = d' := congrArg (fun x => x.2.2) h
    rw [← e2]
  · split at h
    · have e2 : d = d' := congrArg (fun x => x.2.2) h
      rw [← e2]
    · generalize T.writes p (Vm.secs p.length) (Vm.secs p.length) d = X at h hw
      obtain ⟨er, dx⟩ := X
      cases er with
      | succ n =>
        have e2 : dx = d' := congrArg (fun x => x.2.2) h
        rw [← e2]; exact hw
      | zero =>
        have e2 : dx = d' := congrArg (fun x => x.2.2) h
        rw [← e2]; exact hw
theorem tflush_d {T T' : Vm.Tape} {d d' : Vm.Drum} (h : T.flush d = (0, T', d')) : d'.now.length = d.now.length ∧ d'.loose = [] := by
  have hf := flush_kp d
  unfold Vm.Tape.flush at h
  split at h
  · cases (congrArg Prod.fst h)
  · obtain ⟨er, dx, hx⟩ : ∃ er dx, d.flush = (er, dx) := ⟨_, _, rfl⟩
    rw [hx] at h hf
    have h0 : er = 0 := congrArg Prod.fst h
    have h1 : dx = d' := congrArg (fun x => x.2.2) h
    subst h0 h1
    refine ⟨hf.1, ?_⟩
    unfold Vm.Drum.flush at hx
    obtain ⟨es, ds, hs⟩ : ∃ es ds, d.step = (es, ds) := ⟨_, _, rfl⟩
    rw [hs] at hx
    cases es with
    | succ n => cases (congrArg Prod.fst hx)
    | zero =>
      have e2 : _ = dx := congrArg Prod.snd hx
      rw [← e2]
      rfl
theorem group_pgs {v : Vm.Va} {d : Vm.Drum} {C cur : Nat → Vm.B} (H : Vm.VI v d C cur) : v.group.pgs = (Vm.isort v.ch).map fun k => (k, cur k) := by
  unfold Vm.Va.group
  exact List.map_congr_left fun k hk => by rw [H.val (Vm.mem_isort.1 hk)]
theorem used_app (a b : List Nat) (L : List Vm.En) : Vm.used (a ++ b) L = Vm.used b (Vm.used a L) := by unfold Vm.used; rw [List.foldl_append]
theorem cleaned_snoc (l : List Nat) (k : Nat) (L : List Vm.En) : Vm.cleaned (l ++ [k]) L = Vm.cleanL k (Vm.cleaned l L) := by
  unfold Vm.cleaned; rw [List.foldl_append]; rfl
end Go.Proofs.YtoacaikopcdkmaaGreat
