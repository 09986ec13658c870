/- Literals, boxes, make, conversions: the model does what the abstract machine does. No condition. -/
import Derived.Laws.IdiomStrings
import Derived.Test.YtjofelloaofooaaGreatDoorEng5c
set_option linter.unusedSimpArgs false
set_option linter.unusedVariables false
namespace Go.Proofs.YtjofelloaofooaaGreatDoor
def plD (P : Program) (t : TypeId) : Option (List (Nat × Nat)) := match P.underlying t with
 | some (.struct fs) => fs.toList.mapM fun f => (szD P f.type).map fun n => (f.offset, n)
 | _ => none
def zcD (P : Program) (t : TypeId) : Option (List D) := ((P.info? t).bind (·.zero)).bind fun z => if z.cells.all (·.oneCell') = true then some (z.cells.toList.map R0) else none
def Ga (place : Nat -> Option (Nat × Nat)) (cs : List D) : List (Nat × D) -> Option (List D)
 | [] => some cs
 | (i, d) :: r => match place i with
  | some (off, n) => if d.lay = true /\ d.cells.length = n /\ off + n <= cs.length then Ga place (Fk cs off d.cells) r else none
  | none => none
def Im (P : Program) (t : TypeId) (parts : List (Nat × D)) : Option D :=
 match zcD P t with
 | none => none
 | some z => match plD P t with
  | some pl => (Ga (fun i => pl[i]?) z parts).map .agg
  | none => match arD P t with
   | some (_, e) => match szD P e with
    | some k => (Ga (fun i => some (i * k, k)) z parts).map .agg
    | none => none
   | none => none
section
variable {P : Program} {K : Kn} {h : Heap} {w : World}
theorem Kp {t : TypeId} {z : List D} (hz : zcD P t = some z) : ∃ v, (∀ w : World, (zeroValue t).run P w = .ok v w) /\ ∀ K, AR K v.cells z := by
 unfold zcD at hz
 cases hi : P.info? t with
 | none => simp [hi] at hz
 | some i =>
  cases hq : i.zero with
  | none => simp [hi, hq] at hz
  | some v =>
   simp only [hi, ba, hq] at hz;split at hz
   ·rename_i hall;injection hz with hz; subst hz
    refine ⟨v, fun w => by simp [zeroValue, typeInfo, hi, hq], fun K => ⟨by simp, fun j hj => ?_, fun j => ?_⟩⟩
    ·have := (Array.all_eq_true.1 hall) j hj;simpa [Array.getD, hj] using this
    ·by_cases hj : j < v.cells.size
     ·have : v.cells.toList[j]? = some v.cells[j] := by simp [hj]
      rw [FX _ _ _ _ this];simp only [Array.getD, hj, dif_pos];exact Ig K _
     ·have : (v.cells.toList.map R0).getD j D.any = D.any := by simp [List.getD, hj]
      rw [this]; exact .any _
   ·simp at hz
theorem Fe (off : Nat) : ∀ (l : List (Value × Nat)) (x : Array Value), (l.foldl (fun cs (c, j) => cs.setIfInBounds (off + j) c) x).size = x.size
 | [], _ => rfl
 | (c, j) :: l, x => by simp [Fe off l]
theorem GL (off : Nat) : ∀ (l : List Value) (k : Nat) (x : Array Value) (i : Nat), off + k + l.length <= x.size ->
  ((l.zipIdx k).foldl (fun cs (c, j) => cs.setIfInBounds (off + j) c) x).getD i undef = if off + k <= i /\ i < off + k + l.length then l.getD (i - (off + k)) undef else x.getD i undef
 | [], k, x, i, _ => by simp; intro h1 h2; omega
 | c :: l, k, x, i, hl => by
  simp only [List.zipIdx_cons, List.foldl_cons];rw [GL off l (k + 1) _ i (by simp at hl ⊢; omega)];simp only [bi] at hl ⊢;by_cases h1 : off + k = i
  ·subst h1;rw [if_neg (by omega), if_pos ⟨Nat.le_refl _, by omega⟩];have : off + k < x.size := by omega
   simp [Array.getD, this]
  ·by_cases h2 : off + (k + 1) <= i /\ i < off + (k + 1) + l.length
   ·rw [if_pos h2, if_pos ⟨by omega, by omega⟩];rw [show i - (off + k) = (i - (off + (k + 1))) + 1 by omega];simp
   ·rw [if_neg h2, if_neg (by omega)];simp [Array.getD_eq_getD_getElem?, Array.getElem?_setIfInBounds_ne h1]
theorem AR.put {x : Array Value} {cs ds : List D} {y : Array Value} {off : Nat} (hx : AR K x cs) (hy : AR K y ds) (hl : off + ds.length <= cs.length) :
  AR K (y.zipIdx.foldl (fun cs (c, j) => cs.setIfInBounds (off + j) c) x) (Fk cs off ds) := by
 have he : y.zipIdx.foldl (fun cs (c, j) => cs.setIfInBounds (off + j) c) x = (y.toList.zipIdx 0).foldl (fun cs (c, j) => cs.setIfInBounds (off + j) c) x := by
  rw [<- Array.foldl_toList]; simp [Array.toList_zipIdx]
 rw [he];have hg := GL off y.toList 0 x;have hys : y.toList.length = ds.length := by simp [hy.1]
 have hsz := hx.1;refine ⟨by rw [Fe, Eu hl, hx.1], fun i hi => ?_, fun i => ?_⟩
 ·rw [Fe] at hi;rw [hg i (by omega)];by_cases hc : off <= i /\ i < off + ds.length
  ·rw [if_pos (by omega)];have hj : i - off < y.size := by rw [hy.1]; omega
   have := hy.2.1 _ hj;simpa [Array.getD, hj, List.getD] using this
  ·rw [if_neg (by omega)]; exact hx.2.1 i hi
 ·rw [hg i (by omega), HB hl];by_cases hc : off <= i /\ i < off + ds.length
  ·rw [if_pos (by omega), if_pos hc];have := hy.2.2 (i - off);simpa [Array.getD_eq_getD_getElem?, List.getD_eq_getElem?_getD] using this
  ·rw [if_neg (by omega), if_neg hc]; exact hx.2.2 i
theorem FB {place : Nat -> Option (Nat × Nat)} : ∀ {parts : List (Nat × D)} {vs : List (Nat × Value)} {x : Array Value} {cs out : List D}, AR K x cs ->
  vs.map (·.1) = parts.map (·.1) -> (∀ (j : Nat) (a : Nat × Value) (b : Nat × D), vs[j]? = some a -> parts[j]? = some b -> VR K a.2 b.2) -> Ga place cs parts = some out -> ∃ y, Instr.fill place x vs = some y /\ AR K y out
 | [], vs, x, cs, out, hx, hm, _, hf => by
  have : vs = [] := by simpa using hm
  subst this;simp [Ga] at hf; subst hf;exact ⟨x, rfl, hx⟩
 | (i, d) :: r, vs, x, cs, out, hx, hm, hv, hf => by
  cases vs with
  | nil => simp at hm
  | cons a vs =>
   obtain ⟨i', v⟩ := a;simp at hm;obtain ⟨rfl, hm⟩ := hm;simp only [Ga] at hf;split at hf
   ·rename_i off n hp;split at hf
    ·rename_i hc;obtain ⟨h1, h2, h3⟩ := hc;have hvd : VR K v d := hv 0 (i', v) (i', d) rfl rfl;have hcells := AR.cells hvd h1;have hsz : v.cells.size = n := by rw [hcells.1, h2]
     have hxs := hx.1;obtain ⟨y, hy, hyr⟩ := FB (hx.put hcells (by omega)) hm (fun j a b ha hb => hv (j + 1) a b ha hb) hf;refine ⟨y, ?_, hyr⟩;have : ¬ (off + n > x.size) := by omega
     simp only [Instr.fill, hp, hsz, ne_eq, not_true_eq_false, decide_false, Bool.false_or, this, if_false, hy];simp
    ·simp at hf
   ·simp at hf
theorem Mr {fs : List Field} {pl : List (Nat × Nat)} (hm : fs.mapM (fun f => (szD P f.type).map fun n => (f.offset, n)) = some pl) :
  (fs.mapM fun f => (do pure (f.offset, <- sizeOf f.type) : Sem (Nat × Nat))).run P w = .ok pl w := by
 induction fs generalizing pl with
 | nil => simp at hm; subst hm; simp
 | cons f fs ih =>
  simp only [List.mapM_cons, Option.pure_def, Option.bind_eq_bind, Option.bind_eq_some_iff, Option.map_eq_some_iff] at hm;obtain ⟨a, ⟨n, hn, rfl⟩, b, hb, hc⟩ := hm;injection hc with hc; subst hc
  simp only [List.mapM_cons, Sem.run_bind, AJ hn, Result.andThen_ok, Sem.run_pure, ih hb]
theorem Lv {t : TypeId} {parts : List (Nat × D)} {vs : List (Nat × Value)} {e : D} (hm : vs.map (·.1) = parts.map (·.1)) (hv : ∀ (j : Nat) (a : Nat × Value) (b : Nat × D), vs[j]? = some a -> parts[j]? = some b -> VR K a.2 b.2)
  (hb : Im P t parts = some e) : Says P K w (Instr.build t vs.toArray) e := by
 unfold Im at hb;split at hb
 ·simp at hb
 ·rename_i z hz;obtain ⟨zv, hzr, hza⟩ := Kp hz;split at hb
  ·rename_i pl hpl;unfold plD at hpl;split at hpl
   ·rename_i fs hu
    cases hf : Ga (fun i => pl[i]?) z parts with
    | none => simp [hf] at hb
    | some out =>
     simp [hf] at hb; subst hb;obtain ⟨y, hy, hyr⟩ := FB (hza K) hm hv hf;refine ⟨.agg y, ?_, hyr.agg⟩;have hp := Mr (w := w) hpl;have hfun : (fun i : Nat => (pl.toArray[i]? : Option (Nat × Nat))) = fun i => pl[i]? := by funext i; simp
     simp only [Instr.build, Sem.run_bind, hzr, Result.andThen_ok, run_underlying hu];have hp2 : (fs.mapM fun f => (do pure (f.offset, <- sizeOf f.type) : Sem (Nat × Nat))).run P w = .ok pl.toArray w := by
      rw [Array.mapM_eq_mapM_toList, Sem.run_map, hp]; rfl
     rw [hp2];simp only [Result.andThen_ok];rw [hfun];simp [hy]
   ·simp at hpl
  ·split at hb
   ·rename_i n et har;split at hb
    ·rename_i k hk
     cases hf : Ga (fun i => some (i * k, k)) z parts with
     | none => simp [hf] at hb
     | some out =>
      simp [hf] at hb; subst hb;obtain ⟨y, hy, hyr⟩ := FB (hza K) hm hv hf;exact ⟨.agg y, by simp [Instr.build, hzr, run_underlying (Mp har), AJ hk, hy], hyr.agg⟩
    ·simp at hb
   ·simp at hb
def SD (t : TypeId) (cs : List D) : Box where
 own K i b _ := b = K.io i
 cell j := if (cs.getD j .any).one = true then cs[j]? else none
 ok K w i := ∃ c : Array Value, w.heap[K.io i]? = some (.cells c t (0, 0)) /\ c.size = cs.length /\ ∀ j, j < cs.length -> (c.getD j undef).oneCell' = true /\ VR K (c.getD j undef) (cs.getD j .any)
 lt K w i hok b o ho := by
  obtain ⟨c, hc, _⟩ := hok;subst ho;rcases Nat.lt_or_ge (K.io i) w.heap.size with h | h
  ·exact h
  ·simp [Array.getElem?_eq_none h] at hc
 ext K K' w i E hi _ b o := by rw [E.io i hi]
 keep K K' w w' i S E hi hk hS hok := by
  obtain ⟨c, hc, hs, hv⟩ := hok;have hlt : K.io i < w.heap.size := by
   rcases Nat.lt_or_ge (K.io i) w.heap.size with h | h
   ·exact h
   ·simp [Array.getElem?_eq_none h] at hc
  exact ⟨c, by rw [E.io i hi, hk.obj _ hlt (fun o hs => hS _ _ hs rfl)]; exact hc, hs, fun j hj => ⟨(hv j hj).1, (hv j hj).2.mono E⟩⟩
 rd K w i hok j d hd := by
  obtain ⟨c, hc, hs, hv⟩ := hok;split at hd
  ·obtain ⟨hj, rfl⟩ := List.getElem?_eq_some_iff.1 hd;obtain ⟨h1, h2⟩ := hv j hj;have hjc : j < c.size := by omega
   have e1 : c.getD j undef = c[j] := by simp [Array.getD, hjc]
   have e2 : cs.getD j .any = cs[j] := by simp [List.getD, hj]
   rw [e1] at h1 h2;rw [e2] at h2;exact ⟨c[j], by simp [World.cell?, hc, hjc], h1, h2⟩
  ·cases hd
def N8 (mode : Nat) (t : TypeId) (h : Heap) (cs : List D) (R : D -> Heap -> Prop) : Prop :=
 match mode with
 | 0 => R (.iptr cs) h
 | 7 => ∀ i, h i = none -> i ≠ 0 -> R (.ptr i 0) (h.upd i (some (.box (SD t cs))))
 | _ => ∀ i, h i = none -> i ≠ 0 -> R (.ptr i 0) (h.upd i (some (.cells cs)))
theorem Jl (H : HR K h w) {mode : Nat} {x : Array Value} {cs : List D} {t : TypeId} {R : D -> Heap -> Prop} (hx : AR K x cs) (hR : N8 mode t h cs R) :
  Does P K h w (do pure (.pointer (some (<- newRow t x)))) R := by
 unfold N8 at hR;have hrun : (do pure (.pointer (some (<- newRow t x))) : Sem Value).run P w = .ok (.pointer (some ⟨w.heap.size, 0, none⟩)) (w.alloc (.cells x t)) := by
  simp [newRow]
 split at hR
 ·have hrow := H.row x t x.size x.size 1 0 (f := (0, 0)) (by intro o _ h; simp at h) (Nat.le_refl _) hx.2.1 (Nat.le_refl _) (by omega) false;have E := Kn.withRow_ext H x x.size x.size 1 0;refine ⟨_, _, _, _, _, hrun, E, by simpa using hrow, ?_, hR⟩;refine Lg (fun o ho => ?_) (by rw [hx.1]; omega);have hlt : o < x.size := by rw [hx.1]; exact ho
  refine ⟨x[o], by simp [hlt], ?_⟩;have := (hx.2.2 o).mono E;simpa [Array.getD, hlt] using this
 ·have hobj := H.newBox (.cells x t) (SD t cs) (fun K' E hio => by
   refine ⟨x, by rw [hio]; exact E9 w _, hx.1, fun j hj => ⟨hx.2.1 j (by rw [hx.1]; exact hj), (hx.2.2 j).mono E⟩⟩) (fun K' hio b o ho => by rw [<- hio]; exact ho)
  refine ⟨_, _, _, _, _, hrun, Kn.withObj_ext K _ _, hobj, ?_, hR K.nx H.fresh (by have := H.nz; omega)⟩;have hio : (K.withObj w.heap.size 0).io K.nx = w.heap.size := by simp [Kn.withObj]
  have := VR.ptr (K := K.withObj w.heap.size 0) K.nx 0 (by simp [Kn.withObj]);rw [hio] at this;exact this
 ·have hobj := H.obj x t cs (by rw [hx.1]; omega) hx.2.1 (fun o _ => hx.2.2 o);refine ⟨_, _, _, _, _, hrun, Kn.withObj_ext K _ _, hobj, ?_, hR K.nx H.fresh (by have := H.nz; omega)⟩;have hio : (K.withObj w.heap.size x.size).io K.nx = w.heap.size := by simp [Kn.withObj]
  have := VR.ptr (K := K.withObj w.heap.size x.size) K.nx 0 (by simp [Kn.withObj]);rw [hio] at this;exact this
def T0 (P : Program) (mode : Nat) (h : Heap) (t : TypeId) (n : Nat) (parts : List (Nat × D)) (R : D -> Heap -> Prop) : Prop :=
 match elD P t with
 | none => False
 | some (k, B, z) => n * k <= 16777216 /\ match Ga (fun i => some (i * k, k)) (List.replicate n z).flatten parts with
  | some cs => match mode with
   | 5 => k = 1 /\ ∀ i, h i = none -> i ≠ 0 -> R (.msl k i 0 n) (h.upd i (some (.lit cs)))
   | m => FM m k (CM k n cs) h h R
  | none => False
theorem HS {place : Nat -> Option (Nat × Nat)} : ∀ {parts : List (Nat × D)} {cs out : List D}, Ga place cs parts = some out -> out.length = cs.length
 | [], cs, out, hf => by simp [Ga] at hf; rw [hf]
 | (i, d) :: r, cs, out, hf => by
  simp only [Ga] at hf;split at hf
  ·split at hf
   ·rename_i hc;rw [HS hf, Eu (by omega)]
   ·simp at hf
  ·simp at hf
theorem MS {zv : Array Value} {z : List D} {k : Nat} (hk : 0 < k) (hzs : zv.size = k) (hzl : z.length = k) (h1 : ∀ j, j < k -> (zv.getD j undef).oneCell' = true) (hr : ∀ j, VR K (zv.getD j undef) (z.getD j .any)) (n : Nat) :
  AR K ((Array.range (n * k)).map (zv[· % zv.size]!)) (List.replicate n z).flatten := by
 have hall : ∀ i, i < (List.replicate n z).length -> ((List.replicate n z).getD i []).length = k := fun i hi => by simp at hi; simp [List.getD, hi, hzl]
 obtain ⟨f1, f2⟩ := BX k (List.replicate n z) hall;simp only [List.length_replicate] at f1 hall;have hget : ∀ q, q < n * k -> ((Array.range (n * k)).map (zv[· % zv.size]!)).getD q undef = zv.getD (q % k) undef := fun q hq => by
  have hm : q % k < zv.size := by rw [hzs]; exact Nat.mod_lt _ hk
  simp only [Array.getD_eq_getD_getElem?, Array.getElem?_map, Array.getElem?_range, hq, if_true, Option.map_some, Option.getD_some, hzs];rw [getElem!_pos zv _ hm, Array.getElem?_eq_getElem hm]; rfl
 refine ⟨by rw [f1]; simp, fun i hi => ?_, fun i => ?_⟩
 ·have hi' : i < n * k := by simpa using hi
  rw [hget i hi']; exact h1 _ (Nat.mod_lt _ hk)
 ·by_cases hi : i < n * k
  ·rw [hget i hi, f2];have : (List.replicate n z).getD (i / k) [] = z := by
    have : i / k < n := (Nat.div_lt_iff_lt_mul hk).2 hi;simp [List.getD, this]
   rw [this]; exact hr _
  ·have : (List.replicate n z).flatten.getD i D.any = D.any := by
    rw [List.getD_eq_getElem?_getD, List.getElem?_eq_none (by omega)]; rfl
   rw [this]; exact .any _
theorem Nr (H : HR K h w) {mode : Nat} {t : TypeId} {n : Nat} {parts : List (Nat × D)} {vs : List (Nat × Value)} {R : D -> Heap -> Prop} (hm : vs.map (·.1) = parts.map (·.1)) (hv : ∀ (j : Nat) (a : Nat × Value) (b : Nat × D), vs[j]? = some a -> parts[j]? = some b -> VR K a.2 b.2)
  (hR : T0 P mode h t n parts R) : Does P K h w (Instr.buildSlice t n vs.toArray) R := by
 unfold T0 at hR;split at hR
 ·exact hR.elim
 ·rename_i k B z hel;obtain ⟨e, i, zv, ht, hi, hz, hik, hib, hzk, hk0, hzl, hz1, hzr⟩ := JC hel;obtain ⟨hn, hR⟩ := hR;split at hR
  ·rename_i cs hf;have hzeros := MS (K := K) hk0 hzk hzl hz1 (hzr K) n;obtain ⟨y, hy, hyr⟩ := FB hzeros hm hv hf;have hcl : cs.length = n * k := by
    rw [HS hf, <- hzeros.1]; simp
   obtain ⟨c1, c2, c3⟩ := ER (k := k) (n := n) (cs := cs) (by omega);have hcf : (CM k n cs).flatten = cs := by rw [c3, <- hcl]; simp
   have hrun : (Instr.buildSlice t n vs.toArray).run P w = .ok (.slice (some ⟨w.heap.size, 0, none⟩) n n) (w.alloc (.cells y e)) := by
    have h24 : ¬ (16777216 < n * k) := by omega
    by_cases h0 : n * k = 0
    ·have hn0 : n = 0 := by
      rcases Nat.mul_eq_zero.1 h0 with h | h
      ·exact h
      ·omega
     have hy' : Instr.fill (fun i => some (i * k, k)) #[] vs = some y := by
      rw [h0] at hy;simpa [Array.range_zero'] using hy
     simp [Instr.buildSlice, run_underlying ht, sizeOf, typeInfo, hi, hik, h0, hn0, hy', newRow, Array.range_zero']
    ·simp [Instr.buildSlice, run_underlying ht, sizeOf, typeInfo, zeroValue, hi, hz, hik, h24, h0, newRow];rw [hy];simp
   split at hR
   ·obtain ⟨hk1, hR⟩ := hR;have E := Kn.withObj_ext K w.heap.size (n * k);have hnz : K.nx ≠ 0 := by have := H.nz; omega
    have hio : (K.withObj w.heap.size (n * k)).io K.nx = w.heap.size := by simp [Kn.withObj]
    have H' := H.newObjN (n * k) (.cells y e) (.lit cs) (by simp) (by simp) (fun K' E' hio' => by
     refine ⟨y, e, by rw [hio']; show (w.heap.push (.cells y e))[w.heap.size]? = _; rw [Array.getElem?_push, if_pos rfl], by rw [hyr.1]; exact Nat.le_refl _, fun j hj => ?_⟩;have hj' : j < y.size := by rw [hyr.1]; exact hj
     refine ⟨y[j], Array.getElem?_eq_getElem hj', ?_, ?_⟩
     ·have := hyr.2.1 j hj';simpa [Array.getD, hj'] using this
     ·have := (hyr.2.2 j).mono E'
      simpa [Array.getD, hj'] using this)
    refine ⟨_, _, _, _, _, hrun, E, H', ?_, hR K.nx H.fresh hnz⟩;have := VR.msl (K := K.withObj w.heap.size (n * k)) k K.nx 0 n n (by simp [Kn.withObj]) (Nat.le_refl _) (by simp [Kn.withObj]);rw [hio] at this;exact this
   obtain ⟨d, K', h'', E, H', hv', hRd⟩ := Gs (es := CM k n cs) (ns := []) H hk0 hzk c2 (by simp) (o := y) (y := #[]) (by rw [hcf]; exact hyr) ⟨by simp, by simp, fun i => by simp; exact .any _⟩ hz1 n (by simp [c1]) mode R h (fun i => .inl rfl) (by simpa using hR) (e := e);have harr : y ++ #[] ++ Builtin.zeroCells zv.cells (n - ((CM k n cs).length + ([] : List (List D)).length)) = y := by
    rw [c1]; simp [Builtin.zeroCells, Array.range_zero']
   rw [harr] at H';exact ⟨_, _, d, K', h'', hrun, E, H', by simpa [c1] using hv', hRd⟩
  ·exact hR.elim
def PQ (P : Program) (mode : Nat) (h : Heap) (t : TypeId) (l c : D) (R : D -> Heap -> Prop) : Prop :=
 match elD P t, l, c with
 | some (k, B, z), .int _ l, .int _ c => 0 <= l /\ l <= c /\ c * B <= 140737488355328 /\ c <= 140737488355328 /\ FM mode k (List.replicate l.toNat z) h h R
 | _, _, _ => False
theorem Kq (z : Array Value) (a b : Nat) : Builtin.zeroCells z a ++ Builtin.zeroCells z b = Builtin.zeroCells z (a + b) := by
 apply Array.ext
 ·simp [EU, Nat.add_mul]
 ·intro i h1 h2;rw [EU] at h2;by_cases hi : i < a * z.size
  ·rw [Array.getElem_append_left (by rw [EU]; exact hi)];simp [Builtin.zeroCells]
  ·rw [Array.getElem_append_right (by rw [EU]; omega)];simp only [Builtin.zeroCells, Array.getElem_map, Array.getElem_range, Array.size_map, Array.size_range];congr 1;have : i = (i - a * z.size) + a * z.size := by omega
   conv => rhs; rw [this, Nat.add_mul_mod_self_right]
theorem Mc (H : HR K h w) {mode : Nat} {t : TypeId} {l c : D} {vl vc : Value} {R : D -> Heap -> Prop} (hl : VR K vl l) (hc : VR K vc c) (hR : PQ P mode h t l c R) : Does P K h w (Instr.makeSlice t vl vc) R := by
 unfold PQ at hR;split at hR
 ·rename_i k B z kl l kc c hel;obtain ⟨e, i, zv, ht, hi, hz, hik, hib, hzk, hk0, hzl, hz1, hzr⟩ := JC hel;obtain ⟨h0, hlc, hb, hc2, hR⟩ := hR;cases hl; cases hc;have hrun := run_make (P := P) w t e i zv ht hi hz kl kc l c h0 hlc (by rw [hib, Int.mul_comm]; omega) (by omega);have hall : ∀ i, i < (List.replicate l.toNat z).length -> ((List.replicate l.toNat z).getD i []).length = k := fun i hi => by simp at hi; simp [List.getD, hi, hzl]
  have hzA := MS (K := K) hk0 hzk hzl hz1 (hzr K) l.toNat
  obtain ⟨d, K', h'', E, H', hv', hRd⟩ := Gs (es := List.replicate l.toNat z) (ns := []) H hk0 hzk hall (by simp) (o := Builtin.zeroCells zv.cells l.toNat) (y := #[]) (by
   have : Builtin.zeroCells zv.cells l.toNat = (Array.range (l.toNat * k)).map (zv.cells[· % zv.cells.size]!) := by simp [Builtin.zeroCells, hzk]
   rw [this]; exact hzA) ⟨by simp, by simp, fun i => by simp; exact .any _⟩ hz1 c.toNat (by simp; omega) mode R h (fun i => .inl rfl) (by simpa using hR) (e := e)
  have harr : Builtin.zeroCells zv.cells l.toNat ++ #[] ++ Builtin.zeroCells zv.cells (c.toNat - ((List.replicate l.toNat z).length + ([] : List (List D)).length)) = madeCells zv.cells (c.toNat * i.size) := by
   simp only [Array.append_empty, List.length_replicate, bj, Nat.add_zero];rw [Kq, show l.toNat + (c.toNat - l.toNat) = c.toNat by omega];simp [Builtin.zeroCells, madeCells, hzk, hik]
  rw [harr] at H';exact ⟨_, _, d, K', h'', hrun, E, H', by simpa using hv', hRd⟩
 ·exact hR.elim
def DG : List (List D) -> Option (List By8)
 | [] => some []
 | [.int .u8 n] :: r => (DG r).map fun l => UInt8.ofNat n.toNat :: l
 | _ => none
theorem LT (l : List By8) : DG (l.map fun b => [FT b]) = some l := by
 induction l with
 | nil => rfl
 | cons b l ih =>
  simp only [FT] at ih;simp [DG, FT, ih]
def Hl (P : Program) (h : Heap) (src dst : TypeId) (x : D) : Option D :=
 match x with
 | .int k n => match kiD P dst with
  | some k' => if (P.underlying src).isSome then some (.int k' (k'.wrap n)) else none
  | none => match faD P dst with
   | some f => if (P.underlying src).isSome then some (.float f (f.nearest n)) else none
   | none => if stD P dst = true /\ (P.underlying src).isSome then some (.str (Utf8.encode n).data.toList) else none
 | .float k b => match kiD P dst with
  | some k' => if (P.underlying src).isSome then match (k.decode b).toInt .zero with
    | some n => if k'.min <= n /\ n <= k'.max then some (.int k' n) else none
    | none => none
   else none
  | none => match faD P dst with
   | some f => if f = k /\ (P.underlying src).isSome then some (.float k b) else none
   | none => none
 | .str s => if stD P dst = true /\ stD P src = true then some (.str s) else none
 | .snil => match slD P src with
  | some e => if kiD P e = some .u8 /\ stD P dst = true then some (.str []) else none
  | none => none
 | .sl k es r => match slD P src with
  | some e => if kiD P e = some .u8 /\ stD P dst = true /\ k = 1 then (DG es).map .str else none
  | none => none
 | .msl k id off n => match slD P src with
  | some e => if kiD P e = some .u8 /\ stD P dst = true /\ k = 1 then match h id with
    | some (.cells cs) => if off + n <= cs.length then (DG (CM 1 n (cs.drop off))).map .str else none
    | some (.bytes cs) => if off + n <= cs.length then (DG (CM 1 n (cs.drop off))).map .str else none
    | _ => none
   else none
  | none => none
 | _ => none
theorem VR.int_inv {v : Value} {k : IntKind} {n : Int} (hv : VR K v (.int k n)) : v = .int k n := by cases hv; rfl
theorem HU : ∀ {es : List (List D)} {l : List By8} {x : Array Value}, DG es = some l -> AR K x es.flatten -> ∃ ns : List Int, x = (ns.map (Value.int .u8)).toArray /\ ns.map (fun n => UInt8.ofNat n.toNat) = l /\ (∀ i, i < es.length -> (es.getD i []).length = 1)
 | [], l, x, hb, hx => by
  simp [DG] at hb;subst hb;have : x = #[] := by have := hx.1; simpa using this
  exact ⟨[], by simp [this], rfl, by simp⟩
 | e :: es, l, x, hb, hx => by
  unfold DG at hb;split at hb
  ·rename_i heq; simp at heq
  ·rename_i n r heq;injection heq with he hr
   subst he hr
   cases hq : DG es with
   | none => simp [hq] at hb
   | some l' =>
    simp [hq] at hb;subst hb;have hfl : ([.int .u8 n] :: es).flatten = .int .u8 n :: es.flatten := rfl;rw [hfl] at hx;have hsz : x.size = es.flatten.length + 1 := hx.1;have h0 : VR K (x.getD 0 undef) (.int .u8 n) := hx.2.2 0;have hx0 := VR.int_inv h0;have hrest : AR K (x.extract 1 (1 + es.flatten.length)) es.flatten := by
     have := hx.sub 1 es.flatten.length (by rw [bi]; omega)
     rwa [List.drop_one, List.tail_cons, List.take_length] at this
    obtain ⟨ns, h1, h2, h3⟩ := HU hq hrest;refine ⟨n :: ns, ?_, by simp [h2], fun i hi => ?_⟩
    ·apply Array.ext';have ht : (x.extract 1 (1 + es.flatten.length)).toList = ns.map (Value.int .u8) := by rw [h1]
     have hlt : 0 < x.size := by omega
     cases hxl : x.toList with
     | nil =>
      have : x.size = 0 := by rw [<- Array.length_toList, hxl]; rfl
      omega
     | cons a l2 =>
      have hll : l2.length = es.flatten.length := by
       have : x.toList.length = x.size := by simp
       rw [hxl, bi] at this; omega
      have ha : a = .int .u8 n := by
       have : x.toList[0]? = some a := by rw [hxl]; rfl
       rw [Array.getElem?_toList] at this;rw [<- hx0, Array.getD_eq_getD_getElem?, this]; rfl
      have hl2 : (x.extract 1 (1 + es.flatten.length)).toList = l2 := by
       rw [Array.toList_extract, List.extract_eq_take_drop, hxl, List.drop_one, List.tail_cons, show 1 + es.flatten.length - 1 = l2.length by omega, List.take_length]
      rw [ha, <- hl2, ht]; simp
    ·cases i with
     | zero => simp
     | succ i => have := h3 i (by simpa using hi); simpa using this
  ·simp at hb
theorem Jo : ∀ (ns : List Int) (s : ByteArray), (ns.foldl (fun r n => r.push (UInt8.ofNat n.toNat)) s) = ⟨(s.data.toList ++ ns.map fun n => UInt8.ofNat n.toNat).toArray⟩
 | [], s => by simp
 | n :: ns, s => by
  simp only [List.foldl_cons, Jo ns];apply ByteArray.ext;simp [ByteArray.push]
theorem Hj {src dst e : TypeId} {b o n cap : Nat} {l : List By8} {es : List (List D)} (hs : slD P src = some e) (he : kiD P e = some .u8) (hd : stD P dst = true) (hc : Cells K w b o es.flatten) (hl : es.flatten.length = n) (hb : DG es = some l) :
  (convert src dst (.slice (some ⟨b, o, none⟩) n cap)).run P w = .ok (.string ⟨l.toArray⟩) w := by
 obtain ⟨x, hx, hr⟩ := hc.load (P := P);obtain ⟨ns, h1, h2, _⟩ := HU hb hr;rw [hl] at hx;rw [run_convert_bytes_string w src dst e (some ⟨b, o, none⟩) n cap (Bl hs) (EM he) (Dm hd), run_bytesToString w ⟨b, o, none⟩ n cap ns (by rw [hx, h1]), Jo];simp [h2]
theorem IQ (H : HR K h w) {src dst : TypeId} {x e : D} {v : Value} (hv : VR K v x) (hc : Hl P h src dst x = some e) : Says P K w (convert src dst v) e := by
 unfold Hl at hc;split at hc
 ·rename_i k n;cases hv;split at hc
  ·rename_i k' hk;split at hc
   ·rename_i hs;injection hc with hc; subst hc
    obtain ⟨d, hd⟩ := Option.isSome_iff_exists.1 hs;exact Says.int (by simp [convert, run_underlying hd, run_underlying (EM hk), Conv.intToInt])
   ·simp at hc
  ·split at hc
   ·rename_i f hf;split at hc
    ·rename_i hs;injection hc with hc; subst hc
     obtain ⟨d, hd⟩ := Option.isSome_iff_exists.1 hs;exact Says.float (by simp [convert, run_underlying hd, run_underlying (J0 hf), Conv.intToFloat])
    ·simp at hc
   ·split at hc
    ·rename_i hs;injection hc with hc; subst hc
     obtain ⟨d, hd⟩ := Option.isSome_iff_exists.1 hs.2;have hse : (Utf8.encode n) = ⟨(Utf8.encode n).data.toList.toArray⟩ := by simp
     exact Says.str (by rw [<- hse]; simp [convert, run_underlying hd, run_underlying (Dm hs.1), Conv.intToString])
    ·simp at hc
 ·rename_i k b;cases hv;split at hc
  ·rename_i k' hk;split at hc
   ·rename_i hs;obtain ⟨d, hd⟩ := Option.isSome_iff_exists.1 hs;split at hc
    ·rename_i n hn;split at hc
     ·rename_i hm;injection hc with hc; subst hc
      exact Says.int (by simp [convert, run_underlying hd, run_underlying (EM hk), Conv.floatToInt, hn, hm])
     ·simp at hc
    ·simp at hc
   ·simp at hc
  ·split at hc
   ·rename_i f hf;split at hc
    ·rename_i hs;obtain ⟨rfl, hs⟩ := hs;injection hc with hc; subst hc
     obtain ⟨d, hd⟩ := Option.isSome_iff_exists.1 hs;exact Says.float (by simp [convert, run_underlying hd, run_underlying (J0 hf), Conv.floatToFloat])
    ·simp at hc
   ·simp at hc
 ·rename_i s;cases hv;split at hc
  ·rename_i hs;injection hc with hc; subst hc
   exact Says.str (by simp [convert, run_underlying (Dm hs.1), run_underlying (Dm hs.2)])
  ·simp at hc
 ·cases hv;split at hc
  ·rename_i e' he;split at hc
   ·rename_i hs;injection hc with hc; subst hc
    refine Says.str ?_;rw [run_convert_bytes_string w src dst e' none 0 0 (Bl he) (EM hs.1) (Dm hs.2)];rfl
   ·simp at hc
  ·simp at hc
 ·rename_i k es r;split at hc
  ·rename_i e' he;split at hc
   ·rename_i hs;obtain ⟨h1, h2, rfl⟩ := hs
    cases hb : DG es with
    | none => simp [hb] at hc
    | some l =>
     simp [hb] at hc; subst hc;by_cases hne : es ≠ []
     case neg =>
      have e1 : es = [] := by by_cases h : es = [] <;> simp_all
      subst e1;simp [DG] at hb; subst hb
      cases hv with
      | slz _ a =>
       refine Says.str ?_;rw [run_convert_bytes_string w src dst e' a 0 0 (Bl he) (EM h1) (Dm h2)];cases a <;> rfl
      | sln =>
       refine Says.str ?_;rw [run_convert_bytes_string w src dst e' none 0 0 (Bl he) (EM h1) (Dm h2)];rfl
      | sl b o _ _ _ cap vs hk hm hvv hcc hr =>
       exact Says.str (Hj (K := K) (es := []) he h1 h2 (b := b) (o := o) (fun i hi => by simp at hi) rfl rfl)
     obtain ⟨b, o, cap, rfl, hcap, hcs, hek, _, _⟩ := Kl H hv (.inl hne);exact Says.str (Hj he h1 h2 hcs (by rw [(BX 1 es hek).1, Nat.mul_one]) hb)
   ·simp at hc
  ·simp at hc
 ·rename_i k id off n;split at hc
  ·rename_i e' he;split at hc
   ·rename_i hs;obtain ⟨h1, h2, rfl⟩ := hs;split at hc
    ·rename_i cs hx;split at hc
     ·rename_i hl
      cases hb : DG (CM 1 n (cs.drop off)) with
      | none => simp [hb] at hc
      | some l =>
       simp [hb] at hc; subst hc
       cases hv with
       | msl _ _ _ _ cap hid hn hcap =>
        have hl' : n * 1 <= (cs.drop off).length := by simp; omega
        obtain ⟨c1, c2, c3⟩ := ER hl';have hc' : Cells K w (K.io id) off (CM 1 n (cs.drop off)).flatten := by
         rw [c3]; have := (H.mcells hx off).sub 0 (n * 1) (by omega); simpa using this
        exact Says.str (Hj he h1 h2 hc' (by rw [(BX 1 _ c2).1, c1, Nat.mul_one]) hb)
     ·simp at hc
    ·rename_i cs hx;split at hc
     ·rename_i hl
      cases hb : DG (CM 1 n (cs.drop off)) with
      | none => simp [hb] at hc
      | some l =>
       simp [hb] at hc; subst hc
       cases hv with
       | msl _ _ _ _ cap hid hn hcap =>
        have hl' : n * 1 <= (cs.drop off).length := by simp; omega
        obtain ⟨c1, c2, c3⟩ := ER hl';have hc' : Cells K w (K.io id) off (CM 1 n (cs.drop off)).flatten := by
         rw [c3]; have := (H.bcells hx off).sub 0 (n * 1) (by omega); simpa using this
        exact Says.str (Hj he h1 h2 hc' (by rw [(BX 1 _ c2).1, c1, Nat.mul_one]) hb)
     ·simp at hc
    ·simp at hc
   ·simp at hc
  ·simp at hc
 ·simp at hc
def TP (P : Program) (mode : Nat) (h : Heap) (src dst : TypeId) (s : List By8) (R : D -> Heap -> Prop) : Prop :=
 match slD P dst with
 | some e => stD P src = true /\ kiD P e = some .u8 /\ (mode = 1 -> ∀ i, h i = none -> i ≠ 0 -> R (.msl 1 i 0 s.length) (h.upd i (some (.bytes (s.map FT))))) /\ (mode ≠ 1 -> FM mode 1 (s.map fun b => [FT b]) h h R)
 | none => False
theorem Ns (H : HR K h w) {mode : Nat} {src dst : TypeId} {s : List By8} {v : Value} {R : D -> Heap -> Prop} (hv : VR K v (.str s)) (hR : TP P mode h src dst s R) : Does P K h w (convert src dst v) R := by
 cases hv;unfold TP at hR;split at hR
 ·rename_i e he;obtain ⟨h1, h2, h3, hR⟩ := hR;have hrun := run_bytes_of_string (P := P) w src dst e ⟨s.toArray⟩ (Dm h1) (Bl he) (EM h2);have hsz : (⟨s.toArray⟩ : ByteArray).size = s.length := by simp [ByteArray.size]
  rw [hsz] at hrun;have hcap : s.length <= grownCap w s.length 0 e := grownCap_ge w s.length 0 e;generalize grownCap w s.length 0 e = cap at hrun hcap;have hxs : (bytesRow ⟨s.toArray⟩ cap).size = cap := by simp [bytesRow, hsz]; omega
  have hx : ∀ i, i < s.length -> (bytesRow ⟨s.toArray⟩ cap)[i]? = some (.int .u8 (s.getD i 0).toNat) := fun i hi => by
   simp [bytesRow, Array.getElem?_append, hi]
  have h1c : ∀ o, o < s.length -> ((bytesRow ⟨s.toArray⟩ cap).getD o undef).oneCell' = true := fun o ho => by
   rw [Array.getD_eq_getD_getElem?, hx o ho]; rfl
  have hfz : ∀ o, o < (bytesRow ⟨s.toArray⟩ cap).size -> ¬ (((bytesRow ⟨s.toArray⟩ cap).size, (bytesRow ⟨s.toArray⟩ cap).size + 1) : Nat × Nat).1 <= o \/ ¬ o < (((bytesRow ⟨s.toArray⟩ cap).size, (bytesRow ⟨s.toArray⟩ cap).size + 1) : Nat × Nat).2 := fun o ho => .inl (by simp; omega);have H' := H.drew;have hnz : K.nx ≠ 0 := by have := H.nz; omega
  have hsl : ∀ r m, (r ≠ 0 -> r = K.nx /\ m = cap - s.length) -> VR (K.withRow w.heap.size (bytesRow ⟨s.toArray⟩ cap) s.length s.length 1 m) (.slice (some ⟨w.heap.size, 0, none⟩) s.length cap) (.sl 1 (s.map fun b => [FT b]) r) := by
   intro r m hr;have := Jt (K := K) (x := bytesRow ⟨s.toArray⟩ cap) (n := s.length) (lo := s.length) (kr := 1) (m := m) (g := w.heap.size) (cap := cap) (k := 1) (es := s.map fun b => [FT b]) (r := r)
    (fun i hi => by simp at hi; simp [List.getD, hi]) (fun i j hi hj => by
     have hi' : i < s.length := by simpa using hi
     have hj0 : j = 0 := by omega
     subst hj0;refine ⟨_, by rw [Nat.mul_one, Nat.add_zero]; exact hx i hi', ?_⟩
     simp [List.getD, hi', FT]; exact .int _ _) (by simp) (by simpa using hcap) (fun h0 => by obtain ⟨a, b⟩ := hr h0; exact ⟨a, by simp, rfl, by simpa using b, H.bs⟩)
   simpa using this
  by_cases h1m : mode = 1
  ·have hR := h3 h1m
   have hob := H'.newObjN cap (.cells (bytesRow ⟨s.toArray⟩ cap) e ((bytesRow ⟨s.toArray⟩ cap).size, (bytesRow ⟨s.toArray⟩ cap).size + 1)) (.bytes (s.map FT)) (by simp) (by simp) (fun K' E' hio' => by
    refine ⟨fun j hj => ?_, ⟨(e, (bytesRow ⟨s.toArray⟩ cap).size), ?_⟩, fun o ho => ?_⟩
    ·have hj' : j < s.length := by simpa using hj
     refine ⟨.int .u8 (s.getD j 0).toNat, by rw [hio', Id]; exact hx j hj', rfl, ?_⟩;simp [List.getD, hj', FT]; exact .int _ _
    ·rw [hio']; unfold World.shape?; rw [E9]
    ·have ho' : o < s.length := by simpa using ho
     rw [hio']; simp only [World.frozen?, E9]
     simp [hxs]; omega)
   have hvr : VR (K.withObj w.drew.heap.size cap) (.slice (some ⟨w.heap.size, 0, none⟩) s.length cap) (.msl 1 K.nx 0 s.length) := by
    have h1 : K.nx < (K.withObj w.drew.heap.size cap).nx := by show K.nx < K.nx + 1; omega
    have h2 : (K.withObj w.drew.heap.size cap).io K.nx = w.heap.size := by simp [Kn.withObj]
    have h3 : (K.withObj w.drew.heap.size cap).sz K.nx = cap := by simp [Kn.withObj]
    have := VR.msl (K := K.withObj w.drew.heap.size cap) 1 K.nx 0 s.length cap h1 hcap (by rw [h3]; omega);rw [h2] at this; exact this
   exact ⟨_, _, _, _, _, hrun, Kn.withObj_ext K _ _, hob, hvr, hR K.nx H.fresh hnz⟩
  have hR := hR h1m;unfold FM at hR;split at hR
  ·have hrow := H'.row (bytesRow ⟨s.toArray⟩ cap) e s.length s.length 1 0 (f := ((bytesRow ⟨s.toArray⟩ cap).size, (bytesRow ⟨s.toArray⟩ cap).size + 1)) (fun o ho hc => (hfz o ho).elim (fun a => a hc.1) (fun a => a hc.2)) (by omega) h1c (Nat.le_refl _) (by omega) false;exact ⟨_, _, _, _, _, hrun, Kn.withRow_ext H _ _ _ 1 0, hrow, hsl 0 0 (by simp), hR⟩
  ·exact absurd rfl h1m
  ·have hrow := H'.row (bytesRow ⟨s.toArray⟩ cap) e s.length s.length 1 0 (f := ((bytesRow ⟨s.toArray⟩ cap).size, (bytesRow ⟨s.toArray⟩ cap).size + 1)) (fun o ho hc => (hfz o ho).elim (fun a => a hc.1) (fun a => a hc.2)) (by omega) h1c (Nat.le_refl _) (by omega) false;exact ⟨_, _, _, _, _, hrun, Kn.withRow_ext H _ _ _ 1 0, hrow, (hsl 0 0 (by simp)).toX hR.1, hR.2⟩
  ·have hrow := H'.row (bytesRow ⟨s.toArray⟩ cap) e s.length s.length 1 (cap - s.length) (f := ((bytesRow ⟨s.toArray⟩ cap).size, (bytesRow ⟨s.toArray⟩ cap).size + 1)) (fun o ho hc => (hfz o ho).elim (fun a => a hc.1) (fun a => a hc.2)) (by omega) h1c (Nat.le_refl _) (by omega) true;exact ⟨_, _, _, _, _, hrun, Kn.withRow_ext H _ _ _ 1 _, hrow, hsl K.nx _ (fun _ => ⟨rfl, rfl⟩), hR K.nx H.fresh hnz⟩
 ·exact hR.elim
def XL (P : Program) (h : Heap) (src dst : TypeId) (k id off n : Nat) (R : D -> Heap -> Prop) : Prop :=
 src = dst /\ match slD P dst with
 | some e => kiD P e = some .u8 /\ k = 1 /\ off = 0 /\ 0 < n /\ ∃ cs, h id = some (.lit cs) /\ cs.length = n /\ R (.sl 1 (cs.map fun c => [c]) 0) (h.upd id none)
 | none => False
def Kn.lrn (K : Kn) (g : Nat) (f : Nat -> Option Value) : Kn := { K with mu := fun b o => if b = g then f o else K.mu b o }
theorem World.freeze_ne (w : World) (g o n b : Nat) (hb : b ≠ g) : (w.freeze ⟨g, o, none⟩ n).heap[b]? = w.heap[b]? := by
 unfold World.freeze;split
 ·rfl
 ·simp [Array.getElem?_modify, Ne.symm hb]
theorem ND (H : HR K h w) {src dst : TypeId} {k id off n : Nat} {v : Value} {R : D -> Heap -> Prop} (hv : VR K v (.msl k id off n)) (hR : XL P h src dst k id off n R) : Does P K h w (convert src dst v) R := by
 obtain ⟨rfl, hR⟩ := hR;split at hR
 ·rename_i e he;obtain ⟨hke, rfl, rfl, hn0, cs, hx, hcl, hR⟩ := hR
  cases hv with
  | msl _ _ _ _ cap hid hn hcap =>
   obtain ⟨c, t, hob, hsz, hcs⟩ := H.ok id _ hx;have hlt : K.io id < w.heap.size := by
    rcases Nat.lt_or_ge (K.io id) w.heap.size with h | h
    ·exact h
    ·simp [Array.getElem?_eq_none h] at hob
   have hsh : w.shape? (K.io id) = some (t, c.size) := by simp [World.shape?, hob]
   have hrun : (convert src src (.slice (some ⟨K.io id, 0, none⟩) n cap)).run P w = .ok (.slice (some ⟨K.io id, 0, none⟩) n cap) (w.freeze ⟨K.io id, c.size, none⟩ 1) := by
    simp [convert, run_underlying (Bl he), run_underlying (EM hke), markStringish, hsh]
   have hcell : ∀ j, (w.freeze ⟨K.io id, c.size, none⟩ 1).cell? ⟨K.io id, j, none⟩ = c[j]? := by
    intro j;simp [World.freeze, World.cell?, Array.getElem?_modify, hob]
   have hmu0 : ∀ o, K.mu (K.io id) o = none := fun o => H.nomu id _ hx _ o rfl;have E : Ext K (K.lrn (K.io id) (fun o => if o < n then c[o]? else none)) := by
    refine ⟨fun b o u hu => ?_, fun _ _ => rfl, fun _ _ => rfl, fun _ _ => rfl, Nat.le_refl _, rfl, rfl⟩;have hne : b ≠ K.io id := fun e => by rw [e, hmu0] at hu; simp at hu
    simp only [Kn.lrn, if_neg hne]; exact hu
   have hkeep : Keep w (w.freeze ⟨K.io id, c.size, none⟩ 1) (fun b _ => b = K.io id) := by
    refine ⟨fun b o _ hb => ?_, fun b _ hb => ?_, ?_, ?_⟩
    ·have hne : b ≠ K.io id := hb;have := World.freeze_ne w (K.io id) c.size 1 b hne;exact ⟨by simp [World.cell?, this], by simp [World.frozen?, this]⟩
    ·exact World.freeze_ne w (K.io id) c.size 1 b (fun e => hb 0 e)
    ·simp [World.freeze]
    ·simp [World.freeze]
   have H' : HR (K.lrn (K.io id) (fun o => if o < n then c[o]? else none)) (h.upd id none) (w.freeze ⟨K.io id, c.size, none⟩ 1) := by
    refine HR.change (C := fun i => i = id) H E hkeep (fun b o hb => ⟨id, _, rfl, hx, hb⟩) (fun j hj => .inl (Heap.upd_ne _ _ hj)) (fun b o u hu => ?_) ?_ (fun i z hi hz => ?_)
    ·simp only [Kn.lrn] at hu;split at hu
     ·rename_i hb;subst hb;split at hu
      ·rename_i ho;obtain ⟨v', h1, h2, h3⟩ := hcs o (by omega);refine .inr ⟨by rw [hcell]; exact hu, ?_, fun j y hj hy ho2 => ?_⟩
       ·rw [h1] at hu; injection hu with hu; rw [<- hu]; exact h2
       ·exact H.sep id j _ y (fun e => hj e.symm) hx hy _ o rfl ho2
      ·simp at hu
     ·exact .inl hu
    ·have hne : (0 : Nat) ≠ id := fun e => by have := H.z; rw [e, hx] at this; simp at this
     rw [Heap.upd_ne h _ hne]; exact H.z
    ·subst hi;rw [Heap.upd_same] at hz;simp at hz
   refine ⟨_, _, _, _, _, hrun, E, H', ?_, hR⟩;have hlen : (cs.map fun c => [c]).length = n := by simp [hcl]
   have := VR.sl (K := K.lrn (K.io id) (fun o => if o < n then c[o]? else none)) (K.io id) 0 1 (cs.map fun c => [c]) 0 cap (fun i j => if i < n /\ j = 0 then c.getD i undef else undef)
    (fun i hi => by rw [hlen] at hi; simp [List.getD, hcl, hi])
    (fun i j hi hj => by
     rw [hlen] at hi;have hj0 : j = 0 := by omega
     subst hj0;obtain ⟨v', h1, _, _⟩ := hcs i (by omega);simp only [Kn.lrn, if_true, Nat.mul_one, Nat.zero_add, Nat.add_zero, hi, and_self]
     simp [Array.getD_eq_getD_getElem?, h1])
    (fun i j => by
     by_cases hij : i < n /\ j = 0
     ·obtain ⟨hi, rfl⟩ := hij;obtain ⟨v', h1, _, h3⟩ := hcs i (by omega);simp only [hi, and_self, if_true];have h4 := h3.mono E;have hi' : i < cs.length := by omega
      simpa [List.getD, hi', Array.getD_eq_getD_getElem?, h1] using h4
     ·simp only [hij, if_false];have : ((cs.map fun c => [c]).getD i []).getD j D.any = D.any := by
       by_cases hi : i < cs.length
       ·have hj : j ≠ 0 := fun e => hij ⟨by omega, e⟩
        cases j with
        | zero => exact absurd rfl hj
        | succ j => simp [List.getD, hi]
       ·simp [List.getD, hi]
      rw [this]; exact .any _)
    (by rw [hlen]; exact hn) (fun h0 => absurd rfl h0)
   rw [hlen] at this;exact this
 ·exact hR.elim
end
end Go.Proofs.YtjofelloaofooaaGreatDoor
