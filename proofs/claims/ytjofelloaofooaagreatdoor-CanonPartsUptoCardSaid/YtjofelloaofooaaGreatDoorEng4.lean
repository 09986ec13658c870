/- New memory, and memory that is written: what becomes of the abstract machine's. No condition. -/
import Derived.Test.YtjofelloaofooaaGreatDoorEng3
set_option linter.unusedSimpArgs false
set_option linter.unusedVariables false
namespace Go.Proofs.YtjofelloaofooaaGreatDoor
section
variable {P : Program} {K : Kn} {h : Heap} {w : World}
theorem HR.drew (H : HR K h w) : HR K h w.drew :=
  HR.change (C := fun _ => False) H (Ext.refl K) (Keep.drew w (fun _ _ => False)) (fun _ _ h => h.elim) (fun _ _ => .inl rfl) (fun _ _ _ hv => .inl hv) H.z (fun _ _ h => h.elim)
theorem HR.forget (H : HR K h w) {h' : Heap} (hf : ∀ i, h' i = h i \/ h' i = none) : HR K h' w :=
  HR.change (C := fun _ => False) H (Ext.refl K) (Keep.refl w (fun _ _ => False)) (fun _ _ h => h.elim) (fun i _ => hf i) (fun _ _ _ hv => .inl hv) (by rcases hf 0 with e | e <;> rw [e]; exact H.z) (fun _ _ h => h.elim)
theorem G3 (H : HR K h w) {i : Nat} {x : AObj} (hx : h i = some x) {b o : Nat} (ho : own K i x b o) : b < w.heap.size := by
  have hok := H.ok i x hx
  cases x with
  | cells cs =>
    have hb : b = K.io i := ho;obtain ⟨_, _, ⟨s, hs⟩, _⟩ := hok;subst hb;rcases Nat.lt_or_ge (K.io i) w.heap.size with h | h
    · exact h
    · simp [World.shape?, Array.getElem?_eq_none h] at hs
  | bytes cs =>
    have hb : b = K.io i := ho;obtain ⟨_, ⟨s, hs⟩, _⟩ := hok;subst hb;rcases Nat.lt_or_ge (K.io i) w.heap.size with h | h
    · exact h
    · simp [World.shape?, Array.getElem?_eq_none h] at hs
  | room =>
    obtain ⟨hb, h1, h2⟩ := ho;obtain ⟨v, hc, _⟩ := hok o h1 h2;rw [hb]; exact cell?_lt hc
  | lit cs =>
    have hb : b = K.io i := ho;obtain ⟨c, t, hs, _⟩ := hok;subst hb;rcases Nat.lt_or_ge (K.io i) w.heap.size with h | h
    · exact h
    · simp [Array.getElem?_eq_none h] at hs
  | map es clock =>
    have hb : b = K.io i := ho;obtain ⟨xs, hs, _⟩ := hok;subst hb;rcases Nat.lt_or_ge (K.io i) w.heap.size with h | h
    · exact h
    · simp [Array.getElem?_eq_none h] at hs
  | iter s p =>
    have hb : b = K.io i := ho;have hs : w.heap[K.io i]? = some (.stringIter ⟨s.toArray⟩ p) := hok;subst hb;rcases Nat.lt_or_ge (K.io i) w.heap.size with h | h
    · exact h
    · simp [Array.getElem?_eq_none h] at hs
  | box p => exact p.lt K w i hok b o ho
  | miter m q s p =>
    have hb : b = K.io i := ho;obtain ⟨_, hs⟩ := hok;subst hb;rcases Nat.lt_or_ge (K.io i) w.heap.size with h | h
    · exact h
    · simp [Array.getElem?_eq_none h] at hs
theorem NJ (H : HR K h w) {b o : Nat} {v : Value} (hm : K.mu b o = some v) : b < w.heap.size := cell?_lt (H.mu b o v hm).1
def Kn.withRow (K : Kn) (g : Nat) (x : Array Value) (n : Nat) (lo k m : Nat) : Kn :=
  { K with mu := fun b o => if b = g then (if o < n then x[o]? else none) else K.mu b o
           ro := fun i => if i = K.nx then ⟨g, lo, k, m⟩ else K.ro i
           nx := K.nx + 1 }
theorem Kn.withRow_ext (H : HR K h w) (x : Array Value) (n lo k m : Nat) : Ext K (K.withRow w.heap.size x n lo k m) := by
  refine ⟨fun b o v hv => ?_, fun _ _ => rfl, fun _ _ => rfl, fun i hi => ?_, Nat.le_succ _, rfl, rfl⟩
  · have := NJ H hv;simp [Kn.withRow, Nat.ne_of_lt this, hv]
  · simp [Kn.withRow, Nat.ne_of_lt hi]
theorem E9 (w : World) (o : Obj) : (w.alloc o).heap[w.heap.size]? = some o := by
  show (w.heap.push _)[w.heap.size]? = _;simp
theorem Id (w : World) (x : Array Value) (t : TypeId) (o : Nat) {f : Nat × Nat} : (w.alloc (.cells x t f)).cell? ⟨w.heap.size, o, none⟩ = x[o]? := by
  simp only [World.cell?, E9]; rfl
theorem Nq (w : World) (x : Array Value) (t : TypeId) (o : Nat) : (w.alloc (.cells x t)).frozen? ⟨w.heap.size, o, none⟩ = false := by
  exact World.frozen?_alloc_new w x t o
theorem PL (w : World) (x : Array Value) (t : TypeId) : (w.alloc (.cells x t)).shape? w.heap.size = some (t, x.size) := by
  unfold World.shape?;have : (w.alloc (.cells x t)).heap[w.heap.size]? = some (.cells x t) := by
    show (w.heap.push _)[w.heap.size]? = _;simp
  rw [this]
theorem HR.row (H : HR K h w) (x : Array Value) (t : TypeId) (n lo k m : Nat) {f : Nat × Nat} (hfz : ∀ o, o < x.size -> ¬ (f.1 <= o /\ o < f.2)) (hn : n <= x.size) (h1 : ∀ o, o < n -> (x.getD o undef).oneCell' = true) (hlo : n <= lo) (hm : lo + m * k <= x.size) (r : Bool) :
    HR (K.withRow w.heap.size x n lo k m) (if r then h.upd K.nx (some .room) else h) (w.alloc (.cells x t f)) := by
  have E := Kn.withRow_ext H x n lo k m;refine HR.change (C := fun i => i = K.nx) H E (Keep.alloc w _ (fun _ _ => False)) (fun _ _ h => h.elim) (fun j hj => ?_) (fun b o v hv => ?_) ?_ (fun i y hi hy => ?_)
  · cases r
    · exact .inl rfl
    · exact .inl (Heap.upd_ne _ _ hj)
  · by_cases hb : b = w.heap.size
    · subst hb;right;simp [Kn.withRow] at hv;obtain ⟨ho, hv⟩ := hv;refine ⟨by rw [Id]; exact hv, ?_, fun j y _ hy hoy => ?_⟩
      · have := h1 o ho;simpa [Array.getD_eq_getD_getElem?, hv] using this
      · exact absurd (G3 H hy hoy) (by omega)
    · left;simpa [Kn.withRow, hb] using hv
  · cases r
    · exact H.z
    · have := H.nz;have h0 : (0 : Nat) ≠ K.nx := by omega
      simpa [Heap.upd_ne h (some AObj.room) h0] using H.z
  · have hnone : h K.nx = none := by
      cases hq : h K.nx with
      | none => rfl
      | some z => exact absurd (H.lt _ _ hq) (by omega)
    subst hi;cases r
    · simp [hnone] at hy
    · simp [Heap.upd_same] at hy;subst hy;have hro : (K.withRow w.heap.size x n lo k m).ro K.nx = ⟨w.heap.size, lo, k, m⟩ := by simp [Kn.withRow]
      refine ⟨by simp [Kn.withRow], fun o ho1 ho2 => ?_, fun b o ho => ?_⟩
      · rw [hro] at ho1 ho2 ⊢;simp only at ho1 ho2 ⊢;have : o < x.size := by omega
        refine ⟨x[o], by rw [Id]; simp [this], ?_⟩;have := hfz o this;obtain ⟨f1, f2⟩ := f;simp only [World.frozen?, E9];simpa using this
      · simp only [own, hro] at ho;obtain ⟨rfl, ho1, ho2⟩ := ho;refine ⟨H.bs, ?_, fun j y _ hy hoy => absurd (G3 H hy hoy) (by omega), fun j y hj hne hy => absurd hj hne⟩;simp [Kn.withRow]; intro; omega
theorem Lg {x : Array Value} {n lo k m g : Nat} {cs : List D} (hx : ∀ o, o < cs.length -> ∃ v, x[o]? = some v /\ VR (K.withRow g x n lo k m) v (cs.getD o .any)) (hn : cs.length <= n) :
    VR (K.withRow g x n lo k m) (.pointer (some ⟨g, 0, none⟩)) (.iptr cs) := by
  refine .iptr g 0 cs (fun o => x.getD o undef) (fun i hi => ?_) (fun i => ?_)
  · obtain ⟨v, hv, _⟩ := hx i hi;have : i < n := by omega
    simp [Kn.withRow, this, hv, Array.getD_eq_getD_getElem?]
  · by_cases hi : i < cs.length
    · obtain ⟨v, hv, hr⟩ := hx i hi;simpa [Array.getD_eq_getD_getElem?, hv] using hr
    · have : cs.getD i D.any = D.any := by simp [List.getD, hi]
      rw [this]; exact .any _
def YT (es : List (List D)) (k : Nat) (o : Nat) : D := (es.getD (o / k) []).getD (o % k) .any
theorem Jt {x : Array Value} {n lo k m g kr cap : Nat} {es : List (List D)} {r : Nat} (hk : ∀ i, i < es.length -> (es.getD i []).length = k) (hx : ∀ i j, i < es.length -> j < k -> ∃ v, x[i * k + j]? = some v /\ VR (K.withRow g x n lo kr m) v ((es.getD i []).getD j .any))
    (hn : es.length * k <= n) (hc : es.length <= cap) (hr : r ≠ 0 -> r = K.nx /\ lo = es.length * k /\ kr = k /\ m = cap - es.length /\ K.base <= g) :
    VR (K.withRow g x n lo kr m) (.slice (some ⟨g, 0, none⟩) es.length cap) (.sl k es r) := by
  refine .sl g 0 k es r cap (fun i j => if i < es.length /\ j < k then x.getD (i * k + j) undef else undef) hk (fun i j hi hj => ?_) (fun i j => ?_) hc (fun h0 => ?_)
  · obtain ⟨v, hv, _⟩ := hx i j hi hj;have : i * k + j < n := by
      have h1 : i * k + k <= es.length * k := by rw [<- Nat.succ_mul]; exact Nat.mul_le_mul_right _ hi
      omega
    simp [Kn.withRow, this, hv, hi, hj, Array.getD_eq_getD_getElem?]
  · by_cases hi : i < es.length /\ j < k
    · obtain ⟨v, hv, hr⟩ := hx i j hi.1 hi.2;simp only [hi, and_self, if_true];simpa [Array.getD_eq_getD_getElem?, hv] using hr
    · have : (es.getD i []).getD j D.any = D.any := by
        by_cases h1 : i < es.length
        · have := hk i h1;have h2 : ¬ j < (es.getD i []).length := by omega
          simp [List.getD, h2] at h2 ⊢;simp [List.getElem?_eq_none h2]
        · simp [List.getD, h1]
      rw [this]; exact .any _
  · obtain ⟨rfl, rfl, rfl, rfl, hb⟩ := hr h0;exact ⟨by simp [Kn.withRow], by simp [Kn.withRow], hb⟩
def Kn.withObj (K : Kn) (g n : Nat) : Kn :=
  { K with io := fun i => if i = K.nx then g else K.io i
           sz := fun i => if i = K.nx then n else K.sz i
           nx := K.nx + 1 }
theorem Kn.withObj_ext (K : Kn) (g n : Nat) : Ext K (K.withObj g n) := by
  refine ⟨fun _ _ _ h => h, fun i hi => ?_, fun i hi => ?_, fun _ _ => rfl, Nat.le_succ _, rfl, rfl⟩ <;> simp [Kn.withObj, Nat.ne_of_lt hi]
theorem HR.fresh (H : HR K h w) : h K.nx = none := by
  cases hq : h K.nx with
  | none => rfl
  | some z => exact absurd (H.lt _ _ hq) (by omega)
theorem HR.obj (H : HR K h w) (x : Array Value) (t : TypeId) (cs : List D) (hl : cs.length <= x.size) (h1 : ∀ o, o < x.size -> (x.getD o undef).oneCell' = true) (hv : ∀ o, o < x.size -> VR K (x.getD o undef) (cs.getD o .any)) :
    HR (K.withObj w.heap.size x.size) (h.upd K.nx (some (.cells cs))) (w.alloc (.cells x t)) := by
  have E := Kn.withObj_ext K w.heap.size x.size;refine HR.change (C := fun i => i = K.nx) H E (Keep.alloc w _ (fun _ _ => False)) (fun _ _ h => h.elim) (fun j hj => .inl (Heap.upd_ne _ _ hj)) (fun b o v hv => .inl hv) ?_ (fun i y hi hy => ?_)
  · have := H.nz;have h0 : (0 : Nat) ≠ K.nx := by omega
    rw [Heap.upd_ne h _ h0]; exact H.z
  · subst hi;simp [Heap.upd_same] at hy;subst hy;have hio : (K.withObj w.heap.size x.size).io K.nx = w.heap.size := by simp [Kn.withObj]
    have hsz : (K.withObj w.heap.size x.size).sz K.nx = x.size := by simp [Kn.withObj]
    refine ⟨by simp [Kn.withObj], ?_, fun b o ho => ?_⟩
    · simp only [ObjOk, hio, hsz];refine ⟨hl, fun j hj => ⟨x[j], by rw [Id]; simp [hj], ?_, ?_⟩, ⟨_, PL w x t⟩, fun o => Nq w x t o⟩
      · simpa [Array.getD, hj] using h1 j hj
      · have := (hv j hj).mono E;simpa [Array.getD, hj] using this
    · have hb : b = w.heap.size := by simpa [own, hio] using ho
      subst hb;refine ⟨H.bs, ?_, fun j y _ hy hoy => absurd (G3 H hy hoy) (by omega), fun j y hj hne hy => absurd hj hne⟩
      cases hm : K.mu w.heap.size o with
      | none => exact hm
      | some v => exact absurd (NJ H hm) (by omega)
theorem HR.newObjN (N : Nat) (H : HR K h w) (ob : Obj) (y : AObj) (hy : ∀ cs, y ≠ .cells cs) (hr : y ≠ .room) (hok : ∀ K' : Kn, Ext K K' -> K'.io K.nx = w.heap.size -> ObjOk K' (w.alloc ob) K.nx y) (hb0 : ∀ p, y ≠ .box p := by intro _; simp) :
    HR (K.withObj w.heap.size N) (h.upd K.nx (some y)) (w.alloc ob) := by
  have E := Kn.withObj_ext K w.heap.size N;refine HR.change (C := fun i => i = K.nx) H E (Keep.alloc w _ (fun _ _ => False)) (fun _ _ h => h.elim) (fun j hj => .inl (Heap.upd_ne _ _ hj)) (fun b o v hv => .inl hv) ?_ (fun i z hi hz => ?_)
  · have := H.nz;have h0 : (0 : Nat) ≠ K.nx := by omega
    rw [Heap.upd_ne h _ h0]; exact H.z
  · subst hi;simp [Heap.upd_same] at hz;subst hz;have hio : (K.withObj w.heap.size N).io K.nx = w.heap.size := by simp [Kn.withObj]
    refine ⟨by simp [Kn.withObj], hok _ E hio, fun b o ho => ?_⟩;have hb : b = w.heap.size := by
      cases y with
      | room => exact absurd rfl hr
      | cells cs => exact absurd rfl (hy cs)
      | bytes cs => simpa [own, hio] using ho
      | lit cs => simpa [own, hio] using ho
      | map es c => simpa [own, hio] using ho
      | iter s p => simpa [own, hio] using ho
      | miter m q s p => simpa [own, hio] using ho
      | box p => exact absurd rfl (hb0 p)
    subst hb;refine ⟨H.bs, ?_, fun j y _ hy hoy => absurd (G3 H hy hoy) (by omega), fun j y hj hne hy => absurd hj hne⟩
    cases hm : K.mu w.heap.size o with
    | none => exact hm
    | some v => exact absurd (NJ H hm) (by omega)
theorem HR.newObj (H : HR K h w) (ob : Obj) (y : AObj) (hy : ∀ cs, y ≠ .cells cs) (hr : y ≠ .room) (hok : ∀ K' : Kn, Ext K K' -> K'.io K.nx = w.heap.size -> ObjOk K' (w.alloc ob) K.nx y) (hb0 : ∀ p, y ≠ .box p := by intro _; simp) :
    HR (K.withObj w.heap.size 0) (h.upd K.nx (some y)) (w.alloc ob) := HR.newObjN 0 H ob y hy hr hok hb0
theorem HR.newBox (H : HR K h w) (ob : Obj) (p : Box) (hok : ∀ K' : Kn, Ext K K' -> K'.io K.nx = w.heap.size -> p.ok K' (w.alloc ob) K.nx) (hown : ∀ K' : Kn, K'.io K.nx = w.heap.size -> ∀ b o, p.own K' K.nx b o -> b = w.heap.size) :
    HR (K.withObj w.heap.size 0) (h.upd K.nx (some (.box p))) (w.alloc ob) := by
  have E := Kn.withObj_ext K w.heap.size 0;refine HR.change (C := fun i => i = K.nx) H E (Keep.alloc w _ (fun _ _ => False)) (fun _ _ h => h.elim) (fun j hj => .inl (Heap.upd_ne _ _ hj)) (fun b o v hv => .inl hv) ?_ (fun i z hi hz => ?_)
  · have := H.nz;have h0 : (0 : Nat) ≠ K.nx := by omega
    rw [Heap.upd_ne h _ h0]; exact H.z
  · subst hi;simp [Heap.upd_same] at hz;subst hz;have hio : (K.withObj w.heap.size 0).io K.nx = w.heap.size := by simp [Kn.withObj]
    refine ⟨by simp [Kn.withObj], hok _ E hio, fun b o ho => ?_⟩;have hb : b = w.heap.size := hown _ hio b o ho;subst hb;refine ⟨H.bs, ?_, fun j y _ hy hoy => absurd (G3 H hy hoy) (by omega), fun j y hj hne hy => absurd hj hne⟩
    cases hm : K.mu w.heap.size o with
    | none => exact hm
    | some v => exact absurd (NJ H hm) (by omega)
theorem HR.setObj (H : HR K h w) {id : Nat} {x y : AObj} (hx : h id = some x) (hxr : x ≠ .room) (hxc : ∀ cs, x ≠ .cells cs) (hyr : y ≠ .room) (ob : Obj)
    (hok : ∀ K' : Kn, K' = K -> ObjOk K' { w with heap := w.heap.setIfInBounds (K.io id) ob } id y) (hxb : ∀ p, x ≠ .box p := by intro _; simp) (hyb : ∀ p, y ≠ .box p := by intro _; simp) :
    HR K (h.upd id (some y)) { w with heap := w.heap.setIfInBounds (K.io id) ob } := by
  have ownx : ∀ b o, own K id x b o ↔ b = K.io id := fun b o => by cases x <;> first | exact absurd rfl hxr | exact absurd rfl (hxb _) | exact Iff.rfl
  have owny : ∀ b o, own K id y b o ↔ b = K.io id := fun b o => by cases y <;> first | exact absurd rfl hyr | exact absurd rfl (hyb _) | exact Iff.rfl
  have hlt := G3 H hx ((ownx _ 0).2 rfl);have hkeep : Keep w { w with heap := w.heap.setIfInBounds (K.io id) ob } (fun b _ => b = K.io id) := by
    refine ⟨fun b o _ hb => ?_, fun b _ hb => ?_, by simp, rfl, rfl, rfl⟩
    · have hne : b ≠ K.io id := hb;simp [World.cell?, World.frozen?, Array.getElem?_setIfInBounds_ne (Ne.symm hne)]
    · have hne : b ≠ K.io id := fun e => hb 0 e;simp [Array.getElem?_setIfInBounds_ne (Ne.symm hne)]
  refine HR.change (C := fun i => i = id) H (Ext.refl K) hkeep (fun b o hb => ⟨id, x, rfl, hx, (ownx b o).2 hb⟩) (fun j hj => .inl (Heap.upd_ne _ _ hj)) (fun b o v hv => .inl hv) ?_ (fun i z hi hz => ?_)
  · have hne : (0 : Nat) ≠ id := fun e => by have := H.z; rw [e, hx] at this; simp at this
    rw [Heap.upd_ne h _ hne]; exact H.z
  · subst hi;simp [Heap.upd_same] at hz;subst hz;refine ⟨H.lt _ _ hx, hok K rfl, fun b o ho => ?_⟩;have hb := (owny b o).1 ho;have ho' := (ownx b o).2 hb;exact ⟨H.ge _ _ hx b o ho', H.nomu _ _ hx b o ho', fun j y hj hy hoy => H.sep _ _ _ _ (fun e => hj e.symm) hx hy b o ho' hoy, fun j y hj hne _ => absurd hj hne⟩
theorem SW {w : World} {g : Nat} {ob : Obj} (hg : g < w.heap.size) : ({ w with heap := w.heap.setIfInBounds g ob } : World).heap[g]? = some ob := by
  simp [hg]
def Fk (cs : List D) (off : Nat) (ds : List D) : List D := cs.take off ++ ds ++ cs.drop (off + ds.length)
theorem Eu {cs ds : List D} {off : Nat} (h : off + ds.length <= cs.length) : (Fk cs off ds).length = cs.length := by
  simp [Fk]; omega
theorem HB {cs ds : List D} {off : Nat} (h : off + ds.length <= cs.length) (j : Nat) :
    (Fk cs off ds).getD j .any = if off <= j /\ j < off + ds.length then ds.getD (j - off) .any else cs.getD j .any := by
  have ht : (cs.take off).length = off := by simp; omega
  simp only [Fk, List.getD_eq_getElem?_getD];by_cases h1 : j < off
  · rw [if_neg (by omega), List.append_assoc, List.getElem?_append_left (by omega), List.getElem?_take, if_pos h1]
  · by_cases h2 : j < off + ds.length
    · rw [if_pos ⟨by omega, h2⟩, List.append_assoc, List.getElem?_append_right (by omega), ht, List.getElem?_append_left (by omega)]
    · rw [if_neg (by omega), List.getElem?_append_right (by rw [bm, ht]; omega), bm, ht, List.getElem?_drop, show off + ds.length + (j - (off + ds.length)) = j by omega]
theorem Cb (b : Nat) : ∀ (vs : List Value) (o : Nat) (w : World), Keep w (w.setCells b o vs) (fun b' o' => b' = b /\ o <= o' /\ o' < o + vs.length)
  | [], o, w => Keep.refl w _
  | v :: r, o, w => by
    rw [World.setCells];refine ((Keep.setCell w b o v).mono (fun b' o' hb => ⟨hb.1, by simp; omega⟩)).trans ((Cb b r (o + 1) (w.setCell ⟨b, o, none⟩ v)).mono (fun b' o' hb => ⟨hb.1, by simp; omega⟩))
theorem En (b : Nat) : ∀ (vs : List Value) (o : Nat) (w : World) (g : Nat), (w.setCells b o vs).shape? g = w.shape? g
  | [], _, _, _ => rfl
  | v :: r, o, w, g => by
    rw [World.setCells, En b r];unfold World.shape? World.setCell;by_cases hg : g = b
    · subst hg;simp only [Array.getElem?_modify, if_true]
      cases hx : w.heap[g]? with
      | none => rfl
      | some o => cases o <;> simp
    · simp [Array.getElem?_modify, Ne.symm hg]
theorem FC (b : Nat) (vs : List Value) (o : Nat) (w : World) (hc : ∀ j, j < vs.length -> (w.cell? ⟨b, o + j, none⟩).isSome = true) (j : Nat) (hj : j < vs.length) : (w.setCells b o vs).cell? ⟨b, o + j, none⟩ = some (vs.getD j undef) := by
  have := World.cell?_setCells_in b vs o w hc j hj;rw [this]; simp [List.getD, hj]
theorem HR.store (H : HR K h w) {id off : Nat} {cs ds : List D} (hx : h id = some (.cells cs)) (hl : off + ds.length <= cs.length) {vs : List Value} (hvl : vs.length = ds.length) (h1 : ∀ v ∈ vs, v.oneCell' = true)
    (hv : ∀ j, VR K (vs.getD j undef) (ds.getD j .any)) : HR K (h.upd id (some (.cells (Fk cs off ds)))) (w.setCells (K.io id) off vs) := by
  obtain ⟨hsz, hcs, ⟨s, hsh⟩, hfz⟩ := H.ok id _ hx;refine HR.change (C := fun i => i = id) H (Ext.refl K) (Cb (K.io id) vs off w) (fun b o hb => ⟨id, _, rfl, hx, hb.1⟩) (fun j hj => .inl (Heap.upd_ne _ _ hj)) (fun b o v hv => .inl hv) ?_ (fun i y hi hy => ?_)
  · have hne : (0 : Nat) ≠ id := fun e => by have := H.z; rw [e, hx] at this; simp at this
    rw [Heap.upd_ne h _ hne]; exact H.z
  · subst hi;simp [Heap.upd_same] at hy;subst hy;refine ⟨H.lt _ _ hx, ⟨by rw [Eu hl]; exact hsz, fun j hj => ?_, ⟨s, by rw [En]; exact hsh⟩, fun o => by rw [World.frozen?_setCells]; exact hfz o⟩, fun b o ho => ⟨H.ge _ _ hx b o ho, H.nomu _ _ hx b o ho, fun j y hj hy hoy => H.sep _ _ _ _ (fun e => hj e.symm) hx hy b o ho hoy, fun j y hj hne _ => absurd hj hne⟩⟩;rw [HB hl];by_cases hr : off <= j /\ j < off + ds.length
    · rw [if_pos hr];have hj' : j - off < vs.length := by omega
      have := FC (K.io i) vs off w (fun q hq => by
        obtain ⟨v, hc, _⟩ := hcs (off + q) (by omega)
        simp [hc]) (j - off) hj'
      rw [show off + (j - off) = j by omega] at this;refine ⟨_, this, ?_, hv _⟩;exact h1 _ (by simp [List.getD, hj'])
    · rw [if_neg hr];obtain ⟨v, hc, h1c, hvc⟩ := hcs j hj;obtain ⟨e1, _⟩ := (Cb (K.io i) vs off w).cell (K.io i) j (cell?_lt hc) (fun hb => hr ⟨hb.2.1, by omega⟩);exact ⟨v, by rw [e1]; exact hc, h1c, hvc⟩
theorem HR.storeB (H : HR K h w) {id off : Nat} {cs ds : List D} (hx : h id = some (.bytes cs)) (hl : off + ds.length <= cs.length) {vs : List Value} (hvl : vs.length = ds.length) (h1 : ∀ v ∈ vs, v.oneCell' = true)
    (hv : ∀ j, VR K (vs.getD j undef) (ds.getD j .any)) : HR K (h.upd id (some (.bytes (Fk cs off ds)))) (w.setCells (K.io id) off vs) := by
  obtain ⟨hcs, ⟨s, hsh⟩, hfz⟩ := H.ok id _ hx;refine HR.change (C := fun i => i = id) H (Ext.refl K) (Cb (K.io id) vs off w) (fun b o hb => ⟨id, _, rfl, hx, hb.1⟩) (fun j hj => .inl (Heap.upd_ne _ _ hj)) (fun b o v hv => .inl hv) ?_ (fun i y hi hy => ?_)
  · have hne : (0 : Nat) ≠ id := fun e => by have := H.z; rw [e, hx] at this; simp at this
    rw [Heap.upd_ne h _ hne]; exact H.z
  · subst hi;simp [Heap.upd_same] at hy;subst hy;refine ⟨H.lt _ _ hx, ⟨fun j hj => ?_, ⟨s, by rw [En]; exact hsh⟩, fun o ho => by rw [World.frozen?_setCells]; exact hfz o (by rw [Eu hl] at ho; exact ho)⟩, fun b o ho => ⟨H.ge _ _ hx b o ho, H.nomu _ _ hx b o ho, fun j y hj hy hoy => H.sep _ _ _ _ (fun e => hj e.symm) hx hy b o ho hoy, fun j y hj hne _ => absurd hj hne⟩⟩;rw [Eu hl] at hj;rw [HB hl];by_cases hr : off <= j /\ j < off + ds.length
    · rw [if_pos hr];have hj' : j - off < vs.length := by omega
      have := FC (K.io i) vs off w (fun q hq => by
        obtain ⟨v, hc, _⟩ := hcs (off + q) (by omega)
        simp [hc]) (j - off) hj'
      rw [show off + (j - off) = j by omega] at this;refine ⟨_, this, ?_, hv _⟩;exact h1 _ (by simp [List.getD, hj'])
    · rw [if_neg hr];obtain ⟨v, hc, h1c, hvc⟩ := hcs j hj;obtain ⟨e1, _⟩ := (Cb (K.io i) vs off w).cell (K.io i) j (cell?_lt hc) (fun hb => hr ⟨hb.2.1, by omega⟩);exact ⟨v, by rw [e1]; exact hc, h1c, hvc⟩
end
end Go.Proofs.YtjofelloaofooaaGreatDoor
