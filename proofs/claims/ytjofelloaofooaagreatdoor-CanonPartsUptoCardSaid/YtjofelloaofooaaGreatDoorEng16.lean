/- From the abstract machine back to a law's row: the memory at the begin, how its arguments read, that all stays. No condition. -/
import Derived.RowKit3
import Derived.Below
import Derived.ChangeArms
import Derived.OpenShut
import Derived.DataShut
import Derived.Test.YtjofelloaofooaaGreatDoorEng15
set_option linter.unusedSimpArgs false
set_option linter.unusedVariables false
namespace Go.Proofs.YtjofelloaofooaaGreatDoor
def Kn.init (w : World) : Kn :=
  { mu := fun b o => match w.cell? ⟨b, o, none⟩ with
      | some v => if v.oneCell' = true then some v else none
      | none => none
    io := fun _ => 0, sz := fun _ => 0, ro := fun _ => ⟨0, 0, 0, 0⟩, nx := 1, base := w.heap.size
    old := ⟨fun b => w.heap[b]?, w.os, w.output, w.tape⟩ }
theorem HR.init (w : World) (ht : ∀ u : World, (∀ b, b < w.heap.size -> u.heap[b]? = w.heap[b]?) -> Tabs u) : HR (Kn.init w) (fun _ => none) w := by
  refine ⟨by simp, Nat.one_pos, fun b o v hm => ?_, Nat.le_refl _, fun _ _ => rfl, by simp, by simp, by simp, by simp, rfl, ⟨rfl, rfl, rfl⟩, ht⟩;simp only [Kn.init] at hm;split at hm
  · rename_i u hu;split at hm
    · rename_i h1;injection hm with hm; subst hm
      exact ⟨hu, h1⟩
    · simp at hm
  · simp at hm
theorem Oe {w : World} {b o : Nat} {v : Value} (hc : w.cell? ⟨b, o, none⟩ = some v) (h1 : v.oneCell' = true) : (Kn.init w).mu b o = some v := by
  simp [Kn.init, hc, h1]
theorem HR.below {K : Kn} {h : Heap} {w w0 : World} (H : HR K h w) (E : Ext (Kn.init w0) K) : RowKit.Below w0.heap.size w0 w := by
  have hb : K.base = w0.heap.size := E.base;have ho : K.old = ⟨fun b => w0.heap[b]?, w0.os, w0.output, w0.tape⟩ := E.old;have ev := H.ev;have old := H.old;rw [ho] at ev old;exact ⟨ev.1, ev.2.2, ev.2.1, by rw [<- hb]; exact H.bs, fun k hk => old k (by rw [hb]; exact hk)⟩
theorem CallsA.ent {P : Program} {f : FuncId} {args : List D} {h : Heap} {R : D -> Heap -> Prop} (c : CallsA P f args h R) (he : Ds P f = true) : CallsB P f args h R := by
  rcases c with c | c
  · exact c
  · refine ⟨he, fun K w vs H hl hv => ?_⟩;exfalso;obtain ⟨v, w', d, K', h', hr, _⟩ := c K w vs H hl hv;unfold Ds at he;split at he
    · rename_i fn hfn;simp only [Bool.and_eq_true, Bool.not_eq_true'] at he;obtain ⟨hb1, hb2⟩ := he;have hbn : fn.body ≠ none := fun e => by simp [e] at hb1
      have hne : fn.name ≠ "runtime.NumGoroutine" := by simpa using hb2
      simp [callFunc, hfn, hne, hbn] at hr
    · simp at he
theorem Ot {P : Program} {f : FuncId} {args : List D} {vs : Array Value} {W : World} (ht : ∀ u : World, (∀ b, b < W.heap.size -> u.heap[b]? = W.heap[b]?) -> Tabs u) (c : ∀ h : Heap, CallsA P f args h fun d _ => d = .bool true)
    (hl : vs.size = args.length) (hv : ∀ i, VR (Kn.init W) (vs.getD i undef) (args.getD i .any)) (he : Ds P f = true := by kernel_rfl) : Calls P f vs W fun e W' => e = .returned (.bool true) /\ RowKit.Below W.heap.size W W' :=
  (((c (fun _ => none)).ent he).2 (Kn.init W) W vs (HR.init W ht) hl hv).mono fun e W' ⟨v, d, K', h', he, E, H, hvd, hd⟩ => by
    subst hd;cases hvd;exact ⟨he, H.below E⟩
inductive LR (K : Kn) : List Value -> List D -> Prop
  | nil : LR K [] []
  | cons {v : Value} {d : D} {vs : List Value} {ds : List D} (h1 : v.oneCell' = true) (hv : VR K v d) (r : LR K vs ds) : LR K (v :: vs) (d :: ds)
theorem LR.one {K : Kn} {v : Value} {d : D} (hd : d.one = true) (hv : VR K v d) : LR K [v] [d] := .cons (hv.one hd) hv .nil
theorem LR.length {K : Kn} : ∀ {vs : List Value} {ds : List D}, LR K vs ds -> vs.length = ds.length
  | _, _, .nil => rfl
  | _, _, .cons _ _ r => by simp [r.length]
theorem LR.append {K : Kn} : ∀ {vs : List Value} {ds : List D} {us : List Value} {es : List D}, LR K vs ds -> LR K us es -> LR K (vs ++ us) (ds ++ es)
  | _, _, _, _, .nil, g => g
  | _, _, _, _, .cons h1 hv r, g => .cons h1 hv (r.append g)
theorem LR.get {K : Kn} : ∀ {vs : List Value} {ds : List D}, LR K vs ds -> ∀ i, VR K (vs.getD i undef) (ds.getD i .any) /\ (i < vs.length -> (vs.getD i undef).oneCell' = true)
  | _, _, .nil, i => ⟨by simp; exact .any _, fun h => by simp at h⟩
  | _, _, .cons h1 hv r, 0 => ⟨by simpa using hv, fun _ => by simpa using h1⟩
  | _, _, .cons h1 hv r, i + 1 => ⟨by simpa using (r.get i).1, fun h => by simpa using (r.get i).2 (by simpa using h)⟩
theorem LR.agg {K : Kn} {cs : Array Value} {ds : List D} (h : LR K cs.toList ds) : VR K (.agg cs) (.agg ds) := by
  refine .agg cs ds (by simpa using h.length) (fun i hi => ?_) (fun i => ?_)
  · have := (h.get i).2 (by simpa using hi);simpa [Array.getD_eq_getD_getElem?, List.getD_eq_getElem?_getD] using this
  · have := (h.get i).1;simpa [Array.getD_eq_getD_getElem?, List.getD_eq_getElem?_getD] using this
theorem LR.val {K : Kn} {v : Value} {d : D} (h : LR K [v] [d]) : VR K v d := by
  cases h with
  | cons h1 hv r => exact hv
section
variable {H : Type} {enc : TypeId × Value -> H} {P : Program} {w : World} {base : Nat} {spare : Nat -> Bool} {held : Bool} {fuel : Nat} {t : TypeId} {cs : List Value} {x : DataW H × List MemPlace}
def Rds (enc : TypeId × Value -> H) (P : Program) (w : World) (base : Nat) (spare : Nat -> Bool) (held : Bool) (t : TypeId) {X : Type} (ok : X -> Prop) (c : X -> List D) : Prop :=
  ∀ fuel cs x, DataW.trod enc P w base spare held fuel t cs = some x -> ∃ y, ok y /\ LR (Kn.init w) cs (c y)
def okI (k : IntKind) (n : Int) : Prop := k.min <= n /\ n <= k.max
theorem rd_int {k : IntKind} (ht : P.underlying t = some (.int k)) : Rds enc P w base spare held t (okI k) (fun n => [.int k n]) := fun fuel cs x h => by
  obtain ⟨n, rfl, _, hw⟩ := DataW.trod_int ht h;exact ⟨n, (Lit.wf_int_iff k n).1 hw, .one rfl (.int k n)⟩
theorem rd_str (ht : P.underlying t = some .string) : Rds enc P w base spare held t (fun s : List By8 => s.length <= 9223372036854775807) (fun s => [.str s]) := fun fuel cs x h => by
  obtain ⟨s, rfl, _, hw⟩ := DataW.trod_string ht h;refine ⟨s.data.toList, ?_, .one rfl ?_⟩
  · unfold maxLen at hw;have : s.data.toList.length = s.size := by rw [Array.length_toList]; rfl
    omega
  · exact VR.str s.data.toList
theorem rd_slice {e : TypeId} {X : Type} {ok : X -> Prop} {c : X -> List D} {k : Nat} (ht : P.underlying t = some (.slice e)) (hk : P.cellsOf e = k) (hk0 : 0 < k) (hc : ∀ y, ok y -> (c y).length = k)
    (hE : Rds enc P w base (fun _ => true) held e ok c) : Rds enc P w base (fun _ => true) held t (fun l : List X => (∀ y ∈ l, ok y) /\ l.length <= 9223372036854775807) (fun l => [.sl k (l.map c) 0]) := fun fuel cs x h => by
  rcases DataW.trod_slice ht h with ⟨rfl, _⟩ | ⟨a, len, cap, elems, rest, n, _, rfl, _, hb, hl, hm, hlen, hel, hsp, _⟩
  · exact ⟨[], ⟨by simp, by simp⟩, .one rfl (.slz k none)⟩
  · have hm' : len <= 9223372036854775807 := by unfold maxLen at hm; omega
    rcases Nat.eq_zero_or_pos cap with h0 | h0
    · have : len = 0 := by omega
      subst h0 this;exact ⟨[], ⟨by simp, by simp⟩, .one rfl (.slz k (some a))⟩
    · rw [hk] at hel hsp;have each : ∀ i, i < len -> ∃ csi y, w.cells? base (a.add (i * k)) k = some csi /\ ok y /\ LR (Kn.init w) csi (c y) := fun i hi => by
        have h1 := hel i hi;have h2 : elems[i]? = some elems[i] := by rw [List.getElem?_eq_getElem]
        rw [h2, Option.bind_eq_some_iff] at h1;obtain ⟨csi, h3, h4⟩ := h1;obtain ⟨y, hy, hr⟩ := hE n csi _ h4;exact ⟨csi, y, h3, hy, hr⟩
      have hspot : a.spot = none := by
        have hz : ∃ csi, w.cells? base (a.add (0 * k)) k = some csi := by
          rcases Nat.eq_zero_or_pos len with hl0 | hl0
          · obtain ⟨hrl, hr⟩ := hsp rfl;have h1 := hr 0 (by omega);have hlt : 0 < rest.length := by omega
            rw [List.getElem?_eq_getElem hlt, Option.bind_eq_some_iff] at h1;obtain ⟨csi, h3, _⟩ := h1;exact ⟨csi, by rw [hl0] at h3; exact h3⟩
          · obtain ⟨csi, _, h3, _⟩ := each 0 hl0;exact ⟨csi, h3⟩
        obtain ⟨csi, hz⟩ := hz;obtain ⟨_, hlc, hcell⟩ := World.cells?_some hz;have h1 := hcell 0 (by omega);have hlt : 0 < csi.length := by omega
        rw [List.getElem?_eq_getElem hlt] at h1;have e1 : ((a.add (0 * k)).add 0) = a := by simp [Addr.add]
        rw [e1] at h1
        cases hs : a.spot with
        | none => rfl
        | some q =>
          unfold World.cell? at h1;simp only [hs, Option.isSome_some, if_true] at h1;split at h1 <;> simp at h1
      obtain ⟨b, o, sp⟩ := a;simp only at hspot;subst hspot;have hex : ∀ i : Fin len, ∃ y, ok y /\ ∃ csi, w.cells? base (⟨b, o + i.1 * k, none⟩ : Addr) k = some csi /\ LR (Kn.init w) csi (c y) := fun i => by
        obtain ⟨csi, y, h1, h2, h3⟩ := each i.1 i.2;rw [CP] at h1;exact ⟨y, h2, csi, h1, h3⟩
      have hch : ∃ (f : Fin len -> X) (g : Fin len -> List Value), ∀ i, ok (f i) /\ w.cells? base (⟨b, o + i.1 * k, none⟩ : Addr) k = some (g i) /\ LR (Kn.init w) (g i) (c (f i)) :=
        ⟨fun i => Classical.choose (hex i), fun i => Classical.choose (Classical.choose_spec (hex i)).2, fun i => by
          obtain ⟨h1, h2⟩ := Classical.choose_spec (hex i);obtain ⟨h3, h4⟩ := Classical.choose_spec h2
          exact ⟨h1, h3, h4⟩⟩
      obtain ⟨f, g, hf⟩ := hch;have hget : ∀ i (hi : i < len), ((List.ofFn f).map c).getD i [] = c (f ⟨i, hi⟩) := fun i hi => by simp [List.getD, hi]
      have hge : ∀ i, ¬ i < len -> ((List.ofFn f).map c).getD i [] = [] := fun i hi => by simp [List.getD, hi]
      refine ⟨List.ofFn f, ⟨fun y hy => ?_, by simpa using hm'⟩, .one rfl ?_⟩
      · obtain ⟨i, rfl⟩ := List.mem_ofFn.1 hy;exact (hf i).1
      · let vs : Nat -> Nat -> Value := fun i j => if h : i < len /\ j < k then (g ⟨i, h.1⟩).getD j undef else undef
        have := VR.sl (K := Kn.init w) b o k ((List.ofFn f).map c) 0 cap vs (fun i hi => by
            have hi' : i < len := by simpa using hi
            rw [hget i hi']; exact hc _ (hf _).1)
          (fun i j hi hj => by
            have hi' : i < len := by simpa using hi
            obtain ⟨_, h1, h2⟩ := hf ⟨i, hi'⟩;have hv : vs i j = (g ⟨i, hi'⟩).getD j undef := by simp [vs, hi', hj]
            obtain ⟨_, hlc, hcell⟩ := World.cells?_some h1;have h3 := hcell j hj;have hj' : j < (g ⟨i, hi'⟩).length := by omega
            rw [List.getElem?_eq_getElem hj', CP] at h3;have e : (g ⟨i, hi'⟩).getD j undef = (g ⟨i, hi'⟩)[j] := by simp [List.getD, hj']
            rw [hv, e];refine Oe h3 ?_;have := (h2.get j).2 hj'
            rwa [e] at this)
          (fun i j => by
            by_cases hi : i < len
            · rw [hget i hi];obtain ⟨h0, h1, h2⟩ := hf ⟨i, hi⟩;by_cases hj : j < k
              · have hv : vs i j = (g ⟨i, hi⟩).getD j undef := by simp [vs, hi, hj]
                rw [hv]; exact (h2.get j).1
              · have hcl := hc _ h0;have : (c (f ⟨i, hi⟩)).getD j D.any = D.any := by
                  simp [List.getD, List.getElem?_eq_none (by omega : (c (f ⟨i, hi⟩)).length <= j)]
                rw [this]; exact .any _
            · rw [hge i hi]; simp; exact .any _)
          (by simpa using hl) (by simp)
        simpa using this
inductive RdF (enc : TypeId × Value -> H) (P : Program) (w : World) (base : Nat) (spare : Nat -> Bool) (held : Bool) : (off : Nat) -> List Field -> {X : Type} -> (X -> Prop) -> (X -> List D) -> Prop
  | nil {off : Nat} : RdF enc P w base spare held off [] (fun _ : Unit => True) (fun _ => [])
  | cons {off k : Nat} {f : Field} {fs : List Field} {X Y : Type} {ok : X -> Prop} {c : X -> List D} {ok' : Y -> Prop} {c' : Y -> List D} (ho : f.offset = off) (hk : P.cellsOf f.type = k)
      (h : Rds enc P w base spare held f.type ok c) (r : RdF enc P w base spare held (off + k) fs ok' c') : RdF enc P w base spare held off (f :: fs) (fun y : X × Y => ok y.1 /\ ok' y.2) (fun y => c y.1 ++ c' y.2)
theorem RdF.read {off : Nat} {fs : List Field} {X : Type} {ok : X -> Prop} {c : X -> List D} (r : RdF enc P w base spare held off fs ok c) : ∀ (n : Nat) (cs : List Value) (xs : List (DataW H × List MemPlace)),
    (∀ (i : Nat) (f : Field), fs[i]? = some f -> DataW.trod enc P w base spare held n f.type ((cs.drop f.offset).take (P.cellsOf f.type)) = xs[i]?) -> xs.length = fs.length ->
    cs.length = off + (fs.map fun f : Field => P.cellsOf f.type).sum -> ∃ y, ok y /\ LR (Kn.init w) (cs.drop off) (c y) := by
  induction r with
  | nil => intro n cs xs _ _ hl; exact ⟨(), trivial, by simp at hl; rw [List.drop_of_length_le (by omega)]; exact .nil⟩
  | @cons off k f fs X Y ok c ok' c' ho hk h r ih =>
    intro n cs xs hx hxl hl
    cases xs with
    | nil => simp at hxl
    | cons x xs =>
      have h0 := hx 0 f rfl;simp only [List.getElem?_cons_zero] at h0;obtain ⟨y, hy, hr⟩ := h n _ _ h0
      obtain ⟨z, hz, hs⟩ := ih n cs xs (fun i g hg => by simpa using hx (i + 1) g (by simpa using hg)) (by simpa using hxl) (by
        simp only [List.map_cons, List.sum_cons, hk] at hl; omega)
      refine ⟨(y, z), ⟨hy, hz⟩, ?_⟩;rw [ho, hk] at hr;have := hr.append hs
      rwa [<- List.drop_drop, List.take_append_drop] at this
theorem rd_struct {fs : Array Field} {X Y : Type} {ok : X -> Prop} {c : X -> List D} {ok' : Y -> Prop} {c' : Y -> List D} (ht : P.underlying t = some (.struct fs)) (r : RdF enc P w base spare held 0 fs.toList ok c)
    (hl : P.cellsOf t = (fs.toList.map fun f : Field => P.cellsOf f.type).sum) (g : X -> Y) (hg : ∀ y, ok y -> ok' (g y) /\ c' (g y) = c y) : Rds enc P w base spare held t ok' c' := fun fuel cs x h => by
  obtain ⟨xs, n, _, _, hlen, hxl, hx⟩ := DataW.trod_struct ht h;obtain ⟨y, hy, hr⟩ := r.read n cs xs (fun i f hf => hx i f (by simpa using hf)) (by simpa using hxl) (by rw [hlen, hl]; omega);obtain ⟨h1, h2⟩ := hg y hy;exact ⟨g y, h1, by rw [h2]; simpa using hr⟩
end
end Go.Proofs.YtjofelloaofooaaGreatDoor
