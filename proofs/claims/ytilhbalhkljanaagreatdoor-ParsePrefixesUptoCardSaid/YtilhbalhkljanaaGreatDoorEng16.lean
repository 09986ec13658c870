/- From the abstract machine back to a law's row: the memory at the begin, how its arguments read, that all stays. No condition. -/
import Derived.Test.YtilhbalhkljanaaGreatDoorEng15
import Derived.RowKit3
import Derived.Below
import Derived.ChangeArms
import Derived.OpenShut
import Derived.DataShut
set_option linter.unusedSimpArgs false
set_option linter.unusedVariables false
namespace Go.Proofs.YtilhbalhkljanaaGreatDoor
def Kn.init (w : World) : Kn :=
  { mu := fun b o => match w.cell? ⟨b, o, none⟩ with
      | some v => if v.oneCell' = true then some v else none
      | none => none
    io := fun _ => 0, sz := fun _ => 0, ro := fun _ => ⟨0, 0, 0, 0⟩, nx := 1, base := w.heap.size
    old := ⟨fun b => w.heap[b]?, w.os, w.output, w.tape⟩ }
theorem HR.init (w : World) (ht : ∀ u : World, (∀ b, b < w.heap.size → u.heap[b]? = w.heap[b]?) → Tabs u) : HR (Kn.init w) (fun _ => none) w := by
  refine ⟨by simp, Nat.one_pos, fun b o v hm => ?_, Nat.le_refl _, fun _ _ => rfl, by simp, by simp, by simp, by simp, rfl, ⟨rfl, rfl, rfl⟩, ht⟩
  simp only [Kn.init] at hm
  split at hm
  · rename_i u hu
    split at hm
    · rename_i h1
      injection hm with hm; subst hm
      exact ⟨hu, h1⟩
    · simp at hm
  · simp at hm
theorem HR.below {K : Kn} {h : Heap} {w w0 : World} (H : HR K h w) (E : Ext (Kn.init w0) K) : RowKit.Below w0.heap.size w0 w := by
  have hb : K.base = w0.heap.size := E.base
  have ho : K.old = ⟨fun b => w0.heap[b]?, w0.os, w0.output, w0.tape⟩ := E.old
  have ev := H.ev
  have old := H.old
  rw [ho] at ev old
  exact ⟨ev.1, ev.2.2, ev.2.1, by rw [← hb]; exact H.bs, fun k hk => old k (by rw [hb]; exact hk)⟩
theorem CallsA.ent {P : Program} {f : FuncId} {args : List D} {h : Heap} {R : D → Heap → Prop} (c : CallsA P f args h R) (he : entD P f = true) : CallsB P f args h R := by
  rcases c with c | c
  · exact c
  · refine ⟨he, fun K w vs H hl hv => ?_⟩
    exfalso
    obtain ⟨v, w', d, K', h', hr, _⟩ := c K w vs H hl hv
    unfold entD at he
    split at he
    · rename_i fn hfn
      simp only [Bool.and_eq_true, Bool.not_eq_true'] at he
      obtain ⟨hb1, hb2⟩ := he
      have hbn : fn.body ≠ none := fun e => by simp [e] at hb1
      have hne : fn.name ≠ "runtime.NumGoroutine" := by simpa using hb2
      simp [callFunc, hfn, hne, hbn] at hr
    · simp at he
theorem law_calls {P : Program} {f : FuncId} {args : List D} {vs : Array Value} {W : World} (ht : ∀ u : World, (∀ b, b < W.heap.size → u.heap[b]? = W.heap[b]?) → Tabs u) (c : ∀ h : Heap, CallsA P f args h fun d _ => d = .bool true)
    (hl : vs.size = args.length) (hv : ∀ i, VR (Kn.init W) (vs.getD i undef) (args.getD i .any)) (he : entD P f = true := by kernel_rfl) : Calls P f vs W fun e W' => e = .returned (.bool true) ∧ RowKit.Below W.heap.size W W' :=
  (((c (fun _ => none)).ent he).2 (Kn.init W) W vs (HR.init W ht) hl hv).mono fun e W' ⟨v, d, K', h', he, E, H, hvd, hd⟩ => by
    subst hd
    cases hvd
    exact ⟨he, H.below E⟩
inductive LR (K : Kn) : List Value → List D → Prop
  | nil : LR K [] []
  | cons {v : Value} {d : D} {vs : List Value} {ds : List D} (h1 : v.oneCell' = true) (hv : VR K v d) (r : LR K vs ds) : LR K (v :: vs) (d :: ds)
theorem LR.one {K : Kn} {v : Value} {d : D} (hd : d.one = true) (hv : VR K v d) : LR K [v] [d] := .cons (hv.one hd) hv .nil
theorem LR.length {K : Kn} : ∀ {vs : List Value} {ds : List D}, LR K vs ds → vs.length = ds.length
  | _, _, .nil => rfl
  | _, _, .cons _ _ r => by simp [r.length]
theorem LR.append {K : Kn} : ∀ {vs : List Value} {ds : List D} {us : List Value} {es : List D}, LR K vs ds → LR K us es → LR K (vs ++ us) (ds ++ es)
  | _, _, _, _, .nil, g => g
  | _, _, _, _, .cons h1 hv r, g => .cons h1 hv (r.append g)
theorem LR.get {K : Kn} : ∀ {vs : List Value} {ds : List D}, LR K vs ds → ∀ i, VR K (vs.getD i undef) (ds.getD i .any) ∧ (i < vs.length → (vs.getD i undef).oneCell' = true)
  | _, _, .nil, i => ⟨by simp; exact .any _, fun h => by simp at h⟩
  | _, _, .cons h1 hv r, 0 => ⟨by simpa using hv, fun _ => by simpa using h1⟩
  | _, _, .cons h1 hv r, i + 1 => ⟨by simpa using (r.get i).1, fun h => by simpa using (r.get i).2 (by simpa using h)⟩
theorem LR.agg {K : Kn} {cs : Array Value} {ds : List D} (h : LR K cs.toList ds) : VR K (.agg cs) (.agg ds) := by
  refine .agg cs ds (by simpa using h.length) (fun i hi => ?_) (fun i => ?_)
  · have := (h.get i).2 (by simpa using hi)
    simpa [Array.getD_eq_getD_getElem?, List.getD_eq_getElem?_getD] using this
  · have := (h.get i).1
    simpa [Array.getD_eq_getD_getElem?, List.getD_eq_getElem?_getD] using this
theorem LR.val {K : Kn} {v : Value} {d : D} (h : LR K [v] [d]) : VR K v d := by
  cases h with
  | cons h1 hv r => exact hv
section
variable {H : Type} {enc : TypeId × Value → H} {P : Program} {w : World} {base : Nat} {spare : Nat → Bool} {held : Bool} {fuel : Nat} {t : TypeId} {cs : List Value} {x : DataW H × List MemPlace}
def Rds (enc : TypeId × Value → H) (P : Program) (w : World) (base : Nat) (spare : Nat → Bool) (held : Bool) (t : TypeId) {X : Type} (ok : X → Prop) (c : X → List D) : Prop :=
  ∀ fuel cs x, DataW.trod enc P w base spare held fuel t cs = some x → ∃ y, ok y ∧ LR (Kn.init w) cs (c y)
def okI (k : IntKind) (n : Int) : Prop := k.min ≤ n ∧ n ≤ k.max
theorem rd_str (ht : P.underlying t = some .string) : Rds enc P w base spare held t (fun s : List UInt8 => s.length ≤ 9223372036854775807) (fun s => [.str s]) := fun fuel cs x h => by
  obtain ⟨s, rfl, _, hw⟩ := DataW.trod_string ht h
  refine ⟨s.data.toList, ?_, .one rfl ?_⟩
  · unfold maxLen at hw
    have : s.data.toList.length = s.size := by rw [Array.length_toList]; rfl
    omega
  · exact VR.str s.data.toList
inductive RdF (enc : TypeId × Value → H) (P : Program) (w : World) (base : Nat) (spare : Nat → Bool) (held : Bool) : (off : Nat) → List Field → {X : Type} → (X → Prop) → (X → List D) → Prop
  | nil {off : Nat} : RdF enc P w base spare held off [] (fun _ : Unit => True) (fun _ => [])
  | cons {off k : Nat} {f : Field} {fs : List Field} {X Y : Type} {ok : X → Prop} {c : X → List D} {ok' : Y → Prop} {c' : Y → List D} (ho : f.offset = off) (hk : P.cellsOf f.type = k)
      (h : Rds enc P w base spare held f.type ok c) (r : RdF enc P w base spare held (off + k) fs ok' c') : RdF enc P w base spare held off (f :: fs) (fun y : X × Y => ok y.1 ∧ ok' y.2) (fun y => c y.1 ++ c' y.2)
end
end Go.Proofs.YtilhbalhkljanaaGreatDoor
