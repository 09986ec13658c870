/- A law's row: all its arguments read as they did; how a byte slice reads. No condition. -/
import Derived.Test.YtoacaikopcdkmaaGreatZ31
import Derived.Test.YtoacaikopcdkmaaGreatRows
import Derived.RowKit3
import Derived.ChangeArms
import Derived.OpenShut
import Derived.DataShut
import Derived.WalkKit
import Derived.ProofKit
import Derived.WideKeyArgs
import Derived.JoinedCond
import Derived.PinnedBridge
import Derived.LaidLaws
import Derived.Lay
import Derived.Deep.DeepHandedRow
set_option linter.unusedSimpArgs false
set_option linter.unusedVariables false
namespace Go.Proofs.YtoacaikopcdkmaaGreat
open Go.ChangeShapes Go.WideShapes Go.ChangeAt Go.RowKit
section
variable {H : Type} {enc : TypeId × Value → H} {P : Program}

theorem trodAll_stays (hl : laidOutB P = true) {W W' : World} {sp : Nat → Bool} : ∀ {ts : List TypeId} {vs : List Value} {ds : List (DataW H)} {ps : List MemPlace}, (∀ t ∈ ts, P.readableRec t = true ∧ t < P.types.size) →
    DataW.TrodAll enc P W 0 (fun _ => true) true ts vs ds ps → (∀ p ∈ ps, W.sameAt W' p) → (∀ p ∈ ps, sp p.block = true) → DataW.TrodAll enc P W' 0 sp true ts vs ds ps
  | [], [], [], ps, _, h, _, _ => h
  | t :: ts, v :: vs, d :: ds, ps, ht, ⟨p, q, h1, h2, e⟩, hs, hsp => by
    subst e
    exact ⟨p, q, WideElems.Trod_stays hl (ht t (by simp)).1 (ht t (by simp)).2 h1 (fun x hx => hs x (by simp [hx])) (fun x hx => hsp x (by simp [hx])),
      trodAll_stays hl (fun u hu => ht u (by simp [hu])) h2 (fun x hx => hs x (by simp [hx])) (fun x hx => hsp x (by simp [hx])), rfl⟩
  | [], [], _ :: _, _, _, h, _, _ => h.elim
  | [], _ :: _, _, _, _, h, _, _ => h.elim
  | _ :: _, [], _, _, _, h, _, _ => h.elim
  | _ :: _, _ :: _, [], _, _, h, _, _ => h.elim

theorem post_of_below {f : Func} {s : ChangeSpec} {apart fresh handsOn again : Bool} {W W' : World} {args : Array Value} {v : Value} {ds gs : List (DataW H)} {before pa pv : List MemPlace}
    (hW : DataW.Whole enc P f.params.toList s.vars apart W args.toList ds gs before)
    (hres : ∀ (b : Nat) (sp : Nat → Bool) (hd : Bool), DataW.TrodAll enc P W' b sp hd f.resultTypes.toList (v.resultList f.resultTypes.size) (s.fn H (ds ++ gs)).results [])
    (hargs : ∀ sp : Nat → Bool, (∀ p ∈ before, sp p.block = true) → DataW.TrodAll enc P W' 0 sp true f.params.toList args.toList (s.fn H (ds ++ gs)).args pa)
    (hvars : ∀ sp : Nat → Bool, (∀ p ∈ before, sp p.block = true) → DataW.TrodVars enc P W' sp s.vars (s.fn H (ds ++ gs)).vars pv)
    (hps : before = pa ++ pv) (hb : Below W.heap.size W W')
    (hok : ∀ (j : Nat) (t : TypeId) (r : Value), f.resultTypes[j]? = some t → (v.resultList f.resultTypes.size)[j]? = some r → Value.okWide P W' .any 0 t r) :
    s.post enc P f apart fresh handsOn again W args v W' := by
  have hlt : ∀ p ∈ before, p.block < W.heap.size := fun p hp => hW.lt p hp
  have hold : ∀ p ∈ before, (fun b => decide (b < W.heap.size)) p.block = true := fun p hp => by simpa using hlt p hp
  refine ⟨ds, gs, before, [], pa, pv, hW, hres _ _ _, hargs _ hold, hvars _ hold, World.keptBut_mono (fun p hp => ⟨hp, ?_⟩) (hb.frame (· ∈ before)), fun _ => ?_⟩
  · rw [hps, List.mem_append] at hp
    exact Or.inr hp
  · obtain ⟨_, _, _, _, _, hz, hn⟩ := hW
    refine ⟨hok, _, _, ([] ++ pa) ++ pv, ⟨[] ++ pa, pv, trodAll_append (hargs _ (fun _ _ => rfl)) (hres _ _ _), hvars _ (fun _ _ => rfl), rfl, ?_, ?_⟩, ?_⟩
    · intro b off hp
      have hin : MemPlace.cell b off ∈ before := by rw [hps]; simpa using hp
      rw [hb.frozen (hlt _ hin)]
      exact hz b off hin
    · intro ha
      have := hn ha
      rw [hps] at this
      simpa using this
    · intro p hp _
      rw [hps]
      simpa using hp

theorem law_post {f : Func} {s : ChangeSpec} {tb : TypeId} {apart fresh handsOn again : Bool} {W W' : World} {args : Array Value} {ds gs : List (DataW H)} {before : List MemPlace} (hl : laidOutB P = true)
    (hp : f.params.all (fun t => P.readableRec t && decide (t < P.types.size)) = true) (hr : f.resultTypes = #[tb]) (hb : P.underlying tb = some .bool) (hv : s.vars = [])
    (hW : DataW.Whole enc P f.params.toList s.vars apart W args.toList ds gs before) (hfn : s.fn H (ds ++ gs) = { results := [.lit (.bool true)], args := ds })
    (hb' : Below W.heap.size W W') : s.post enc P f apart fresh handsOn again W args (.bool true) W' := by
  have hlt := hW.lt
  obtain ⟨pa, pv, hA, hV, hps, hfz, hnd⟩ := hW
  have hVV := hV
  rw [hv] at hV
  obtain ⟨rfl, rfl⟩ := trodVars_none hV
  have hW' : DataW.Whole enc P f.params.toList s.vars apart W args.toList ds [] before := ⟨pa, [], hA, hVV, hps, hfz, hnd⟩
  simp only [List.append_nil] at hps
  subst hps
  refine post_of_below (pa := before) (pv := []) hW' (fun b sp hd => ?_) (fun sp hsp => ?_) (fun sp hsp => ?_) (by simp) hb' ?_
  · rw [hfn, hr]
    exact trodAll_cons_mk (shut_bool hb _) trodAll_mk0
  · rw [hfn]
    refine trodAll_stays hl (fun t ht => ?_) hA (fun p hp => hb'.same (hlt p hp)) hsp
    have := (Array.all_eq_true_iff_forall_mem.1 hp) t (by simpa using ht)
    simpa using this
  · rw [hfn, hv]; rfl
  · exact ok_one hr rfl (okWide_bool_mk hb _)
end

theorem blk_pos {H : Type} (d : DataW H) : 1 ≤ Rows.uptoBulk d := by
  cases d with
  | lit l => cases l <;> simp [Rows.uptoBulk]
  | nil => simp [Rows.uptoBulk]
  | ptr d => simp [Rows.uptoBulk]
  | slice elems spare => simp [Rows.uptoBulk]
  | agg parts => simp [Rows.uptoBulk]
  | iface t d => simp [Rows.uptoBulk]
  | map entries => simp [Rows.uptoBulk]
  | held h => simp [Rows.uptoBulk]
theorem blkA_len {H : Type} (l : List (DataW H)) : l.length ≤ Rows.uptoBulkAll l := by
  induction l with
  | nil => simp [Rows.uptoBulkAll]
  | cons x r ih => have := blk_pos x; simp only [Rows.uptoBulkAll, List.length_cons]; omega
/-- Where bytes stand that come in. -/
def InB (w : World) (sp : Option Addr) (p : List UInt8) : Prop := (sp = none ∧ p = []) ∨ ∃ a, sp = some a ∧ ∀ j u, (byC p)[j]? = some u → w.cell? (a.add j) = some u
theorem rd_bytes {H : Type} {enc : TypeId × Value → H} {P : Program} {w : World} {held : Bool} {fuel : Nat} {t e : TypeId} {cs : List Value} {x : DataW H × List MemPlace} (ht : P.underlying t = some (.slice e)) (he : P.underlying e = some (.int .u8)) (hk : P.cellsOf e = 1)
    (h : DataW.trod enc P w 0 (fun _ => true) held fuel t cs = some x) : ∃ sp p cap, cs = [.slice sp (p : List UInt8).length cap] ∧ InB w sp p ∧ p.length ≤ Rows.uptoBulk x.1 := by
  rcases DataW.trod_slice ht h with ⟨rfl, _⟩ | ⟨a, len, cap, elems, rest, n, hfn, rfl, hx0, hb, hl, hm, hlen, hel, hsp, _⟩
  · exact ⟨none, [], 0, rfl, .inl ⟨rfl, rfl⟩, Nat.zero_le _⟩
  · have each : ∀ i : Fin len, ∃ y : UInt8, w.cell? (a.add i.1) = some (.int .u8 (y.toNat : Int)) := fun i => by
      have h1 := hel i.1 i.2
      have h2 : elems[i.1]? = some (elems[i.1]'(by omega)) := by rw [List.getElem?_eq_getElem]
      rw [h2, hk, Option.bind_eq_some_iff] at h1
      obtain ⟨csi, h3, h4⟩ := h1
      obtain ⟨m, rfl, _, hw⟩ := DataW.trod_int he h4
      obtain ⟨_, hlc, hcell⟩ := World.cells?_some h3
      have h5 := hcell 0 (by omega)
      rw [Nat.mul_one] at h5
      obtain ⟨w1, w2⟩ := (Lit.wf_int_iff .u8 m).1 hw
      have w1' : 0 ≤ m := w1
      have w2' : m ≤ 255 := w2
      refine ⟨UInt8.ofNat m.toNat, ?_⟩
      have e1 : ((a.add i.1).add 0) = a.add i.1 := by simp [Addr.add]
      have e2 : (((UInt8.ofNat m.toNat).toNat : Nat) : Int) = m := by
        rw [UInt8.toNat_ofNat', Nat.mod_eq_of_lt (by omega)]; omega
      rw [e1] at h5
      rw [e2, h5]
      rfl
    refine ⟨some a, List.ofFn fun i => Classical.choose (each i), cap, by rw [List.length_ofFn], .inr ⟨a, rfl, fun j u hj => ?_⟩, ?_⟩
    · have hj2 : j < len := by
        have := (List.getElem?_eq_some_iff.1 hj).1
        rw [byC_len, List.length_ofFn] at this; exact this
      have hs := Classical.choose_spec (each ⟨j, hj2⟩)
      have hu : u = .int .u8 ((Classical.choose (each ⟨j, hj2⟩)).toNat : Int) := by
        unfold byC at hj
        rw [List.getElem?_map, List.getElem?_ofFn, dif_pos hj2] at hj
        exact (Option.some.inj hj).symm
      rw [hu]; exact hs
    · rw [List.length_ofFn]
      subst hx0
      simp only [Rows.uptoBulk]
      have := blkA_len (elems.map (·.1))
      rw [List.length_map] at this
      omega
end Go.Proofs.YtoacaikopcdkmaaGreat
