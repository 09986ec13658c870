/- A law's row, closed: it answers true, and all its arguments read as they did. No condition. -/
import Derived.Test.YtagdcieobfcpmaaEng16
import Derived.WalkKit
import Derived.ProofKit
import Derived.WideKeyArgs
import Derived.JoinedCond
set_option linter.unusedSimpArgs false
set_option linter.unusedVariables false
namespace Go.Proofs.Ytagdcieobfcpmaa
open Go.ChangeShapes Go.WideShapes Go.ChangeAt Go.RowKit

theorem grown_same {W W' : World} (hg : Grown W W') (he : ∀ b, b < W.heap.size → W'.heap[b]? = W.heap[b]?) {p : MemPlace} (hp : p.block < W.heap.size) : W.sameAt W' p := by
  cases p with
  | cell b o => exact World.cell?_of_block (w := W) (he b hp)
  | map b => exact he b hp

section
variable {H : Type} {enc : TypeId × Value → H} {P : Program}

theorem trodAll_stays (hl : laidOutB P = true) {W W' : World} {sp : Nat → Bool} : ∀ {ts : List TypeId} {vs : List Value} {ds : List (DataW H)} {ps : List MemPlace}, (∀ t ∈ ts, P.readableRec t = true ∧ t < P.types.size) →
    DataW.TrodAll enc P W 0 (fun _ => true) true ts vs ds ps → (∀ p ∈ ps, W.sameAt W' p) → (∀ p ∈ ps, sp p.block = true) → DataW.TrodAll enc P W' 0 sp true ts vs ds ps
  | [], [], [], ps, _, h, _, _ => h
  | t :: ts, v :: vs, d :: ds, ps, ht, ⟨p, q, h1, h2, e⟩, hs, hsp => by
    subst e
    exact ⟨p, q, WideElems.Trod_stays hl (ht t (by simp)).1 (ht t (by simp)).2 h1 (fun x hx => hs x (by simp [hx])) (fun x hx => hsp x (by simp [hx])),
      trodAll_stays hl (fun u hu => ht u (by simp [hu])) h2 (fun x hx => hs x (by simp [hx])) (fun x hx => hsp x (by simp [hx])), rfl⟩
  | [], [], _ :: _, _, _, h, _, _ => h.elim
  | [], _ :: _, _, _, _, h, _, _ => h.elim
  | _ :: _, [], _, _, _, h, _, _ => h.elim
  | _ :: _, _ :: _, [], _, _, h, _, _ => h.elim

theorem law_post {f : Func} {s : ChangeSpec} {tb : TypeId} {apart fresh handsOn again : Bool} {W W' : World} {args : Array Value} {ds gs : List (DataW H)} {before : List MemPlace} (hl : laidOutB P = true)
    (hp : f.params.all (fun t => P.readableRec t && decide (t < P.types.size)) = true) (hr : f.resultTypes = #[tb]) (hb : P.underlying tb = some .bool) (hv : s.vars = [])
    (hW : DataW.Whole enc P f.params.toList s.vars apart W args.toList ds gs before) (hfn : s.fn H (ds ++ gs) = { results := [.lit (.bool true)], args := ds })
    (hg : Grown W W') (he : ∀ b, b < W.heap.size → W'.heap[b]? = W.heap[b]?) : s.post enc P f apart fresh handsOn again W args (.bool true) W' := by
  have hlt := hW.lt
  obtain ⟨pa, pv, hA, hV, hps, hfz, hnd⟩ := hW
  have hVV := hV
  rw [hv] at hV
  obtain ⟨rfl, rfl⟩ := trodVars_none hV
  have hW' : DataW.Whole enc P f.params.toList s.vars apart W args.toList ds [] before := ⟨pa, [], hA, hVV, hps, hfz, hnd⟩
  simp only [List.append_nil] at hps
  subst hps
  refine post_of_same (pa := before) (pv := []) hW' (fun b sp hd => ?_) (fun sp hsp => ?_) (fun sp hsp => ?_) (by simp) (hg.frame _) hg.2.1 ?_
  · rw [hfn, hr]
    exact trodAll_cons_mk (shut_bool hb _) trodAll_mk0
  · rw [hfn]
    refine trodAll_stays hl (fun t ht => ?_) hA (fun p hp => grown_same hg he (hlt p hp)) hsp
    have := (Array.all_eq_true_iff_forall_mem.1 hp) t (by simpa using ht)
    simpa using this
  · rw [hfn, hv]; rfl
  · exact ok_one hr rfl (okWide_bool_mk hb _)
end
end Go.Proofs.Ytagdcieobfcpmaa
