/- CacheKinds: whatever the input, the law answers true and its arguments stay. No condition. -/
import Derived.Test.YtcjndiagbdkikaaRows
import Derived.Test.YtcjndiagbdkikaaEng17
import Derived.Test.YtcjndiagbdkikaaLn
set_option linter.unusedVariables false
namespace Go.Proofs.Ytcjndiagbdkikaa.cacheKinds
open Go.ChangeShapes Go.WideShapes Go.ChangeAt Go.RowKit

theorem own : ownKnob Try.prog.godebug = none := by kernel_rfl
theorem laidOut : laidOutB Try.prog = true := by kernel_rfl

set_option maxRecDepth 100000 in
theorem lifted (os : Os) (started : os.Started) (H : Type) (enc : TypeId × Value → H) :
    ReturnsInHanded {} Try.checked os 6 .any (Rows.cacheKindsSpec.pre6 enc Try.prog Try.f6 Rows.cacheKindsRow.domain false) (Rows.cacheKindsSpec.post enc Try.prog Try.f6 false true false false) := by
  refine returnsInHanded_of_change (C := Try.checked) own started (by kernel_rfl) Try.func6
    (ChangeSpec.witness6 (enc := enc) (C := Try.checked) false ⟨#[], #[.int .i64 0, .slice none 0 0], []⟩ 8 (by kernel_rfl) (by kernel_rfl) (by kernel_rfl) (by kernel_rfl)) ?_
  intro W base args ds gs before hval0 hW hcnd _
  have hval : ∀ (j : Nat) t v, Try.f6.params[j]? = some t → args[j]? = some v → Value.okWide Try.prog W .any base t v := hval0
  have hW' := hW
  obtain ⟨p, q, hA0, hV, rfl, hfz, hnd⟩ := hW
  have hA : DataW.TrodAll enc Try.prog W 0 (fun _ => true) true Try.f6.params.toList args.toList ds p := hA0
  rw [Try.params6] at hA hval
  obtain ⟨v0, vs0, d0, ds0, p0, q0, hargs, rfl, rfl, h0, r0⟩ := trodAll_cons hA
  obtain ⟨v1, vs1, d1, ds1, p1, q1, rfl, rfl, rfl, h1, r1⟩ := trodAll_cons r0
  obtain ⟨rfl, rfl, rfl⟩ := trodAll_nil r1
  obtain rfl : args = #[v0, v1] := by cases args; simp_all
  obtain ⟨rfl, rfl⟩ := trodVars_none hV
  clear hA0 hval0
  obtain ⟨fu0, g0⟩ := h0
  obtain ⟨y0, o0, e0⟩ := (rd_int Try.underlying3) _ _ _ g0
  obtain ⟨a0, rfl⟩ := okWide_int Try.underlying3 (hval 0 3 v0 rfl rfl)
  have z0 := e0.val
  obtain ⟨fu1, g1⟩ := h1
  obtain ⟨y1, o1, e1⟩ := (rd_slice Try.underlying35 (k := 4) (by kernel_rfl) (by decide) (fun _ _ => rfl) (rd_struct Try.underlying38 (.cons (k := 1) rfl (by kernel_rfl) (rd_int Try.underlying3) (.cons (k := 1) rfl (by kernel_rfl) (rd_int Try.underlying3) (.cons (k := 1) rfl (by kernel_rfl) (rd_int Try.underlying3) (.cons (k := 1) rfl (by kernel_rfl) (rd_bool Try.underlying4) .nil)))) (by kernel_rfl) (ok' := (fun x : T_lecternlaw16_Op => (okI .i64) x.Kind ∧ (okI .i64) x.K ∧ (okI .i64) x.V ∧ ((fun _ : Bool => True)) x.Dirty ∧ True)) (c' := c_T_lecternlaw16_Op) (fun y => (⟨y.1, y.2.1, y.2.2.1, y.2.2.2.1⟩ : T_lecternlaw16_Op)) (fun y h => ⟨h, rfl⟩))) _ _ _ g1
  obtain ⟨a1, l1, c1, rfl⟩ := okWide_slice Try.underlying35 (hval 1 35 v1 rfl rfl)
  have z1 := e1.val
  refine (law_calls (fun _ _ => trivial) (fun h => (fun h y0 o0 y1 o1 => kinds_calls h y0 y1) h y0 o0 y1 o1) rfl (fun i => match i with | 0 => z0 | 1 => z1 | _ + 2 => .any _)).mono fun e W' ⟨he, hg⟩ => ?_
  subst he
  exact ⟨_, rfl, law_post (tb := 4) laidOut (by kernel_rfl) rfl Try.underlying4 rfl hW' rfl hg⟩

theorem proved : Rows.CacheKindsSaid :=
  OpenClaim.holds_of_wide 6 Try.f6 rfl rfl rfl rfl rfl rfl rfl ⟨rfl, rfl, rfl, rfl, rfl⟩ rfl rfl rfl rfl rfl (by kernel_rfl) Try.func6 (by kernel_rfl)
    (of_decide_eq_true (by kernel_rfl)) (by unfold Func.isWrapper; first | (rw [if_pos (by decide +kernel)]; kernel_rfl) | (rw [if_neg (by decide +kernel)]; exact ⟨rfl, rfl⟩))
    (fun os started H enc _ => lifted os started H enc)
end Go.Proofs.Ytcjndiagbdkikaa.cacheKinds
