/- PickNarrows: where what it reads is of bulk at most 1048576: the law answers true and its arguments stay. No condition. -/
import Derived.SevenTiedAt
import Derived.Test.YtmnbjcpikllknaaGreatDoorRb
import Derived.Test.YtmnbjcpikllknaaGreatDoorX5
set_option linter.unusedVariables false
set_option maxRecDepth 100000
set_option maxHeartbeats 2000000
namespace Go.Proofs.YtmnbjcpikllknaaGreatDoor.pickNarrows
open Go.Proofs.Tryz
open Go.ChangeShapes Go.WideShapes Go.ChangeAt Go.RowKit Go.Lib
theorem contract (H : Type) (enc : TypeId × Value -> H) (W : World) (base : Nat) (args : Array Value) (ds gs : List (DataW H)) (before : List MemPlace)
  (hval0 : ∀ (j : Nat) t v, Tryz.f9.params[j]? = some t -> args[j]? = some v -> Value.okWide prog W .any base t v)
  (hW : DataW.Whole enc prog Tryz.f9.params.toList Rows.pickNarrowsSpec.vars false W args.toList ds gs before) (hbk : Rows.uptoBulkAll (ds ++ gs) <= 1048576) (hL : laidMetH prog Vo W) (hS : W.ShapedOpen prog) :
  Calls prog 9 args W fun e W' => ∃ v, e = .returned v /\ Rows.pickNarrowsSpec.post enc prog Tryz.f9 false true false false W args v W' := by
 have hval : ∀ (j : Nat) t v, Tryz.f9.params[j]? = some t -> args[j]? = some v -> Value.okWide prog W .any base t v := hval0;have hW' := hW;obtain ⟨p, q, hA0, hV, rfl, hfz, hnd⟩ := hW;have hA : DataW.TrodAll enc prog W 0 (fun _ => true) true Tryz.f9.params.toList args.toList ds p := hA0;rw [params9] at hA hval;obtain ⟨v0, vs0, d0, ds0, p0, q0, hargs, rfl, rfl, h0, r0⟩ := trodAll_cons hA;obtain ⟨v1, vs1, d1, ds1, p1, q1, rfl, rfl, rfl, h1, r1⟩ := trodAll_cons r0;obtain ⟨v2, vs2, d2, ds2, p2, q2, rfl, rfl, rfl, h2, r2⟩ := trodAll_cons r1;obtain ⟨v3, vs3, d3, ds3, p3, q3, rfl, rfl, rfl, h3, r3⟩ := trodAll_cons r2;obtain ⟨rfl, rfl, rfl⟩ := trodAll_nil r3;obtain rfl : args = #[v0, v1, v2, v3] := by cases args; simp_all
 obtain ⟨rfl, rfl⟩ := trodVars_none hV;clear hA0 hval0;obtain ⟨fu0, g0⟩ := h0;obtain ⟨y0, ⟨o0, s0⟩, e0⟩ := IF fu0 _ (Nat.le_refl _) _ _ g0;obtain ⟨a0, rfl, _⟩ := okWide_struct underlying27 (hval 0 27 v0 rfl rfl);have z0 := e0.agg;obtain ⟨fu1, g1⟩ := h1;obtain ⟨y1, ⟨o1, s1⟩, e1⟩ := (B.rd_str underlying9) _ (Nat.le_refl _) _ _ g1;obtain ⟨a1, rfl⟩ := okWide_string underlying9 (hval 1 9 v1 rfl rfl);have z1 := e1.val;obtain ⟨fu2, g2⟩ := h2;obtain ⟨y2, ⟨o2, s2⟩, e2⟩ := (B.rd_struct underlying23 (.cons (k := 1) rfl (by kernel_rfl) (B.rd_str underlying9) (.cons (k := 1) rfl (by kernel_rfl) (B.rd_str underlying9) .nil)) (by kernel_rfl) (ok' := (fun x : Aa => ((fun s : List By8 => s.length <= 9223372036854775807)) x.URI /\ ((fun s : List By8 => s.length <= 9223372036854775807)) x.Local /\ True)) (sz' := (fun x : Aa => ((fun s : List By8 => s.length + 1) x.URI + ((fun s : List By8 => s.length + 1) x.Local + 0)) + 1)) (c' := As) (fun y => (⟨y.1, y.2.1⟩ : Aa)) (fun y h => ⟨h, rfl, rfl⟩)) _ (Nat.le_refl _) _ _ g2;obtain ⟨a2, rfl, _⟩ := okWide_struct underlying23 (hval 2 23 v2 rfl rfl);have z2 := e2.agg;obtain ⟨fu3, g3⟩ := h3;obtain ⟨y3, ⟨o3, s3⟩, e3⟩ := (B.rd_str underlying9) _ (Nat.le_refl _) _ _ g3;obtain ⟨a3, rfl⟩ := okWide_string underlying9 (hval 3 9 v3 rfl rfl);have z3 := e3.val;simp only [List.append_nil, Rows.uptoBulkAll, Nat.add_zero] at hbk;have t0 : Ba y0 <= Rows.uptoBulk d0 := s0;have t1 : (fun s : List By8 => s.length + 1) y1 <= Rows.uptoBulk d1 := s1;have t2 : (fun x : Aa => ((fun s : List By8 => s.length + 1) x.URI + ((fun s : List By8 => s.length + 1) x.Local + 0)) + 1) y2 <= Rows.uptoBulk d2 := s2;have t3 : (fun s : List By8 => s.length + 1) y3 <= Rows.uptoBulk d3 := s3;refine Calls.mono (UT (fun u hu => Xw hL hS hu) (fun h => Kc y0 y1 y2 y3 t0 t1 t2 t3 (by omega) h) rfl (fun i => match i with | 0 => z0 | 1 => z1 | 2 => z2 | 3 => z3 | _ + 4 => .any _)) fun e W' ⟨he, hg⟩ => ?_;subst he;exact ⟨_, rfl, Va (tb := 4) Wm (by kernel_rfl) rfl underlying4 rfl hW' rfl hg⟩
def zs : Array Value := #[.agg #[.int .i64 0, .string ⟨#[]⟩, .string ⟨#[]⟩, .slice none 0 0, .slice none 0 0, .string ⟨#[]⟩], .string ⟨#[]⟩, .agg #[.string ⟨#[]⟩, .string ⟨#[]⟩], .string ⟨#[]⟩]
theorem reads (os : Os) {H : Type} (enc : TypeId × Value -> H) : ∃ places, DataW.whole enc prog ((Gt os).forCall (fun _ _ => 0) ⟨#[], zs, []⟩).memory Tryz.f9.params.toList Rows.pickNarrowsSpec.vars false zs.toList 8 = some ([.agg [.lit (.int .i64 0), .agg [.lit (.string []), .lit (.string [])], .nil, .nil, .lit (.string [])], .lit (.string []), .agg [.lit (.string []), .lit (.string [])], .lit (.string [])], [], places) /\ Rows.uptoSmall H ([.agg [.lit (.int .i64 0), .agg [.lit (.string []), .lit (.string [])], .nil, .nil, .lit (.string [])], .lit (.string []), .agg [.lit (.string []), .lit (.string [])], .lit (.string [])] ++ []) = true :=
 ⟨[], ⟨by kernel_rfl, by kernel_rfl⟩⟩
theorem lifted (os : Os) (started : os.Started) (H : Type) (enc : TypeId × Value -> H) (F : Stop.Interp) :
  ReturnsInHanded {} Tryz.checked os 9 .any ((Rows.OpenSpec.upto Rows.pickNarrowsSpec).preRow enc prog Tryz.f9 Rows.pickNarrowsUptoRow.domain false Rows.pickNarrowsUptoRow.laid) (((Rows.OpenSpec.upto Rows.pickNarrowsSpec).at F).post enc prog Tryz.f9 false true false false) := by
 obtain ⟨places, hx, hs⟩ := reads os enc;refine returnsInHanded_of_row (C := Tryz.checked) (s := (Rows.OpenSpec.upto Rows.pickNarrowsSpec)) Ahh started (by kernel_rfl) func9
  (MC (enc := enc) false zs (by kernel_rfl)
   (OpenSpec.preRow_of_cond 8 hx rfl (fun k hk => by cases hk; exact hs) (by kernel_rfl) (Vt os _))) ?_
 intro W base args ds gs before hval hW _ hcond _ hL hS _;exact contract H enc W base args ds gs before hval hW (by simpa [Rows.uptoSmall] using hcond _ rfl) hL hS
theorem said : Rows.PickNarrowsUptoSaid :=
 OpenClaim.holds_of_cond 9 Tryz.f9 rfl rfl rfl rfl rfl rfl rfl ⟨rfl, rfl, rfl, rfl, rfl⟩ rfl rfl rfl rfl rfl (by kernel_rfl) func9 (by kernel_rfl)
  (of_decide_eq_true (by kernel_rfl)) (by unfold Func.isWrapper; first | (rw [if_pos (by decide +kernel)]; kernel_rfl) | (rw [if_neg (by decide +kernel)]; exact ⟨rfl, rfl⟩))
  (fun os started H enc _ F => by rw [OpenClaim.pre_eq_preRow]; exact lifted os started H enc F)
theorem plain (f : FuncId) (fn : Func) (hf : Tryz.pinned.checked.prog.funcNamed Rows.pickNarrowsUptoRow.func = some f) (hfn : Tryz.pinned.checked.prog.funcs[f]? = some fn) :
  true = Tryz.pinned.checked.prog.looks [] /\ ∀ (j : Nat) t, fn.params[j]? = some t -> Tryz.pinned.checked.prog.wantsStandIn t = false := by
 obtain rfl : f = 9 := Option.some.inj ((show prog.funcNamed Rows.pickNarrowsUptoRow.func = some 9 by kernel_rfl).symm.trans hf) |>.symm;obtain rfl : fn = Tryz.f9 := (Option.some.inj (func9.symm.trans hfn)).symm;refine ⟨by kernel_rfl, fun j t ht => ?_⟩;rw [params9] at ht;have hm := Array.mem_of_getElem? ht;simp only [List.mem_toArray, List.mem_cons, List.not_mem_nil, or_false] at hm;rcases hm with rfl | rfl | rfl | rfl
 ·exact (show prog.wantsStandIn 27 = false by kernel_rfl)
 ·exact (show prog.wantsStandIn 9 = false by kernel_rfl)
 ·exact (show prog.wantsStandIn 23 = false by kernel_rfl)
 ·exact (show prog.wantsStandIn 9 = false by kernel_rfl)
theorem proved : Rows.PickNarrowsUptoCardSaid :=
 Claim7.holds_tied_plain_at .later [] _ _ _ _ said (fun _ h => by cases h) (by kernel_rfl) (fun _ h => by cases h) pickNarrowsUpto_row_tie rfl ⟨rfl, rfl⟩ (by kernel_rfl) rfl plain (by kernel_rfl)
end Go.Proofs.YtmnbjcpikllknaaGreatDoor.pickNarrows
