/- CanonParts: where what it reads is of bulk at most 1048576: the law answers true and its arguments stay. No condition. -/
import Derived.SevenTiedAt
import Derived.Test.YtjofelloaofooaaGreatDoorRb
import Derived.Test.YtjofelloaofooaaGreatDoorX5
set_option linter.unusedVariables false
set_option maxRecDepth 100000
set_option maxHeartbeats 2000000
namespace Go.Proofs.YtjofelloaofooaaGreatDoor.canonParts
open Go.Proofs.Tryz
open Go.ChangeShapes Go.WideShapes Go.ChangeAt Go.RowKit Go.Lib
theorem contract (H : Type) (enc : TypeId × Value -> H) (W : World) (base : Nat) (args : Array Value) (ds gs : List (DataW H)) (before : List MemPlace)
  (hval0 : ∀ (j : Nat) t v, Tryz.f4.params[j]? = some t -> args[j]? = some v -> Value.okWide prog W .any base t v)
  (hW : DataW.Whole enc prog Tryz.f4.params.toList Rows.canonPartsSpec.vars false W args.toList ds gs before) (hbk : Rows.uptoBulkAll (ds ++ gs) <= 1048576) (hL : laidMetH prog QC W) (hS : W.ShapedOpen prog) :
  Calls prog 4 args W fun e W' => ∃ v, e = .returned v /\ Rows.canonPartsSpec.post enc prog Tryz.f4 false true false false W args v W' := by
 have hval : ∀ (j : Nat) t v, Tryz.f4.params[j]? = some t -> args[j]? = some v -> Value.okWide prog W .any base t v := hval0;have hW' := hW;obtain ⟨p, q, hA0, hV, rfl, hfz, hnd⟩ := hW;have hA : DataW.TrodAll enc prog W 0 (fun _ => true) true Tryz.f4.params.toList args.toList ds p := hA0;rw [params4] at hA hval;obtain ⟨v0, vs0, d0, ds0, p0, q0, hargs, rfl, rfl, h0, r0⟩ := trodAll_cons hA;obtain ⟨v1, vs1, d1, ds1, p1, q1, rfl, rfl, rfl, h1, r1⟩ := trodAll_cons r0;obtain ⟨rfl, rfl, rfl⟩ := trodAll_nil r1;obtain rfl : args = #[v0, v1] := by cases args; simp_all
 obtain ⟨rfl, rfl⟩ := trodVars_none hV;clear hA0 hval0;obtain ⟨fu0, g0⟩ := h0;obtain ⟨y0, ⟨o0, s0⟩, e0⟩ := GI fu0 _ (Nat.le_refl _) _ _ g0;obtain ⟨a0, rfl, _⟩ := okWide_struct underlying27 (hval 0 27 v0 rfl rfl);have z0 := e0.agg;obtain ⟨fu1, g1⟩ := h1;obtain ⟨y1, ⟨o1, s1⟩, e1⟩ := (B.rd_str underlying9) _ (Nat.le_refl _) _ _ g1;obtain ⟨a1, rfl⟩ := okWide_string underlying9 (hval 1 9 v1 rfl rfl);have z1 := e1.val;simp only [List.append_nil, Rows.uptoBulkAll, Nat.add_zero] at hbk;have t0 : Aq y0 <= Rows.uptoBulk d0 := s0;have t1 : (fun s : List By8 => s.length + 1) y1 <= Rows.uptoBulk d1 := s1;refine Calls.mono (Ot (fun u hu => SH hL hS hu) (fun h => H7 y0 y1 t0 t1 (by omega) h) rfl (fun i => match i with | 0 => z0 | 1 => z1 | _ + 2 => .any _)) fun e W' ⟨he, hg⟩ => ?_;subst he;exact ⟨_, rfl, Qc (tb := 4) Rd (by kernel_rfl) rfl underlying4 rfl hW' rfl hg⟩
def zs : Array Value := #[.agg #[.int .i64 0, .string ⟨#[]⟩, .string ⟨#[]⟩, .slice none 0 0, .slice none 0 0, .string ⟨#[]⟩], .string ⟨#[]⟩]
theorem reads (os : Os) {H : Type} (enc : TypeId × Value -> H) : ∃ places, DataW.whole enc prog ((EV os).forCall (fun _ _ => 0) ⟨#[], zs, []⟩).memory Tryz.f4.params.toList Rows.canonPartsSpec.vars false zs.toList 8 = some ([.agg [.lit (.int .i64 0), .agg [.lit (.string []), .lit (.string [])], .nil, .nil, .lit (.string [])], .lit (.string [])], [], places) /\ Rows.uptoSmall H ([.agg [.lit (.int .i64 0), .agg [.lit (.string []), .lit (.string [])], .nil, .nil, .lit (.string [])], .lit (.string [])] ++ []) = true :=
 ⟨[], ⟨by kernel_rfl, by kernel_rfl⟩⟩
theorem lifted (os : Os) (started : os.Started) (H : Type) (enc : TypeId × Value -> H) (F : Stop.Interp) :
  ReturnsInHanded {} Tryz.checked os 4 .any ((Rows.OpenSpec.upto Rows.canonPartsSpec).preRow enc prog Tryz.f4 Rows.canonPartsUptoRow.domain false Rows.canonPartsUptoRow.laid) (((Rows.OpenSpec.upto Rows.canonPartsSpec).at F).post enc prog Tryz.f4 false true false false) := by
 obtain ⟨places, hx, hs⟩ := reads os enc;refine returnsInHanded_of_row (C := Tryz.checked) (s := (Rows.OpenSpec.upto Rows.canonPartsSpec)) Zl started (by kernel_rfl) func4
  (I3 (enc := enc) false zs (by kernel_rfl)
   (OpenSpec.preRow_of_cond 8 hx rfl (fun k hk => by cases hk; exact hs) (by kernel_rfl) (Qm os _))) ?_
 intro W base args ds gs before hval hW _ hcond _ hL hS _;exact contract H enc W base args ds gs before hval hW (by simpa [Rows.uptoSmall] using hcond _ rfl) hL hS
theorem said : Rows.CanonPartsUptoSaid :=
 OpenClaim.holds_of_cond 4 Tryz.f4 rfl rfl rfl rfl rfl rfl rfl ⟨rfl, rfl, rfl, rfl, rfl⟩ rfl rfl rfl rfl rfl (by kernel_rfl) func4 (by kernel_rfl)
  (of_decide_eq_true (by kernel_rfl)) (by unfold Func.isWrapper; first | (rw [if_pos (by decide +kernel)]; kernel_rfl) | (rw [if_neg (by decide +kernel)]; exact ⟨rfl, rfl⟩))
  (fun os started H enc _ F => by rw [OpenClaim.pre_eq_preRow]; exact lifted os started H enc F)
theorem plain (f : FuncId) (fn : Func) (hf : Tryz.pinned.checked.prog.funcNamed Rows.canonPartsUptoRow.func = some f) (hfn : Tryz.pinned.checked.prog.funcs[f]? = some fn) :
  true = Tryz.pinned.checked.prog.looks [] /\ ∀ (j : Nat) t, fn.params[j]? = some t -> Tryz.pinned.checked.prog.wantsStandIn t = false := by
 obtain rfl : f = 4 := Option.some.inj ((show prog.funcNamed Rows.canonPartsUptoRow.func = some 4 by kernel_rfl).symm.trans hf) |>.symm;obtain rfl : fn = Tryz.f4 := (Option.some.inj (func4.symm.trans hfn)).symm;refine ⟨by kernel_rfl, fun j t ht => ?_⟩;rw [params4] at ht;have hm := Array.mem_of_getElem? ht;simp only [List.mem_toArray, List.mem_cons, List.not_mem_nil, or_false] at hm;rcases hm with rfl | rfl
 ·exact (show prog.wantsStandIn 27 = false by kernel_rfl)
 ·exact (show prog.wantsStandIn 9 = false by kernel_rfl)
theorem proved : Rows.CanonPartsUptoCardSaid :=
 Claim7.holds_tied_plain_at .later [] _ _ _ _ said (fun _ h => by cases h) (by kernel_rfl) (fun _ h => by cases h) canonPartsUpto_row_tie rfl ⟨rfl, rfl⟩ (by kernel_rfl) rfl plain (by kernel_rfl)
end Go.Proofs.YtjofelloaofooaaGreatDoor.canonParts
