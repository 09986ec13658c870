/- VaultNil, where what it reads is of bulk at most 1048576: the law answers true and its arguments stay. No condition. -/
import Derived.Test.YtoacaikopcdkmaaGreatZ32
import Derived.MakeChecks
set_option linter.unusedSimpArgs false
set_option linter.unusedVariables false
set_option maxRecDepth 100000
set_option maxHeartbeats 2000000
namespace Go.Proofs.YtoacaikopcdkmaaGreat.vaultNil
open Go.ChangeShapes Go.WideShapes Go.ChangeAt Go.RowKit Go.Lib
theorem ownK : ownKnob Tryz.prog.godebug = none := by kernel_rfl
theorem laidOutK : laidOutB Tryz.prog = true := by kernel_rfl
abbrev laidL : List (String × DataW Unit) := Rows.vaultNilUptoRow.laid
noncomputable def laidWorld (os : Os) : World := World.laidAll Tryz.prog os laidL
theorem laidWorld_os (os : Os) : (laidWorld os).os = os := World.laidAll_os _ _ _
theorem laid_met (os : Os) (args : Array Value) : laidMetH Tryz.prog laidL ((laidWorld os).forCall (fun _ _ => 0) ⟨#[], args, []⟩).memory := by
  rw [MakeChecks.laidMetH_plain _ _ _ (by kernel_rfl)]
  exact laidMet_laidAll _ (by kernel_rfl) (by kernel_rfl)
theorem laid_shaped (os : Os) (args : Array Value) : ((laidWorld os).forCall (fun _ _ => 0) ⟨#[], args, []⟩).Shaped Tryz.prog :=
  World.shaped_of_ZipB (by kernel_rfl) (by kernel_rfl)
theorem witness_row_sh {H : Type} {enc : TypeId × Value → H} {f : FuncId} {fn : Func} {s : OpenSpec} {conds : List PathCond} {apart : Bool} {laid : List (String × DataW Unit)} {os : Os} (modest : Bool) (args : Array Value)
    (hok : Input.okWideB Tryz.prog ((laidWorld os).forCall (fun _ _ => 0) ⟨#[], args, []⟩) f ⟨#[], args, []⟩ = true)
    (hrow : s.preRow enc Tryz.prog fn conds apart laid ((laidWorld os).forCall (fun _ _ => 0) ⟨#[], args, []⟩).memory args) :
    ∃ (w : World) (tape : Tape) (i : Input), w.os = os ∧ (w.forCall tape i).Shaped Tryz.prog ∧ i.vars = [] ∧ Input.okWide Tryz.prog (w.forCall tape i) .any w.heap.size f i ∧
      s.preRow enc Tryz.prog fn conds apart laid (w.forCall tape i).memory i.args ∧ ({ modest := modest } : Assume).holds Tryz.prog (lone (Frame.enter Tryz.prog f i.args .normal) [] (w.forCall tape i)) :=
  ⟨laidWorld os, fun _ _ => 0, ⟨#[], args, []⟩, laidWorld_os os, laid_shaped os args, (Input.okWide_of_okWideB (base := 0) hok).1, (Input.okWide_of_okWideB hok).2, hrow, by
    simp only [Assume.holds]
    exact ⟨by simp, by simp, fun _ => Modest.zero, by simp, by simp⟩⟩

theorem contract (H : Type) (enc : TypeId × Value → H) (W : World) (base : Nat) (args : Array Value) (ds gs : List (DataW H)) (before : List MemPlace)
    (hval0 : ∀ (j : Nat) t v, Tryz.f6.params[j]? = some t → args[j]? = some v → Value.okWide Tryz.prog W .any base t v)
    (hW : DataW.Whole enc Tryz.prog Tryz.f6.params.toList Rows.vaultNilSpec.vars false W args.toList ds gs before) (hbk : Rows.uptoBulkAll (ds ++ gs) ≤ 1048576) :
    Calls Tryz.prog 6 args W fun e W' => ∃ v, e = .returned v ∧ Rows.vaultNilSpec.post enc Tryz.prog Tryz.f6 false true false false W args v W' := by
  have hW' := hW
  obtain ⟨p, q, hA0, hV, rfl, hfz, hnd⟩ := hW
  have hA : DataW.TrodAll enc Tryz.prog W 0 (fun _ => true) true Tryz.f6.params.toList args.toList ds p := hA0
  have hval : ∀ (j : Nat) t v, Tryz.f6.params[j]? = some t → args[j]? = some v → Value.okWide Tryz.prog W .any base t v := hval0
  rw [Tryz.params6] at hA hval
  obtain ⟨v0, vs0, d0, ds0, p0, q0, hargs, rfl, rfl, h0, r0⟩ := trodAll_cons hA
  obtain ⟨v1, vs1, d1, ds1, p1, q1, rfl, rfl, rfl, h1, r1⟩ := trodAll_cons r0
  obtain ⟨rfl, rfl, rfl⟩ := trodAll_nil r1
  obtain rfl : args = #[v0, v1] := by cases args; simp_all
  obtain ⟨rfl, rfl⟩ := trodVars_none hV
  obtain ⟨fu0, g0⟩ := h0
  obtain ⟨n, e0, _, _⟩ := DataW.trod_int Tryz.underlying3 g0
  obtain ⟨a0, rfl⟩ := okWide_int Tryz.underlying3 (hval 0 3 v0 rfl rfl)
  obtain rfl : a0 = n := by simpa [Value.cells] using e0
  obtain ⟨fu1, g1⟩ := h1
  obtain ⟨sp, b, cap, e1, hin, hlen⟩ := rd_bytes Tryz.underlying22 (by kernel_rfl) (by kernel_rfl) g1
  obtain ⟨a1, l1, c1, rfl⟩ := okWide_slice Tryz.underlying22 (hval 1 22 v1 rfl rfl)
  obtain ⟨rfl, rfl, rfl⟩ : a1 = sp ∧ l1 = b.length ∧ c1 = cap := by simpa [Value.cells] using e1
  simp only [List.append_nil, Rows.uptoBulkAll, Nat.add_zero] at hbk
  refine (c_nil W a0 a1 b c1 (by simp only at hlen; omega) hin).mono ?_
  rintro e W' ⟨rfl, hB⟩
  exact ⟨_, rfl, law_post (tb := 4) laidOutK (by kernel_rfl) rfl Tryz.underlying4 rfl hW' rfl hB⟩

def zs : Array Value := #[.int .i64 0, .slice none 0 0]
theorem reads (os : Os) {H : Type} (enc : TypeId × Value → H) : ∃ places, DataW.whole enc Tryz.prog ((laidWorld os).forCall (fun _ _ => 0) ⟨#[], zs, []⟩).memory Tryz.f6.params.toList Rows.vaultNilSpec.vars false zs.toList 8 = some ([.lit (.int .i64 0), .nil], [], places) ∧ Rows.uptoSmall H ([.lit (.int .i64 0), .nil] ++ []) = true :=
  ⟨[], ⟨by kernel_rfl, by kernel_rfl⟩⟩
theorem lifted (os : Os) (started : os.Started) (H : Type) (enc : TypeId × Value → H) (F : Stop.Interp) :
    ReturnsInHanded {} Tryz.checked os 6 .any ((Rows.OpenSpec.upto Rows.vaultNilSpec).preRow enc Tryz.prog Tryz.f6 Rows.vaultNilUptoRow.domain false Rows.vaultNilUptoRow.laid) (((Rows.OpenSpec.upto Rows.vaultNilSpec).at F).post enc Tryz.prog Tryz.f6 false true false false) := by
  obtain ⟨places, hx, hs⟩ := reads os enc
  refine returnsInHanded_of_row (C := Tryz.checked) (s := (Rows.OpenSpec.upto Rows.vaultNilSpec)) ownK started (by kernel_rfl) Tryz.func6
    (witness_row_sh (enc := enc) false zs (by kernel_rfl)
      (OpenSpec.preRow_of_cond 8 hx rfl (fun k hk => by cases hk; exact hs) (by kernel_rfl) (laid_met os _))) ?_
  intro W base args ds gs before hval hW _ hcond _ hL hS _
  exact contract H enc W base args ds gs before hval hW (by simpa [Rows.uptoSmall] using hcond _ rfl)
theorem proved : Rows.VaultNilUptoSaid :=
  OpenClaim.holds_of_cond 6 Tryz.f6 rfl rfl rfl rfl rfl rfl rfl ⟨rfl, rfl, rfl, rfl, rfl⟩ rfl rfl rfl rfl rfl (by kernel_rfl) Tryz.func6 (by kernel_rfl)
    (of_decide_eq_true (by kernel_rfl)) (by unfold Func.isWrapper; first | (rw [if_pos (by decide +kernel)]; kernel_rfl) | (rw [if_neg (by decide +kernel)]; exact ⟨rfl, rfl⟩))
    (fun os started H enc _ F => by rw [OpenClaim.pre_eq_preRow]; exact lifted os started H enc F)
end Go.Proofs.YtoacaikopcdkmaaGreat.vaultNil
