/- What every row of this seat needs: a world that meets the listed variables. No condition. -/
import Derived.Test.YtmnbjcpikllknaaGreatDoorCards
import Derived.Test.YtmnbjcpikllknaaGreatDoorTie
import Derived.Test.YtmnbjcpikllknaaGreatDoorEB
import Derived.Test.YtmnbjcpikllknaaGreatDoorSp
import Derived.Lib.LaidU8T
import Derived.Lib.LaidTab
import Derived.PinnedBridge
import Derived.LaidLaws
import Derived.Lay
import Derived.Deep.DeepHandedRow
set_option linter.unusedVariables false
set_option maxRecDepth 100000
namespace Go.Proofs.YtmnbjcpikllknaaGreatDoor
open Go.ChangeShapes Go.WideShapes Go.ChangeAt Go.RowKit Go.Lib Go.Shelf
theorem YL : ownKnob Tryz.prog.godebug = none := by kernel_rfl
theorem Tc : laidOutB Tryz.prog = true := by kernel_rfl
abbrev SF : List (String × DataW Unit) := Rows.pickStandsRow.laid
noncomputable def FQ (os : Os) : World := World.laidAll Tryz.prog os SF
theorem NE (os : Os) : (FQ os).os = os := World.laidAll_os _ _ _
theorem SI (os : Os) (args : Array Value) : laidMetH Tryz.prog SF ((FQ os).forCall (fun _ _ => 0) ⟨#[], args, []⟩).memory := by
 rw [MakeChecks.laidMetH_plain _ _ _ (by kernel_rfl)];exact laidMet_laidAll _ (by kernel_rfl) (by kernel_rfl)
theorem OR (os : Os) (args : Array Value) : ((FQ os).forCall (fun _ _ => 0) ⟨#[], args, []⟩).Shaped Tryz.prog :=
 World.shaped_of_ZipB (by kernel_rfl) (by kernel_rfl)
theorem Lo {H : Type} {enc : TypeId × Value -> H} {f : FuncId} {fn : Func} {s : OpenSpec} {conds : List PathCond} {apart : Bool} {laid : List (String × DataW Unit)} {os : Os} (modest : Bool) (args : Array Value)
  (hok : Input.okWideB Tryz.prog ((FQ os).forCall (fun _ _ => 0) ⟨#[], args, []⟩) f ⟨#[], args, []⟩ = true)
  (hrow : s.preRow enc Tryz.prog fn conds apart laid ((FQ os).forCall (fun _ _ => 0) ⟨#[], args, []⟩).memory args) :
  ∃ (w : World) (tape : Tape) (i : Input), w.os = os /\ (w.forCall tape i).Shaped Tryz.prog /\ i.vars = [] /\ Input.okWide Tryz.prog (w.forCall tape i) .any w.heap.size f i /\
   s.preRow enc Tryz.prog fn conds apart laid (w.forCall tape i).memory i.args /\ ({ modest := modest } : Assume).holds Tryz.prog (lone (Frame.enter Tryz.prog f i.args .normal) [] (w.forCall tape i)) :=
 ⟨FQ os, fun _ _ => 0, ⟨#[], args, []⟩, NE os, OR os args, (Input.okWide_of_okWideB (base := 0) hok).1, (Input.okWide_of_okWideB hok).2, hrow, by
  simp only [Assume.holds]
  exact ⟨by simp, by simp, fun _ => Modest.zero, by simp, by simp⟩⟩
end Go.Proofs.YtmnbjcpikllknaaGreatDoor
