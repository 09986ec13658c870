/- What every row of this seat needs: a world that meets the listed variables. No condition. -/
import Derived.Test.YtjofelloaofooaaGreatDoorCards
import Derived.Test.YtjofelloaofooaaGreatDoorTie
import Derived.Lib.LaidU8T
import Derived.PinnedBridge
import Derived.LaidLaws
import Derived.Lay
import Derived.Deep.DeepHandedRow
import Derived.Test.YtjofelloaofooaaGreatDoorEB
import Derived.Test.YtjofelloaofooaaGreatDoorSp
set_option linter.unusedVariables false
set_option maxRecDepth 100000
namespace Go.Proofs.YtjofelloaofooaaGreatDoor
open Go.Proofs.Tryz
open Go.ChangeShapes Go.WideShapes Go.ChangeAt Go.RowKit Go.Lib Go.Shelf
theorem Zl : ownKnob prog.godebug = none := by kernel_rfl
theorem Rd : laidOutB prog = true := by kernel_rfl
abbrev QC : List (String × DataW Unit) := Rows.canonWritesRow.laid
noncomputable def EV (os : Os) : World := World.laidAll prog os QC
theorem KR (os : Os) : (EV os).os = os := World.laidAll_os _ _ _
theorem Qm (os : Os) (args : Array Value) : laidMetH prog QC ((EV os).forCall (fun _ _ => 0) ⟨#[], args, []⟩).memory := by
 rw [MakeChecks.laidMetH_plain _ _ _ (by kernel_rfl)];exact laidMet_laidAll _ (by kernel_rfl) (by kernel_rfl)
theorem Md (os : Os) (args : Array Value) : ((EV os).forCall (fun _ _ => 0) ⟨#[], args, []⟩).Shaped prog :=
 World.shaped_of_ZipB (by kernel_rfl) (by kernel_rfl)
theorem I3 {H : Type} {enc : TypeId × Value -> H} {f : FuncId} {fn : Func} {s : OpenSpec} {conds : List PathCond} {apart : Bool} {laid : List (String × DataW Unit)} {os : Os} (modest : Bool) (args : Array Value)
  (hok : Input.okWideB prog ((EV os).forCall (fun _ _ => 0) ⟨#[], args, []⟩) f ⟨#[], args, []⟩ = true)
  (hrow : s.preRow enc prog fn conds apart laid ((EV os).forCall (fun _ _ => 0) ⟨#[], args, []⟩).memory args) :
  ∃ (w : World) (tape : Tape) (i : Input), w.os = os /\ (w.forCall tape i).Shaped prog /\ i.vars = [] /\ Input.okWide prog (w.forCall tape i) .any w.heap.size f i /\
   s.preRow enc prog fn conds apart laid (w.forCall tape i).memory i.args /\ ({ modest := modest } : Assume).holds prog (lone (Frame.enter prog f i.args .normal) [] (w.forCall tape i)) :=
 ⟨EV os, fun _ _ => 0, ⟨#[], args, []⟩, KR os, Md os args, (Input.okWide_of_okWideB (base := 0) hok).1, (Input.okWide_of_okWideB hok).2, hrow, by
  simp only [Assume.holds]
  exact ⟨by simp, by simp, fun _ => Modest.zero, by simp, by simp⟩⟩
end Go.Proofs.YtjofelloaofooaaGreatDoor
