/- What every row of this seat needs: a world that meets the listed variables, and what they give a walk. No condition. -/
import Derived.Test.YtocfjohangcajaaDoorCards
import Derived.Test.YtocfjohangcajaaDoorTie
import Derived.Test.YtocfjohangcajaaDoorEng25
import Derived.Test.YtocfjohangcajaaDoorSp
import Derived.Lib.LaidTab
import Derived.LaidLaws
import Derived.Deep.DeepHandedRow
set_option linter.unusedVariables false
set_option maxRecDepth 100000
namespace Go.Proofs.YtocfjohangcajaaDoor
open Go.ChangeShapes Go.WideShapes Go.ChangeAt Go.RowKit Go.Lib Go.Shelf

theorem ownK : ownKnob Tryd.prog.godebug = none := by kernel_rfl
theorem laidOutK : laidOutB Tryd.prog = true := by kernel_rfl

/-- The cells of a datum of numbers. -/
def cellsF : Nat → DataW Unit → List Value
  | 0, _ => []
  | n + 1, .lit (.int k z) => [.int k z]
  | n + 1, .agg l => l.flatMap (cellsF n)
  | _, _ => []
def textF : DataW Unit → List UInt8
  | .iface _ (.ptr (.agg [.lit (.string l)])) => l
  | _ => []
noncomputable def lowB : Nat := (World.holding Tryd.prog default ⟨#[], #[], []⟩).heap.size
/-- A world that meets the rows' list. -/
noncomputable def laidWorld (os : Os) : World :=
  let w0 := World.holding Tryd.prog os ⟨#[.cells #[.string ⟨(textF Rows.laid_strconv_ErrSyntax).toArray⟩] 154, .cells #[.string ⟨(textF Rows.laid_strconv_ErrRange).toArray⟩] 154], #[], []⟩
  let put (h : Array Obj) (g : Nat) (cs : List Value) : Array Obj := h.modify g fun
    | .cells _ t frozen => .cells cs.toArray t frozen
    | o => o
  let h2 := put w0.heap 2 (cellsF 3 Rows.laid_internal_strconv_uint64pow10)
  let h3 := put h2 3 [.iface 152 (.pointer (some ⟨lowB, 0, none⟩))]
  let h4 := put h3 4 [.iface 152 (.pointer (some ⟨lowB + 1, 0, none⟩))]
  let h5 := put h4 5 (cellsF 3 Rows.laid_math_bits_deBruijn32tab)
  let h6 := put h5 6 (cellsF 3 Rows.laid_math_bits_deBruijn64tab)
  { w0 with heap := h6 }
abbrev laidL : List (String × DataW Unit) := Rows.traceBoxesRow.laid
theorem laid_met (os : Os) (args : Array Value) : laidMetH Tryd.prog laidL ((laidWorld os).forCall (fun _ _ => 0) ⟨#[], args, []⟩).memory :=
  laidMet_of_run' 8 (by kernel_rfl) (by kernel_rfl)

end Go.Proofs.YtocfjohangcajaaDoor
