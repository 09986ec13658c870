/- What every row of this seat needs: what the listed variables give a walk. No condition. -/
import Derived.Test.YtfokkdofcekdbaaGreatDoorRa
set_option linter.unusedVariables false
set_option maxRecDepth 100000
namespace Go.Proofs.YtfokkdofcekdbaaGreatDoor
open Go.ChangeShapes Go.WideShapes Go.ChangeAt Go.RowKit Go.Lib Go.Shelf
theorem var_lt {W : World} {n : String} {cs : Array Value} {g : Nat} (h : W.var? Tryz.prog n = some cs) (hg : Tryz.prog.globalNamed n = some g) : g < W.heap.size := by
 apply Classical.byContradiction; intro hn
 unfold World.var? at h
 rw [hg, Option.bind_some, Array.getElem?_eq_none (by omega)] at h
 cases h
def foldTab : List Int := match (Rows.laid_unicode_asciiFold : DataW Unit) with
 | .agg l => l.map fun
  | .lit (.int _ z) => z
  | _ => 0
 | _ => []
theorem tabs_of {W u : World} (hL : laidMetH Tryz.prog laidL W) (hS : W.ShapedOpen Tryz.prog) (hu : ∀ b, b < W.heap.size → u.heap[b]? = W.heap[b]?) : Tabs u := by
 have hsz : W.heap.size ≤ u.heap.size := by
  rcases Nat.eq_zero_or_pos W.heap.size with h | h
  ·omega
  ·have h1 := hu (W.heap.size - 1) (by omega)
   rw [Array.getElem?_eq_getElem (xs := W.heap) (by omega)] at h1
   have := (Array.getElem?_eq_some_iff.1 h1).1
   omega
 have hb : Below W.heap.size W { W with heap := u.heap } := ⟨rfl, rfl, rfl, hsz, hu⟩
 have r0 : VarReads Tryz.prog W _ firstData := (show Rows.laid_unicode_utf8_first = firstData from Pinned.utf8First_eq) ▸ Lib.laidMet.reads hL (.tail _ (.tail _ (.tail _ (.tail _ (.head _)))))
 have r1 : VarReads Tryz.prog W _ acceptData := (show Rows.laid_unicode_utf8_acceptRanges = acceptData by kernel_rfl) ▸ Lib.laidMet.reads hL (.head _)
 have r3 : VarReads Tryz.prog W _ (tabData .u16 foldTab) := (show Rows.laid_unicode_asciiFold = tabData .u16 foldTab by kernel_rfl) ▸ Lib.laidMet.reads hL (.tail _ (.head _))
 have tab3 : ∀ {n : String}, VarReads Tryz.prog W n (tabData .u16 foldTab) → Tryz.prog.globalNamed n = some 3 → gName 3 = n → TabIs Tryz.prog u (gName 3) .u16 foldTab := by
  intro n ⟨g', t, cs, fuel, p, hg, hty, hvar, hd⟩ hgn hn
  obtain rfl := Option.some.inj (hgn.symm.trans hg)
  obtain rfl : (123 : Nat) = t := Option.some.inj ((show (Tryz.prog.globals[3]?).map (·.type) = some 123 by kernel_rfl).symm.trans hty)
  have hcs := cells_of_tab Tryz.underlying123 Tryz.underlying122 (by kernel_rfl) (by kernel_rfl) hd
  have hlt : 3 < W.heap.size := var_lt hvar hgn
  unfold TabIs
  rw [hn, ← hcs]
  unfold World.var? at hvar ⊢
  rw [hgn, Option.bind_some] at hvar ⊢
  rw [hu 3 hlt, hvar]
 have t3 := tab3 r3 (by kernel_rfl) (by kernel_rfl)
 refine ⟨?_, ?_, fun c hc => ⟨_, t3.cell (by kernel_rfl) c (by rw [show foldTab.length = 128 by kernel_rfl]; exact hc), ?_, ?_, ?_, ?_, ?_, ?_⟩⟩
 ·exact World.ShapedOpen.of_heap (w := { W with heap := u.heap }) rfl (World.ShapedOpen.keptBut hS (hb.frame (fun _ => False)) (fun _ h => False.elim h))
 ·have h : Utf8Tabs 1 2 ({ W with heap := u.heap } : World) := Utf8Tabs_below (utf8Tabs_of_readsT (U8Types.of196 Tryz.lays196) ⟨by kernel_rfl, by kernel_rfl, by kernel_rfl, by kernel_rfl, by kernel_rfl, by kernel_rfl, by kernel_rfl⟩ r0 r1) hb
  exact h
 ·rintro rfl; kernel_rfl
 ·rintro rfl; kernel_rfl
 ·rintro rfl; kernel_rfl
 ·rintro rfl; kernel_rfl
 ·rintro rfl; kernel_rfl
 ·rintro rfl; kernel_rfl
end Go.Proofs.YtfokkdofcekdbaaGreatDoor
