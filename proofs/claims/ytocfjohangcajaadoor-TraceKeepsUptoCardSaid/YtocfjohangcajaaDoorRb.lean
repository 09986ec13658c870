/- What every row of this seat needs: a world that meets the listed variables, and what they give a walk. No condition. -/
import Derived.Test.YtocfjohangcajaaDoorRa
import Derived.Test.YtocfjohangcajaaDoorCards
import Derived.Test.YtocfjohangcajaaDoorTie
import Derived.Test.YtocfjohangcajaaDoorEng25
import Derived.Test.YtocfjohangcajaaDoorSp
import Derived.Lib.LaidTab
import Derived.Lib.LaidU8
import Derived.LaidLaws
import Derived.Deep.DeepHandedRow
set_option linter.unusedVariables false
set_option maxRecDepth 100000
namespace Go.Proofs.YtocfjohangcajaaDoor
open Go.ChangeShapes Go.WideShapes Go.ChangeAt Go.RowKit Go.Lib Go.Shelf

theorem var_lt {W : World} {n : String} {cs : Array Value} {g : Nat} (h : W.var? Tryd.prog n = some cs) (hg : Tryd.prog.globalNamed n = some g) : g < W.heap.size := by
  apply Classical.byContradiction; intro hn
  unfold World.var? at h
  rw [hg, Option.bind_some, Array.getElem?_eq_none (by omega)] at h
  cases h
/-- What the list gives: the tables. -/
theorem tabs_of {W u : World} (hL : laidMetH Tryd.prog laidL W) (hS : W.ShapedOpen Tryd.prog) (hu : ∀ b, b < W.heap.size → u.heap[b]? = W.heap[b]?) : Tabs u := by
  have hsz : W.heap.size ≤ u.heap.size := by
    rcases Nat.eq_zero_or_pos W.heap.size with h | h
    · omega
    · have h1 := hu (W.heap.size - 1) (by omega)
      rw [Array.getElem?_eq_getElem (xs := W.heap) (by omega)] at h1
      have := (Array.getElem?_eq_some_iff.1 h1).1
      omega
  have hb : Below W.heap.size W { W with heap := u.heap } := ⟨rfl, rfl, rfl, hsz, hu⟩
  have r5 : VarReads Tryd.prog W _ (tabData .u64 pow10Tab) := (show Rows.laid_internal_strconv_uint64pow10 = tabData .u64 pow10Tab by kernel_rfl) ▸ Lib.laidMet.reads hL (.tail _ (.tail _ (.head _)))
  have r4 := Lib.laidMet.reads hL (.tail _ (.tail _ (.tail _ (.head _))))
  have r3 := Lib.laidMet.reads hL (.tail _ (.tail _ (.tail _ (.tail _ (.head _)))))
  have cellIf : ∀ {g : Nat} {n : String} {d : DataW Unit}, VarReads Tryd.prog W n d → Tryd.prog.globalNamed n = some g → (Tryd.prog.globals[g]?).map (·.type) = some 105 → (∃ nm e, d = .iface nm e) → ∃ v, u.cell? ⟨g, 0, none⟩ = some v ∧ isIf v := by
    intro g n d ⟨g', t, cs, fuel, p, hg, hty, hvar, hd⟩ hgn hgt ⟨nm, e, he⟩
    obtain rfl := Option.some.inj (hgn.symm.trans hg)
    obtain rfl := Option.some.inj (hgt.symm.trans hty)
    subst he
    obtain ⟨_, a, v, hc, _, _⟩ := iface_of_trod Tryd.underlying105 hd
    have h1 := World.var?_cell hg hvar 0
    rw [← Array.getElem?_toList, hc] at h1
    exact ⟨.iface a v, by rw [show u.cell? ⟨g, 0, none⟩ = ({ W with heap := u.heap } : World).cell? ⟨g, 0, none⟩ from rfl, hb.cell (var_lt hvar hg), h1]; rfl, .inr ⟨a, v, rfl⟩⟩
  have tab5 : ∀ {n : String}, VarReads Tryd.prog W n (tabData .u64 pow10Tab) → Tryd.prog.globalNamed n = some 2 → gName 2 = n → TabIs Tryd.prog u (gName 2) .u64 pow10Tab := by
    intro n ⟨g', t, cs, fuel, p, hg, hty, hvar, hd⟩ hgn hn
    obtain rfl := Option.some.inj (hgn.symm.trans hg)
    obtain rfl : (130 : Nat) = t := Option.some.inj ((show (Tryd.prog.globals[2]?).map (·.type) = some 130 by kernel_rfl).symm.trans hty)
    have hcs := cells_of_tab Tryd.underlying130 Tryd.underlying117 (by kernel_rfl) (by kernel_rfl) hd
    have hlt : 2 < W.heap.size := var_lt hvar hgn
    unfold TabIs
    rw [hn, ← hcs]
    unfold World.var? at hvar ⊢
    rw [hgn, Option.bind_some] at hvar ⊢
    rw [hu 2 hlt, hvar]
  refine ⟨?_, ?_, cellIf r3 (by kernel_rfl) (by kernel_rfl) ⟨_, _, rfl⟩, cellIf r4 (by kernel_rfl) (by kernel_rfl) ⟨_, _, rfl⟩⟩
  · exact World.ShapedOpen.of_heap (w := { W with heap := u.heap }) rfl (World.ShapedOpen.keptBut hS (hb.frame (fun _ => False)) (fun _ h => False.elim h))
  · exact tab5 r5 (by kernel_rfl) (by kernel_rfl)
end Go.Proofs.YtocfjohangcajaaDoor
