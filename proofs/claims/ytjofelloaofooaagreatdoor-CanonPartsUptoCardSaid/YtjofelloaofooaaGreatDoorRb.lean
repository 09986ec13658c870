/- What every row of this seat needs: what the listed variables give a walk. No condition. -/
import Derived.Lib.LaidU8
import Derived.Test.YtjofelloaofooaaGreatDoorRa
set_option linter.unusedVariables false
set_option maxRecDepth 100000
namespace Go.Proofs.YtjofelloaofooaaGreatDoor
open Go.Proofs.Tryz
open Go.ChangeShapes Go.WideShapes Go.ChangeAt Go.RowKit Go.Lib Go.Shelf
theorem RO {W : World} {n : String} {cs : Array Value} {g : Nat} (h : W.var? prog n = some cs) (hg : prog.globalNamed n = some g) : g < W.heap.size := by
 apply Classical.byContradiction; intro hn;unfold World.var? at h;rw [hg, ba, Array.getElem?_eq_none (by omega)] at h;cases h
def IV : List Int := match (Rows.laid_unicode_asciiFold : DataW Unit) with
 | .agg l => l.map fun
  | .lit (.int _ z) => z
  | _ => 0
 | _ => []
theorem SH {W u : World} (hL : laidMetH prog QC W) (hS : W.ShapedOpen prog) (hu : ∀ b, b < W.heap.size -> u.heap[b]? = W.heap[b]?) : Tabs u := by
 have hsz : W.heap.size <= u.heap.size := by
  rcases Nat.eq_zero_or_pos W.heap.size with h | h
  ·omega
  ·have h1 := hu (W.heap.size - 1) (by omega);rw [Array.getElem?_eq_getElem (xs := W.heap) (by omega)] at h1;have := (Array.getElem?_eq_some_iff.1 h1).1;omega
 have hb : Below W.heap.size W { W with heap := u.heap } := ⟨rfl, rfl, rfl, hsz, hu⟩
 have r0 : VarReads prog W _ firstData := (show Rows.laid_unicode_utf8_first = firstData from Pinned.utf8First_eq) ▸ Lib.laidMet.reads hL (.tail _ (.tail _ (.tail _ (.tail _ (.tail _ (.tail _ (.tail _ (.head _))))))));have r1 : VarReads prog W _ acceptData := (show Rows.laid_unicode_utf8_acceptRanges = acceptData by kernel_rfl) ▸ Lib.laidMet.reads hL (.tail _ (.tail _ (.tail _ (.head _))));have r3 : VarReads prog W _ (tabData .u16 IV) := (show Rows.laid_unicode_asciiFold = tabData .u16 IV by kernel_rfl) ▸ Lib.laidMet.reads hL (.tail _ (.tail _ (.tail _ (.tail _ (.head _)))));have tab3 : ∀ {n : String}, VarReads prog W n (tabData .u16 IV) -> prog.globalNamed n = some 2 -> Pi 2 = n -> TabIs prog u (Pi 2) .u16 IV := by
  intro n ⟨g', t, cs, fuel, p, hg, hty, hvar, hd⟩ hgn hn;obtain rfl := Option.some.inj (hgn.symm.trans hg);obtain rfl : (198 : Nat) = t := Option.some.inj ((show (prog.globals[2]?).map (·.type) = some 198 by kernel_rfl).symm.trans hty);have hcs := cells_of_tab underlying198 underlying197 (by kernel_rfl) (by kernel_rfl) hd;have hlt : 2 < W.heap.size := RO hvar hgn;unfold TabIs;rw [hn, <- hcs];unfold World.var? at hvar ⊢;rw [hgn, ba] at hvar ⊢;rw [hu 2 hlt, hvar]
 have r5 : VarReads prog W _ (tabData .u64 pow10Tab) := (show Rows.laid_internal_strconv_uint64pow10 = tabData .u64 pow10Tab by kernel_rfl) ▸ Lib.laidMet.reads hL (.tail _ (.tail _ (.head _)));have tab5 : ∀ {n : String}, VarReads prog W n (tabData .u64 pow10Tab) -> prog.globalNamed n = some 6 -> Pi 6 = n -> TabIs prog u (Pi 6) .u64 pow10Tab := by
  intro n ⟨g', t, cs, fuel, p, hg, hty, hvar, hd⟩ hgn hn;obtain rfl := Option.some.inj (hgn.symm.trans hg);obtain rfl : (308 : Nat) = t := Option.some.inj ((show (prog.globals[6]?).map (·.type) = some 308 by kernel_rfl).symm.trans hty);have hcs := cells_of_tab underlying308 underlying187 (by kernel_rfl) (by kernel_rfl) hd;have hlt : 6 < W.heap.size := RO hvar hgn;unfold TabIs;rw [hn, <- hcs];unfold World.var? at hvar ⊢;rw [hgn, ba] at hvar ⊢;rw [hu 6 hlt, hvar]
 have t3 := tab3 r3 (by kernel_rfl) (by kernel_rfl);refine ⟨?_, ?_, fun c hc => ⟨_, t3.cell (by kernel_rfl) c (by rw [show IV.length = 128 by kernel_rfl]; exact hc), ?_, ?_, ?_, ?_, ?_, ?_⟩, tab5 r5 (by kernel_rfl) (by kernel_rfl)⟩
 ·exact World.ShapedOpen.of_heap (w := { W with heap := u.heap }) rfl (World.ShapedOpen.keptBut hS (hb.frame (fun _ => False)) (fun _ h => False.elim h))
 ·have h : Utf8Tabs 0 1 ({ W with heap := u.heap } : World) := Utf8Tabs_below (utf8Tabs_of_readsT (U8Types.of196 Tryz.lays196) ⟨by kernel_rfl, by kernel_rfl, by kernel_rfl, by kernel_rfl, by kernel_rfl, by kernel_rfl, by kernel_rfl⟩ r0 r1) hb;exact h
 ·rintro rfl; kernel_rfl
 ·rintro rfl; kernel_rfl
 ·rintro rfl; kernel_rfl
 ·rintro rfl; kernel_rfl
 ·rintro rfl; kernel_rfl
 ·rintro rfl; kernel_rfl
end Go.Proofs.YtjofelloaofooaaGreatDoor
