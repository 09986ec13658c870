/- What every row of this seat needs: what the listed variables give a walk. No condition. -/
import Derived.Lib.LaidU8
import Derived.Test.YtmnbjcpikllknaaGreatDoorRa
set_option linter.unusedVariables false
set_option maxRecDepth 100000
namespace Go.Proofs.YtmnbjcpikllknaaGreatDoor
open Go.Proofs.Tryz
open Go.ChangeShapes Go.WideShapes Go.ChangeAt Go.RowKit Go.Lib Go.Shelf
theorem Vj {W:World} {n:String} {cs:Array Value} {g:Nat} (h:W.var? prog n=some cs) (hg:prog.globalNamed n=some g):g < W.heap.size:=by
 apply Classical.byContradiction;intro hn;unfold World.var? at h;rw [hg,ba,Array.getElem?_eq_none (by omega)] at h;cases h
def MC:List Int:=match (Rows.laid_unicode_asciiFold:DataW Unit) with
 | .agg l=>l.map fun
  | .lit (.int _ z)=>z
  | _=>0
 | _=>[]
theorem Zw {W u:World} (hL:laidMetH prog WE W) (hS:W.ShapedOpen prog) (hu:∀ b,b < W.heap.size -> u.heap[b]?=W.heap[b]?):Tabs u:=by
 have hsz:W.heap.size <= u.heap.size:=by
  rcases Nat.eq_zero_or_pos W.heap.size with h | h
  ·omega
  ·have h1:=hu (W.heap.size - 1) (by omega);rw [Array.getElem?_eq_getElem (xs:=W.heap) (by omega)] at h1;have:=(Array.getElem?_eq_some_iff.1 h1).1;omega
 have hb:Below W.heap.size W { W with heap:=u.heap }:=⟨rfl,rfl,rfl,hsz,hu⟩
 have r0:VarReads prog W _ firstData:=(show Rows.laid_unicode_utf8_first=firstData from Pinned.utf8First_eq) ▸ Lib.laidMet.reads hL (.tail _ (.tail _ (.tail _ (.tail _ (.tail _ (.tail _ (.tail _ (.tail _ (.tail _ (.head _))))))))));have r1:VarReads prog W _ acceptData:=(show Rows.laid_unicode_utf8_acceptRanges=acceptData by kernel_rfl) ▸ Lib.laidMet.reads hL (.tail _ (.tail _ (.tail _ (.head _))));have r3:VarReads prog W _ (tabData .u16 MC):=(show Rows.laid_unicode_asciiFold=tabData .u16 MC by kernel_rfl) ▸ Lib.laidMet.reads hL (.tail _ (.tail _ (.tail _ (.tail _ (.tail _ (.tail _ (.head _)))))));have tab3:∀ {n:String},VarReads prog W n (tabData .u16 MC) -> prog.globalNamed n=some 2 -> Vv 2=n -> TabIs prog u (Vv 2) .u16 MC:=by
  intro n ⟨g',t,cs,fuel,p,hg,hty,hvar,hd⟩ hgn hn;obtain rfl:=Option.some.inj (hgn.symm.trans hg);obtain rfl:(230:Nat)=t:=Option.some.inj ((show (prog.globals[2]?).map (·.type)=some 230 by kernel_rfl).symm.trans hty);have hcs:=cells_of_tab underlying230 underlying229 (by kernel_rfl) (by kernel_rfl) hd;have hlt:2 < W.heap.size:=Vj hvar hgn;unfold TabIs;rw [hn,<- hcs];unfold World.var? at hvar ⊢;rw [hgn,ba] at hvar ⊢;rw [hu 2 hlt,hvar]
 have r5:VarReads prog W _ (tabData .u64 pow10Tab):=(show Rows.laid_internal_strconv_uint64pow10=tabData .u64 pow10Tab by kernel_rfl) ▸ Lib.laidMet.reads hL (.tail _ (.tail _ (.head _)));have rE:=Lib.laidMet.reads hL (.tail _ (.tail _ (.tail _ (.tail _ (.head _)))));have rS:=Lib.laidMet.reads hL (.tail _ (.tail _ (.tail _ (.tail _ (.tail _ (.head _))))));have cellIf:∀ {g:Nat} {n:String} {d:DataW Unit},VarReads prog W n d -> prog.globalNamed n=some g -> (prog.globals[g]?).map (·.type)=some 261 -> (∃ nm e,d=.iface nm e) -> ∃ v,u.cell? ⟨g,0,none⟩=some v /\ Ahr v:=by
  intro g n d ⟨g',t,cs,fuel,p,hg,hty,hvar,hd⟩ hgn hgt ⟨nm,e,he⟩;obtain rfl:=Option.some.inj (hgn.symm.trans hg);obtain rfl:=Option.some.inj (hgt.symm.trans hty);subst he;obtain ⟨_,a,v,hc,_,_⟩:=iface_of_trod underlying261 hd;have h1:=World.var?_cell hg hvar 0;rw [<- Array.getElem?_toList,hc] at h1;exact ⟨.iface a v,by rw [show u.cell? ⟨g,0,none⟩=({ W with heap:=u.heap }:World).cell? ⟨g,0,none⟩ from rfl,hb.cell (Vj hvar hg),h1];rfl,.inr ⟨a,v,rfl⟩⟩
 have tab5:∀ {n:String},VarReads prog W n (tabData .u64 pow10Tab) -> prog.globalNamed n=some 9 -> Vv 9=n -> TabIs prog u (Vv 9) .u64 pow10Tab:=by
  intro n ⟨g',t,cs,fuel,p,hg,hty,hvar,hd⟩ hgn hn;obtain rfl:=Option.some.inj (hgn.symm.trans hg);obtain rfl:(291:Nat)=t:=Option.some.inj ((show (prog.globals[9]?).map (·.type)=some 291 by kernel_rfl).symm.trans hty);have hcs:=cells_of_tab underlying291 underlying166 (by kernel_rfl) (by kernel_rfl) hd;have hlt:9 < W.heap.size:=Vj hvar hgn;unfold TabIs;rw [hn,<- hcs];unfold World.var? at hvar ⊢;rw [hgn,ba] at hvar ⊢;rw [hu 9 hlt,hvar]
 have t3:=tab3 r3 (by kernel_rfl) (by kernel_rfl);refine ⟨?_,?_,fun c hc=>⟨_,t3.cell (by kernel_rfl) c (by rw [show MC.length=128 by kernel_rfl];exact hc),?_,?_,?_,?_,?_,?_⟩,tab5 r5 (by kernel_rfl) (by kernel_rfl),cellIf rS (by kernel_rfl) (by kernel_rfl) ⟨_,_,rfl⟩,cellIf rE (by kernel_rfl) (by kernel_rfl) ⟨_,_,rfl⟩⟩
 ·exact World.ShapedOpen.of_heap (w:={ W with heap:=u.heap }) rfl (World.ShapedOpen.keptBut hS (hb.frame (fun _=>False)) (fun _ h=>False.elim h))
 ·have h:Utf8Tabs 0 1 ({ W with heap:=u.heap }:World):=Utf8Tabs_below (utf8Tabs_of_readsT (U8Types.of196 Tryz.lays196) ⟨by kernel_rfl,by kernel_rfl,by kernel_rfl,by kernel_rfl,by kernel_rfl,by kernel_rfl,by kernel_rfl⟩ r0 r1) hb;exact h
 ·rintro rfl;kernel_rfl
 ·rintro rfl;kernel_rfl
 ·rintro rfl;kernel_rfl
 ·rintro rfl;kernel_rfl
 ·rintro rfl;kernel_rfl
 ·rintro rfl;kernel_rfl
end Go.Proofs.YtmnbjcpikllknaaGreatDoor
