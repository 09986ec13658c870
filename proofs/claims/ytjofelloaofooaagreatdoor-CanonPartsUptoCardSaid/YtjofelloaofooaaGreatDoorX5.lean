/- CanonParts: the plain law. No condition. -/
import Derived.Test.YtjofelloaofooaaGreatDoorX3
import Derived.Test.YtjofelloaofooaaGreatDoorWk
set_option linter.unusedSimpArgs false
set_option linter.unusedVariables false
set_option maxRecDepth 20000
namespace Go.Proofs.YtjofelloaofooaaGreatDoor
open Go.Proofs.Tryz
def OO (q : List By8) : Aa := ⟨4, ⟨[], []⟩, [], [], q⟩
def Ko (d : Aa) (q : List By8) : Aa := ⟨1, ⟨[], []⟩, [], [OO q] ++ d.Kids, []⟩
theorem UH (q : List By8) : szN (OO q) <= q.length + 100 := by unfold OO; simp only [szN, Aq, List.map_nil, List.sum_nil, bj, Fa]; omega
theorem U5 (d : Aa) (q : List By8) : szN (Ko d q) <= szN d + q.length + 200 := by
 have h1 := UH q;have h2 := DO d;have e : Fa ([OO q] ++ d.Kids) = szN (OO q) + Fa d.Kids := rfl;have h3 : szN (Ko d q) <= Fa ([OO q] ++ d.Kids) + 100 := by
  unfold Ko;simp only [szN, Aq, List.map_nil, List.sum_nil, bj];omega
 omega
theorem TB {d : Aa} (hd : szN d <= 1049600) (h : AX d = some 0) : Hq d = [] := by
 obtain ⟨hk, _⟩ := Pc hd h;have h1 : d.Kind = 1 := by
  by_cases h1 : d.Kind = 1
  ·exact h1
  ·exfalso;unfold AX at h;rw [IX d hd, show (d.Kind != (1 : Int)) = true by simpa using h1] at h;simp only [ba, AA, bb] at h;cases h
 have h2 := hk d (by rw [B1]; exact List.mem_cons_self);unfold EF Oo Is at h2;rw [if_pos h1] at h2;simp only [Bool.and_eq_true, beq_iff_eq, List.isEmpty_iff] at h2;obtain ⟨_, ⟨⟨hu, _⟩, _⟩, ha⟩ := h2;unfold Hq;rw [hu, ha];rfl
theorem PX_add {d : Aa} (q : List By8) (h : Hq d = []) : PX (Ko d q) = PX d := by
 have e : CK (Ko d q) = CK d := by
  rw [Gm, Gm, h];have e1 : Hq (Ko d q) = [] := rfl;have e2 : E5 (Ko d q).Kids = CK (OO q) ++ E5 d.Kids := by
   show E5 ([OO q] ++ d.Kids) = _;unfold E5 CK;rw [CX, List.flatMap_append];simp [B4]
  have e3 : CK (OO q) = [] := by
   rw [Gm];rfl
  rw [e1, e2, e3];rfl
 unfold PX;rw [e]
theorem Tb (ps : List (List By8)) (d : Aa) (q : List By8) : EG ps (Ko d q).Kids = [60, 33, 45, 45] ++ q ++ [45, 45, 62, 10] ++ EG ps d.Kids := by
 show EG ps ([OO q] ++ d.Kids) = _;unfold EG;rw [List.flatMap_append];have e : shN ps (OO q) true = [60, 33, 45, 45] ++ q ++ [45, 45, 62] := by
  rw [Lb];rfl
 simp [e]
theorem I7 (d : Aa) (q : List By8) (hs : szN d + q.length <= 1049000) : BJ d q = some true := by
 have hd : szN d <= 1049600 := by omega
 have hz := U5 d q;have hd' : szN (Ko d q) <= 1049600 := by omega
 obtain ⟨r, hw, _, hl, c, hc, h0, h1⟩ := KN d hd;obtain ⟨r', hw', _, hl', c', hc', h0', h1'⟩ := KN (Ko d q) hd';have hk := Br d;unfold BJ;rw [Tq, ba, Bool.not_true, bc, hw, ba];by_cases hr : r.2 = 0
 ·have hc0 : c = 0 := Classical.byContradiction fun h => by rw [h1 h] at hr; exact h hr
  have er := h0 hc0;subst hc0;have htl : (EG (PX d) d.Kids).length <= 65536 := by
   rcases Nat.lt_or_ge 65536 (EG (PX d) d.Kids).length with h | h
   ·rw [er] at hr; unfold wrX at hr; rw [if_pos h] at hr; exact absurd hr (by decide)
   ·exact h
  have er' : r = (EG (PX d) d.Kids, 0) := by rw [er]; unfold wrX; rw [if_neg (by omega)]
  have hpx := PX_add q (TB hd hc);have htx := Tb (PX d) d q;have hroot : (⟨(1 : Int), (⟨([] : List By8), ([] : List By8)⟩ : Ac), ([] : List Ae), ([(⟨(4 : Int), (⟨([] : List By8), ([] : List By8)⟩ : Ac), ([] : List Ae), ([] : List Aa), q⟩ : Aa)] ++ d.Kids), ([] : List By8)⟩ : Aa) = Ko d q := rfl;rw [show (r.2 != (0 : Int)) = false by rw [hr]; rfl, bc, EE (by simp only [bi, bj]; omega) (by simp only [bi, bj]; omega), ba, hroot, hw', ba];have hlen : (EG (PX (Ko d q)) (Ko d q).Kids).length = (EG (PX d) d.Kids).length + q.length + 8 := by
   rw [hpx, htx]; simp; omega
  by_cases hr2 : r'.2 = 0
  ·have hc0' : c' = 0 := Classical.byContradiction fun h => by rw [h1' h] at hr2; exact h hr2
   have e2 := h0' hc0';have hle : ¬ 65536 < (EG (PX (Ko d q)) (Ko d q).Kids).length := fun h => by
    rw [e2] at hr2; unfold wrX at hr2; rw [if_pos h] at hr2; exact absurd hr2 (by decide)
   have e3 : r' = (EG (PX (Ko d q)) (Ko d q).Kids, 0) := by rw [e2]; unfold wrX; rw [if_neg hle]
   rw [show (r'.2 != (0 : Int)) = false by rw [hr2]; rfl, bc, DP (by simp only [bi, bj]; omega), ba, DP (by simp only [bm, bi, bj]; omega), ba, EE (by simp only [bm, bi, bj]; omega) (by simp only [bm, bi, bj]; omega), ba];have e4 : r'.1 = [60, 33, 45, 45] ++ q ++ [45, 45, 62, 10] ++ r.1 := by rw [e3, er', hpx]; exact htx
   unfold BH;rw [<- e4, beq_self_eq_true];rfl
  ·rw [show (r'.2 != (0 : Int)) = true by simpa using hr2, bb, hc', ba];by_cases hc0' : c' = 0
   ·have e2 := h0' hc0';have hgt : 65536 < (EG (PX (Ko d q)) (Ko d q).Kids).length := Classical.byContradiction fun h => by
     rw [e2] at hr2; unfold wrX at hr2; rw [if_neg h] at hr2; exact hr2 rfl
    have e3 : r'.2 = 6 := by rw [e2]; unfold wrX; rw [if_pos hgt]
    have e5 : (r.1.length : Int) = ((EG (PX d) d.Kids).length : Int) := by rw [er']
    have i1 : IntKind.wrap .i64 ((r.1.length : Int) + (q.length : Int)) = (r.1.length : Int) + (q.length : Int) := w64 (by omega) (by omega);have i2 : IntKind.wrap .i64 ((r.1.length : Int) + (q.length : Int) + 8) = (r.1.length : Int) + (q.length : Int) + 8 := w64 (by omega) (by omega);rw [e3, i1, i2, bf (by omega)];simp
   ·rw [show (c' != (0 : Int)) = true by simpa using hc0'];rfl
 ·rw [show (r.2 != (0 : Int)) = true by simpa using hr, bb]

set_option linter.unusedVariables false
theorem H7 (d : Aa) (q : List By8) {b0 b1 : Nat} (t0 : szN d <= b0) (t1 : q.length + 1 <= b1) (hb : b0 + b1 <= 1048576) (hp : Heap) : CallsA prog 4 [.agg (Ad d), .str q] hp fun d _ => d = .bool true :=
 (EZ d q (G := fun b => b = true) hp ⟨true, I7 d q (by omega), rfl⟩).mono fun d h' ⟨r, hr, hd⟩ => by subst hr; exact hd

set_option linter.unusedVariables false
set_option maxRecDepth 100000
open Go.ChangeShapes Go.WideShapes Go.ChangeAt Go.RowKit Go.Lib
def Jb (x : Aa) : Prop := True
theorem GI {H : Type} {enc : TypeId × Value -> H} {w : World} {base : Nat} {held : Bool} : ∀ N : Nat, B.Rds N enc prog w base (fun _ => true) held 27 Jb Aq Ad
 | 0 => B.Rds.zero
 | N + 1 => B.rd_structS underlying27 (.cons (k := 1) rfl (by kernel_rfl) (B.rd_int underlying3) (.cons (k := 2) rfl (by kernel_rfl) (B.rd_struct underlying23 (.cons (k := 1) rfl (by kernel_rfl) (B.rd_str underlying9) (.cons (k := 1) rfl (by kernel_rfl) (B.rd_str underlying9) .nil)) (by kernel_rfl) (ok' := (fun x : Ac => ((fun s : List By8 => s.length <= 9223372036854775807)) x.URI /\ ((fun s : List By8 => s.length <= 9223372036854775807)) x.Local /\ True)) (sz' := (fun x : Ac => ((fun s : List By8 => s.length + 1) x.URI + ((fun s : List By8 => s.length + 1) x.Local + 0)) + 1)) (c' := AB) (fun y => (⟨y.1, y.2.1⟩ : Ac)) (fun y h => ⟨h, rfl, rfl⟩)) (.cons (k := 1) rfl (by kernel_rfl) (B.rd_slice underlying24 (k := 3) (by kernel_rfl) (by decide) (fun _ _ => rfl) (B.rd_struct underlying47 (.cons (k := 2) rfl (by kernel_rfl) (B.rd_struct underlying23 (.cons (k := 1) rfl (by kernel_rfl) (B.rd_str underlying9) (.cons (k := 1) rfl (by kernel_rfl) (B.rd_str underlying9) .nil)) (by kernel_rfl) (ok' := (fun x : Ac => ((fun s : List By8 => s.length <= 9223372036854775807)) x.URI /\ ((fun s : List By8 => s.length <= 9223372036854775807)) x.Local /\ True)) (sz' := (fun x : Ac => ((fun s : List By8 => s.length + 1) x.URI + ((fun s : List By8 => s.length + 1) x.Local + 0)) + 1)) (c' := AB) (fun y => (⟨y.1, y.2.1⟩ : Ac)) (fun y h => ⟨h, rfl, rfl⟩)) (.cons (k := 1) rfl (by kernel_rfl) (B.rd_str underlying9) .nil)) (by kernel_rfl) (ok' := (fun x : Ae => ((fun x : Ac => ((fun s : List By8 => s.length <= 9223372036854775807)) x.URI /\ ((fun s : List By8 => s.length <= 9223372036854775807)) x.Local /\ True)) x.Name /\ ((fun s : List By8 => s.length <= 9223372036854775807)) x.Value /\ True)) (sz' := (fun x : Ae => ((fun x : Ac => ((fun s : List By8 => s.length + 1) x.URI + ((fun s : List By8 => s.length + 1) x.Local + 0)) + 1) x.Name + ((fun s : List By8 => s.length + 1) x.Value + 0)) + 1)) (c' := Aj) (fun y => (⟨y.1, y.2.1⟩ : Ae)) (fun y h => ⟨h, rfl, rfl⟩))) (.cons (k := 1) rfl (by kernel_rfl) (B.rd_slice underlying25 (k := 6) (by kernel_rfl) (by decide) (fun y _ => by rw [Ab]; rfl) (GI N)) (.cons (k := 1) rfl (by kernel_rfl) (B.rd_str underlying9) .nil))))) (by kernel_rfl) (fun y => (⟨y.1, y.2.1, y.2.2.1, y.2.2.2.1, y.2.2.2.2.1⟩ : Aa)) (fun y h => ⟨trivial, by show Aq (⟨_, _, _, _, _⟩ : Aa) = _; rw [Aq, Hk], by rw [Ab]; rfl⟩)
end Go.Proofs.YtjofelloaofooaaGreatDoor
