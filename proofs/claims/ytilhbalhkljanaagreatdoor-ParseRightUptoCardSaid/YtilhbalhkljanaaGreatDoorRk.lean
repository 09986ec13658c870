/- The reader's stack: its cells, the rows of its elements, its innermost one; a scope's copy. No condition. -/
import Derived.Test.YtilhbalhkljanaaGreatDoorWs
import Derived.Test.YtilhbalhkljanaaGreatDoorPf
import Derived.Test.YtilhbalhkljanaaGreatDoorTy
set_option linter.unusedVariables false
set_option linter.unusedSimpArgs false
namespace Go.Proofs.YtilhbalhkljanaaGreatDoor
def cK (p : Ag × Nat) : List D := [.int .i64 p.1.node.Kind, .str p.1.node.Name.URI, .str p.1.node.Name.Local, .sl 3 (List.map Ac p.1.node.Attrs) 0, Aq 6 p.2 p.1.node.Kids, .str p.1.node.Text, .str p.1.raw, .sl 2 (List.map Af p.1.in_.binds) 0]
theorem IB (p : Ag × Nat) : (cK p).length = 8 := rfl
def E5 : List (Ag × Nat) → List (Nat × AObj)
 | [] => []
 | p :: x => mo p.2 Ae p.1.node.Kids :: E5 x
theorem Dz {a : Ag} {t : Nat} {x : List (Ag × Nat)} : E5 ((a, t) :: x) = mo t Ae a.node.Kids :: E5 x := rfl
def zkR (x : List (Ag × Nat)) : Prop := ∀ p ∈ x, p.2 = 0 → p.1.node.Kids = []
theorem BT {a : Ag} {t : Nat} {x : List (Ag × Nat)} : zkR ((a, t) :: x) ↔ (t = 0 → a.node.Kids = []) ∧ zkR x := by
 simp [zkR]
section
variable {β : Type} {G : β → Prop} {R : D → Heap → Prop}
theorem K1 {e : List Ag} {b q j : Nat} {c1 c2 : D} {f : Ag × List Ag → Option β} {h : Heap} {O : List (Nat × AObj)} (ok : OK h O) (hj : O[j]? = some (q, .cells [.msl 8 b 0 (List.length e), c1, c2])) (hq : q ≠ 0)
  (hF : Am ((Jm e (IntKind.wrap .i64 ((List.length e : Int) - (1 : Int)))).bind f) G) (hk : ∀ v, e = v.1 :: v.2 → Am (f v) G → R (.ptr b (List.length v.2 * 8)) (Hp h O)) : CallsA Tryz.prog 53 [.ptr q 0] (Hp h O) R := by
 refine CallsA.ret ?_
 refine CJ Tryz.func53 rfl gw Tryz.ntmps53 rfl ?_
 refine IQ ?_
 refine CR (mdl []) ?_
 refine S_a (v := .nilp) rfl ?_
 refine Ju ?_
 refine IQ ?_
 refine EW (mdl []) (by kernel_rfl) (by kernel_rfl) ?_
 refine S_m (v := .ptr _ _) rfl ?_
 refine UO (v := .ptr _ _) rfl rfl ?_
 refine DF rfl Lp GE ?_
 refine DT (j := j) ok rfl rfl hj hq (Bf (v := .msl 8 b 0 (List.length e)) Lr GE rfl) ?_
 refine S_m (v := .ptr _ _) rfl ?_
 refine UO (v := .ptr _ _) rfl rfl ?_
 refine DF rfl Lp GE ?_
 refine DT (j := j) ok rfl rfl hj hq (Bf (v := .msl 8 b 0 (List.length e)) Lr GE rfl) ?_
 refine ID (e := e) rfl E7 ?_
 refine D4 rfl rfl (Td ..) ?_
 refine bL (e := e) rfl rfl E7 NT hF (fun v he hF => ?_)
 refine S_a (v := .ptr _ _) rfl ?_
 refine Ju ?_
 refine Oa ?_
 refine F6 (fn := Tryz.f53) rfl (.tmp (v := .ptr b (List.length v.2 * 8)) rfl .nil) ?_
 exact ⟨_, _, .refl _, WH.refl _, hk v he hF⟩
theorem ZQ {f : List Ai → Option β} {p0 : List Ai} (h : Heap) (O : List (Nat × AObj)) (ok : OK h O) (hF : Am ((app 32 [] p0).bind f) G)
  (hk : ∀ r i, (i = 0 → r = []) → OK h (mo i Af r :: O) → Am (f r) G → R (Aq 2 i r) (Hp h (mo i Af r :: O))) : CallsA Tryz.prog 130 [.sl 2 (List.map Af p0) 0] (Hp h O) R := by
 refine CallsA.ret ?_
 refine CJ Tryz.func130 rfl dB Tryz.ntmps130 rfl ?_
 refine IQ ?_
 refine CR (mdl []) ?_
 by_cases hp : p0 = []
 ·have hv : ∀ n : Nat, EL (Q9 n [.sl 2 (List.map Af p0) 0]) n = .sl 2 [] 0 := fun n => by rw [hp]; simp [Q9, EL]
  refine ef (q := 2) 0 rfl (hv 0) ?_ ?_
  ·refine S_a (v := .snil) rfl ?_
   refine Ju ?_
   refine IQ ?_
   refine IQ ?_
   refine CR (mdl []) ?_
   refine S_m (v := .snil) rfl ?_
   refine D4 rfl rfl (f5 (by rw [EP]; rfl)) ?_
   refine Ju ?_
   refine Zv rfl rfl ?_
   refine IQ ?_
   refine CR (mdl []) ?_
   refine S_a (v := .snil) rfl ?_
   refine Ju ?_
   refine Oa ?_
   repeat (first | with_reducible refine Exit.sr ?_ | with_reducible refine Exit.br ?_ | with_reducible refine Exit.jr ?_)
   refine F6 (fn := Tryz.f130) rfl (.tmp (v := .snil) rfl .nil) ?_
   subst hp
   exact ⟨_, _, .refl _, WH.refl _, hk [] 0 (fun _ => rfl) (OR ok) (by
    obtain ⟨v, hv, hF⟩ := BD hF
    unfold app at hv
    split at hv
    all_goals first | (have e := Option.some.inj hv; subst e; exact hF) | (simp at hv; done))⟩
  ·subst hp
   refine S_a (v := .snil) rfl ?_
   refine Ju ?_
   refine IQ ?_
   refine IQ ?_
   refine CR (mdl []) ?_
   refine S_m (v := .slx _ _ _) rfl ?_
   refine D4 rfl rfl (f9 (by rw [EP]; rfl)) ?_
   refine Ju ?_
   refine Yu rfl rfl ?_
   refine NA ?_
   refine IQ ?_
   refine CR (mdl [(5, 1), (7, 1)]) ?_
   refine d5 (q := 2) (es := []) (sp := []) 0 rfl ?_
   refine Vp (cs := []) (c := Af) (e := []) ok rfl I0 rfl (by kernel_rfl) (by kernel_rfl) ?_
   intro g zg ok
   refine S_m (v := .sl _ _ _) rfl ?_
   refine I4 (j := 0) (M := ([] : List Ai)) ok zg rfl rfl (JS (c := Af) (M := ([] : List Ai)) (r := 0)) (fun _ => rfl) rfl I0 NZ hF ?_
   intro g2 zg2 ok hF
   refine S_a (v := Aq _ _ _) rfl ?_
   refine Ju ?_
   refine Oa ?_
   repeat (first | with_reducible refine Exit.sr ?_ | with_reducible refine Exit.br ?_ | with_reducible refine Exit.jr ?_)
   refine F6 (fn := Tryz.f130) rfl (.tmp (v := Aq 2 g2 ([] ++ ([] : List Ai))) rfl .nil) ?_
   exact ⟨_, _, .refl _, WH.refl _, hk _ g2 zg2 ok hF⟩
 ·
  refine S_a (v := .snil) rfl ?_
  refine Ju ?_
  refine IQ ?_
  refine IQ ?_
  refine CR (mdl []) ?_
  refine S_m (v := .sl _ _ _) rfl ?_
  refine D4 rfl rfl (fG (by rw [EP]; rfl) (by simpa using hp)) ?_
  refine Ju ?_
  refine Yu rfl rfl ?_
  refine NA ?_
  refine IQ ?_
  refine CR (mdl [(5, 1), (7, 1)]) ?_
  refine Vp (cs := []) (c := Af) (e := []) ok rfl I0 rfl (by kernel_rfl) (by kernel_rfl) ?_
  intro g zg ok
  refine S_m (v := .sl _ _ _) rfl ?_
  refine I4 (j := 0) (M := p0) ok zg rfl rfl JS (fun _ => rfl) rfl I0 NZ hF ?_
  intro g2 zg2 ok hF
  refine S_a (v := Aq _ _ _) rfl ?_
  refine Ju ?_
  refine Oa ?_
  repeat (first | with_reducible refine Exit.sr ?_ | with_reducible refine Exit.br ?_ | with_reducible refine Exit.jr ?_)
  refine F6 (fn := Tryz.f130) rfl (.tmp (v := Aq 2 g2 ([] ++ p0)) rfl .nil) ?_
  exact ⟨_, _, .refl _, WH.refl _, hk _ g2 zg2 ok hF⟩
end
end Go.Proofs.YtilhbalhkljanaaGreatDoor
