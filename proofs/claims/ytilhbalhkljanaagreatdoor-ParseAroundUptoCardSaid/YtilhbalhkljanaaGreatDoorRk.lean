/- The reader's stack: its cells, the rows of its elements, its innermost one; a scope's copy. No condition. -/
import Derived.Test.YtilhbalhkljanaaGreatDoorWs
import Derived.Test.YtilhbalhkljanaaGreatDoorPf
import Derived.Test.YtilhbalhkljanaaGreatDoorTy
set_option linter.unusedVariables false
set_option linter.unusedSimpArgs false
namespace Go.Proofs.YtilhbalhkljanaaGreatDoor
def cK (p : Af × Nat) : List D := [.int .i64 p.1.node.Kind, .str p.1.node.Name.URI, .str p.1.node.Name.Local, .sl 3 (List.map Aa p.1.node.Attrs) 0, As 6 p.2 p.1.node.Kids, .str p.1.node.Text, .str p.1.raw, .sl 2 (List.map Ad p.1.in_.binds) 0]
theorem HT (p : Af × Nat) : (cK p).length = 8 := rfl
def EJ : List (Af × Nat) → List (Nat × AObj)
 | [] => []
 | p :: x => mo p.2 Ai p.1.node.Kids :: EJ x
theorem Dl {a : Af} {t : Nat} {x : List (Af × Nat)} : EJ ((a, t) :: x) = mo t Ai a.node.Kids :: EJ x := rfl
def zkR (x : List (Af × Nat)) : Prop := ∀ p ∈ x, p.2 = 0 → p.1.node.Kids = []
theorem BN {a : Af} {t : Nat} {x : List (Af × Nat)} : zkR ((a, t) :: x) ↔ (t = 0 → a.node.Kids = []) ∧ zkR x := by
 simp [zkR]
section
variable {β : Type} {G : β → Prop} {R : D → Heap → Prop}
theorem Kv {e : List Af} {b q j : Nat} {c1 c2 : D} {f : Af × List Af → Option β} {h : Heap} {O : List (Nat × AObj)} (ok : OK h O) (hj : O[j]? = some (q, .cells [.msl 8 b 0 (List.length e), c1, c2])) (hq : q ≠ 0)
  (hF : Ap ((Iz e (IntKind.wrap .i64 ((List.length e : Int) - (1 : Int)))).bind f) G) (hk : ∀ v, e = v.1 :: v.2 → Ap (f v) G → R (.ptr b (List.length v.2 * 8)) (Hp h O)) : CallsA Tryz.prog 53 [.ptr q 0] (Hp h O) R := by
 refine CallsA.ret ?_
 refine CB Tryz.func53 rfl dL Tryz.ntmps53 rfl ?_
 refine H7 ?_
 refine CF (mdl []) ?_
 refine S_a (v := .nilp) rfl ?_
 refine IZ ?_
 refine H7 ?_
 refine EP (mdl []) (by kernel_rfl) (by kernel_rfl) ?_
 refine S_m (v := .ptr _ _) rfl ?_
 refine S9 (v := .ptr _ _) rfl rfl ?_
 refine DA rfl KA FT ?_
 refine Ds (j := j) ok rfl rfl hj hq (B6 (v := .msl 8 b 0 (List.length e)) Lj FT rfl) ?_
 refine S_m (v := .ptr _ _) rfl ?_
 refine S9 (v := .ptr _ _) rfl rfl ?_
 refine DA rfl KA FT ?_
 refine Ds (j := j) ok rfl rfl hj hq (B6 (v := .msl 8 b 0 (List.length e)) Lj FT rfl) ?_
 refine HL (e := e) rfl EL ?_
 refine Ef rfl rfl (SK ..) ?_
 refine ZH (e := e) rfl rfl EL Ng hF (fun v he hF => ?_)
 refine S_a (v := .ptr _ _) rfl ?_
 refine IZ ?_
 refine N9 ?_
 refine Fs (fn := Tryz.f53) rfl (.tmp (v := .ptr b (List.length v.2 * 8)) rfl .nil) ?_
 exact ⟨_, _, .refl _, WH.refl _, hk v he hF⟩
theorem WI {f : List Ag → Option β} {p0 : List Ag} (h : Heap) (O : List (Nat × AObj)) (ok : OK h O) (hF : Ap ((app 32 [] p0).bind f) G)
  (hk : ∀ r i, (i = 0 → r = []) → OK h (mo i Ad r :: O) → Ap (f r) G → R (As 2 i r) (Hp h (mo i Ad r :: O))) : CallsA Tryz.prog 130 [.sl 2 (List.map Ad p0) 0] (Hp h O) R := by
 refine CallsA.ret ?_
 refine CB Tryz.func130 rfl Z1 Tryz.ntmps130 rfl ?_
 refine H7 ?_
 refine CF (mdl []) ?_
 by_cases hp : p0 = []
 ·have hv : ∀ n : Nat, EI (PU n [.sl 2 (List.map Ad p0) 0]) n = .sl 2 [] 0 := fun n => by rw [hp]; simp [PU, EI]
  refine aG (q := 2) 0 rfl (hv 0) ?_ ?_
  ·refine S_a (v := .snil) rfl ?_
   refine IZ ?_
   refine H7 ?_
   refine H7 ?_
   refine CF (mdl []) ?_
   refine S_m (v := .snil) rfl ?_
   refine Ef rfl rfl (cR (by rw [Ez]; rfl)) ?_
   refine IZ ?_
   refine Wm rfl rfl ?_
   refine H7 ?_
   refine CF (mdl []) ?_
   refine S_a (v := .snil) rfl ?_
   refine IZ ?_
   refine N9 ?_
   repeat (first | with_reducible refine Exit.sr ?_ | with_reducible refine Exit.br ?_ | with_reducible refine Exit.jr ?_)
   refine Fs (fn := Tryz.f130) rfl (.tmp (v := .snil) rfl .nil) ?_
   subst hp
   exact ⟨_, _, .refl _, WH.refl _, hk [] 0 (fun _ => rfl) (MU ok) (by
    obtain ⟨v, hv, hF⟩ := BT hF
    unfold app at hv
    split at hv
    all_goals first | (have e := Option.some.inj hv; subst e; exact hF) | (simp at hv; done))⟩
  ·subst hp
   refine S_a (v := .snil) rfl ?_
   refine IZ ?_
   refine H7 ?_
   refine H7 ?_
   refine CF (mdl []) ?_
   refine S_m (v := .slx _ _ _) rfl ?_
   refine Ef rfl rfl (dB (by rw [Ez]; rfl)) ?_
   refine IZ ?_
   refine V7 rfl rfl ?_
   refine MN ?_
   refine H7 ?_
   refine CF (mdl [(5, 1), (7, 1)]) ?_
   refine bB (q := 2) (es := []) (sp := []) 0 rfl ?_
   refine Ua (cs := []) (c := Ad) (e := []) ok rfl Ie rfl (by kernel_rfl) (by kernel_rfl) ?_
   intro g zg ok
   refine S_m (v := .sl _ _ _) rfl ?_
   refine II (j := 0) (M := ([] : List Ag)) ok zg rfl rfl (Jy (c := Ad) (M := ([] : List Ag)) (r := 0)) (fun _ => rfl) rfl Ie M9 hF ?_
   intro g2 zg2 ok hF
   refine S_a (v := As _ _ _) rfl ?_
   refine IZ ?_
   refine N9 ?_
   repeat (first | with_reducible refine Exit.sr ?_ | with_reducible refine Exit.br ?_ | with_reducible refine Exit.jr ?_)
   refine Fs (fn := Tryz.f130) rfl (.tmp (v := As 2 g2 ([] ++ ([] : List Ag))) rfl .nil) ?_
   exact ⟨_, _, .refl _, WH.refl _, hk _ g2 zg2 ok hF⟩
 ·
  refine S_a (v := .snil) rfl ?_
  refine IZ ?_
  refine H7 ?_
  refine H7 ?_
  refine CF (mdl []) ?_
  refine S_m (v := .sl _ _ _) rfl ?_
  refine Ef rfl rfl (co (by rw [Ez]; rfl) (by simpa using hp)) ?_
  refine IZ ?_
  refine V7 rfl rfl ?_
  refine MN ?_
  refine H7 ?_
  refine CF (mdl [(5, 1), (7, 1)]) ?_
  refine Ua (cs := []) (c := Ad) (e := []) ok rfl Ie rfl (by kernel_rfl) (by kernel_rfl) ?_
  intro g zg ok
  refine S_m (v := .sl _ _ _) rfl ?_
  refine II (j := 0) (M := p0) ok zg rfl rfl Jy (fun _ => rfl) rfl Ie M9 hF ?_
  intro g2 zg2 ok hF
  refine S_a (v := As _ _ _) rfl ?_
  refine IZ ?_
  refine N9 ?_
  repeat (first | with_reducible refine Exit.sr ?_ | with_reducible refine Exit.br ?_ | with_reducible refine Exit.jr ?_)
  refine Fs (fn := Tryz.f130) rfl (.tmp (v := As 2 g2 ([] ++ p0)) rfl .nil) ?_
  exact ⟨_, _, .refl _, WH.refl _, hk _ g2 zg2 ok hF⟩
end
end Go.Proofs.YtilhbalhkljanaaGreatDoor
