/- The reader's stack: its cells, the rows of its elements, its innermost one; a scope's copy. No condition. -/
import Derived.Test.YtilhbalhkljanaaGreatDoorWs
import Derived.Test.YtilhbalhkljanaaGreatDoorPf
import Derived.Test.YtilhbalhkljanaaGreatDoorTy
set_option linter.unusedVariables false
set_option linter.unusedSimpArgs false
namespace Go.Proofs.YtilhbalhkljanaaGreatDoor
def cK (p : T_parse_open × Nat) : List D := [.int .i64 p.1.node.Kind, .str p.1.node.Name.URI, .str p.1.node.Name.Local, .sl 3 (List.map c_T_api_Attr p.1.node.Attrs) 0, mslO 6 p.2 p.1.node.Kids, .str p.1.node.Text, .str p.1.raw, .sl 2 (List.map c_T_scope_bind p.1.in_.binds) 0]
theorem cK_len (p : T_parse_open × Nat) : (cK p).length = 8 := rfl
def hidR : List (T_parse_open × Nat) → List (Nat × AObj)
 | [] => []
 | p :: x => mo p.2 c_T_api_Node p.1.node.Kids :: hidR x
theorem hidR_cons {a : T_parse_open} {t : Nat} {x : List (T_parse_open × Nat)} : hidR ((a, t) :: x) = mo t c_T_api_Node a.node.Kids :: hidR x := rfl
def zkR (x : List (T_parse_open × Nat)) : Prop := ∀ p ∈ x, p.2 = 0 → p.1.node.Kids = []
theorem zkR_cons {a : T_parse_open} {t : Nat} {x : List (T_parse_open × Nat)} : zkR ((a, t) :: x) ↔ (t = 0 → a.node.Kids = []) ∧ zkR x := by
 simp [zkR]
section
variable {β : Type} {G : β → Prop} {R : D → Heap → Prop}
theorem top_ok {e : List T_parse_open} {b q j : Nat} {c1 c2 : D} {f : T_parse_open × List T_parse_open → Option β} {h : Heap} {O : List (Nat × AObj)} (ok : OK h O) (hj : O[j]? = some (q, .cells [.msl 8 b 0 (List.length e), c1, c2])) (hq : q ≠ 0)
  (hF : OptP ((topU e (IntKind.wrap .i64 ((List.length e : Int) - (1 : Int)))).bind f) G) (hk : ∀ v, e = v.1 :: v.2 → OptP (f v) G → R (.ptr b (List.length v.2 * 8)) (Hp h O)) : CallsA Tryz.prog 53 [.ptr q 0] (Hp h O) R := by
 refine CallsA.ret ?_
 refine C_bodyO Tryz.func53 rfl en_53 Tryz.ntmps53 rfl ?_
 refine C_seq ?_
 refine C_reg (mdl []) ?_
 refine S_a (v := .nilp) rfl ?_
 refine S_nil ?_
 refine C_seq ?_
 refine C_drw (mdl []) (by kernel_rfl) (by kernel_rfl) ?_
 refine S_m (v := .ptr _ _) rfl ?_
 refine S_nilc (v := .ptr _ _) rfl rfl ?_
 refine S_faP rfl ty_fd_63_0 ty_sz_61 ?_
 refine S_ldP (j := j) ok rfl rfl hj hq (p_one (v := .msl 8 b 0 (List.length e)) ty_ag_61 ty_sz_61 rfl) ?_
 refine S_m (v := .ptr _ _) rfl ?_
 refine S_nilc (v := .ptr _ _) rfl rfl ?_
 refine S_faP rfl ty_fd_63_0 ty_sz_61 ?_
 refine S_ldP (j := j) ok rfl rfl hj hq (p_one (v := .msl 8 b 0 (List.length e)) ty_ag_61 ty_sz_61 rfl) ?_
 refine S_lenM (e := e) rfl ty_sl_61 ?_
 refine S_bin rfl rfl (ev_sub ..) ?_
 refine S_ixK (e := e) rfl rfl ty_sl_61 ty_sz_60 hF (fun v he hF => ?_)
 refine S_a (v := .ptr _ _) rfl ?_
 refine S_nil ?_
 refine WP_ret ?_
 refine C_ret (fn := Tryz.f53) rfl (.tmp (v := .ptr b (List.length v.2 * 8)) rfl .nil) ?_
 exact ⟨_, _, .refl _, WH.refl _, hk v he hF⟩
theorem Clone_ok {f : List T_scope_bind → Option β} {p0 : List T_scope_bind} (h : Heap) (O : List (Nat × AObj)) (ok : OK h O) (hF : OptP ((app 32 [] p0).bind f) G)
  (hk : ∀ r i, (i = 0 → r = []) → OK h (mo i c_T_scope_bind r :: O) → OptP (f r) G → R (mslO 2 i r) (Hp h (mo i c_T_scope_bind r :: O))) : CallsA Tryz.prog 130 [.sl 2 (List.map c_T_scope_bind p0) 0] (Hp h O) R := by
 refine CallsA.ret ?_
 refine C_bodyO Tryz.func130 rfl en_130 Tryz.ntmps130 rfl ?_
 refine C_seq ?_
 refine C_reg (mdl []) ?_
 by_cases hp : p0 = []
 ·have hv : ∀ n : Nat, look (argL n [.sl 2 (List.map c_T_scope_bind p0) 0]) n = .sl 2 [] 0 := fun n => by rw [hp]; simp [argL, look]
  refine S_slsp (q := 2) 0 rfl (hv 0) ?_ ?_
  ·refine S_a (v := .snil) rfl ?_
   refine S_nil ?_
   refine C_seq ?_
   refine C_seq ?_
   refine C_reg (mdl []) ?_
   refine S_m (v := .snil) rfl ?_
   refine S_bin rfl rfl (e_ssn (by rw [ty_sl_55]; rfl)) ?_
   refine S_nil ?_
   refine C_tt rfl rfl ?_
   refine C_seq ?_
   refine C_reg (mdl []) ?_
   refine S_a (v := .snil) rfl ?_
   refine S_nil ?_
   refine WP_ret ?_
   repeat (first | with_reducible refine Exit.sr ?_ | with_reducible refine Exit.br ?_ | with_reducible refine Exit.jr ?_)
   refine C_ret (fn := Tryz.f130) rfl (.tmp (v := .snil) rfl .nil) ?_
   subst hp
   exact ⟨_, _, .refl _, WH.refl _, hk [] 0 (fun _ => rfl) (OK_nil ok) (by
    obtain ⟨v, hv, hF⟩ := F_bind hF
    unfold app at hv
    split at hv
    all_goals first | (have e := Option.some.inj hv; subst e; exact hF) | (simp at hv; done))⟩
  ·subst hp
   refine S_a (v := .snil) rfl ?_
   refine S_nil ?_
   refine C_seq ?_
   refine C_seq ?_
   refine C_reg (mdl []) ?_
   refine S_m (v := .slx _ _ _) rfl ?_
   refine S_bin rfl rfl (e_sxn (by rw [ty_sl_55]; rfl)) ?_
   refine S_nil ?_
   refine C_ff rfl rfl ?_
   refine WP_skip ?_
   refine C_seq ?_
   refine C_reg (mdl [(5, 1), (7, 1)]) ?_
   refine S_oneX (q := 2) (es := []) (sp := []) 0 rfl ?_
   refine S_lit1O (cs := []) (c := c_T_scope_bind) (e := []) ok rfl ty_el_55 rfl (by kernel_rfl) (by kernel_rfl) ?_
   intro g zg ok
   refine S_m (v := .sl _ _ _) rfl ?_
   refine S_appO (j := 0) (M := ([] : List T_scope_bind)) ok zg rfl rfl (src_sl (c := c_T_scope_bind) (M := ([] : List T_scope_bind)) (r := 0)) (fun _ => rfl) rfl ty_el_55 ty_ni_55 hF ?_
   intro g2 zg2 ok hF
   refine S_a (v := mslO _ _ _) rfl ?_
   refine S_nil ?_
   refine WP_ret ?_
   repeat (first | with_reducible refine Exit.sr ?_ | with_reducible refine Exit.br ?_ | with_reducible refine Exit.jr ?_)
   refine C_ret (fn := Tryz.f130) rfl (.tmp (v := mslO 2 g2 ([] ++ ([] : List T_scope_bind))) rfl .nil) ?_
   exact ⟨_, _, .refl _, WH.refl _, hk _ g2 zg2 ok hF⟩
 ·
  refine S_a (v := .snil) rfl ?_
  refine S_nil ?_
  refine C_seq ?_
  refine C_seq ?_
  refine C_reg (mdl []) ?_
  refine S_m (v := .sl _ _ _) rfl ?_
  refine S_bin rfl rfl (e_sln (by rw [ty_sl_55]; rfl) (by simpa using hp)) ?_
  refine S_nil ?_
  refine C_ff rfl rfl ?_
  refine WP_skip ?_
  refine C_seq ?_
  refine C_reg (mdl [(5, 1), (7, 1)]) ?_
  refine S_lit1O (cs := []) (c := c_T_scope_bind) (e := []) ok rfl ty_el_55 rfl (by kernel_rfl) (by kernel_rfl) ?_
  intro g zg ok
  refine S_m (v := .sl _ _ _) rfl ?_
  refine S_appO (j := 0) (M := p0) ok zg rfl rfl src_sl (fun _ => rfl) rfl ty_el_55 ty_ni_55 hF ?_
  intro g2 zg2 ok hF
  refine S_a (v := mslO _ _ _) rfl ?_
  refine S_nil ?_
  refine WP_ret ?_
  repeat (first | with_reducible refine Exit.sr ?_ | with_reducible refine Exit.br ?_ | with_reducible refine Exit.jr ?_)
  refine C_ret (fn := Tryz.f130) rfl (.tmp (v := mslO 2 g2 ([] ++ p0)) rfl .nil) ?_
  exact ⟨_, _, .refl _, WH.refl _, hk _ g2 zg2 ok hF⟩
end
end Go.Proofs.YtilhbalhkljanaaGreatDoor
