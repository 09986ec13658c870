/- The walks. No condition. -/
import Derived.Test.YtocfjohangcajaaDoorWk1
set_option linter.unusedVariables false
set_option linter.unusedSimpArgs false
set_option maxRecDepth 20000
set_option maxHeartbeats 8000000
namespace Go.Proofs.YtocfjohangcajaaDoor
theorem F_lecternref10_Area_w (p0 : List T_lecternref10_Stroke) {G : Int → Prop} (h : Heap) (hF : OptP (F_lecternref10_Area p0) G) : CallsA Tryd.prog 21 [.sl 2 (List.map c_T_lecternref10_Stroke p0) 0] h fun d h' => ∃ r, G r ∧ d = .int .i64 r ∧ h' = h := by
 refine CallsA.ret ?_
 refine C_body Tryd.func21 rfl en_21 Tryd.ntmps21 rfl (fun ok => ?_)
 rw [F_lecternref10_Area] at hF
 refine C_seq ?_
 refine C_reg (mdl []) ?_
 refine S_a (v := .int _ _) rfl ?_
 refine S_nil ?_
 refine C_seq ?_
 refine C_reg (mdl []) ?_
 refine S_a (v := .int _ _) rfl ?_
 refine S_nil ?_
 refine C_join hF (fun (a33 : Int) s' => OK h [] ∧ WS s' ⟨mkSl 42 [(3, .int .i64 a33)], Hp h []⟩) (fun J34 hF => ?_) ?_
 ·
  refine C_seq ?_
  refine C_reg (mdl []) ?_
  refine S_m (v := .sl _ _ _) rfl ?_
  refine S_lenL rfl ty_sl_27 ?_
  refine S_m (v := .int _ _) rfl ?_
  refine S_nil ?_
  refine WP_block ?_
  refine C_loop (σ := Int × Int) hF (fun (v : Int × Int) s' => match v with | (a35, a36) => OK h [] ∧ WS s' ⟨mkSl 42 [(3, .int .i64 a35), (7, .sl 2 (List.map c_T_lecternref10_Stroke p0) 0), (8, .int .i64 (p0.length : Int)), (9, .int .i64 a36)], Hp h []⟩) ?_ ?_
  ·
   have hwo : WO [] [] := .nil
   exact ⟨(hwo.spec ok).1, WS.mk' (.cons (.refl _) (.cons (.refl _) (.cons (.refl _) (.cons (.refl _) .nil)))) ok hwo⟩
  ·
   rintro G37 hG38 rec39 ⟨a35, a36⟩ s' ih40 hF ⟨ok, hws⟩
   refine WP_ws hws ?_
   clear hws s'
   rw [F_lecternref10_Area_l0] at hF
   refine C_seq ?_
   refine C_reg (mdl []) ?_
   refine S_bin rfl rfl (ev_lss ..) ?_
   refine S_nil ?_
   refine C_seq ?_
   refine C_if (b := (decide (a36 < (p0.length : Int)))) rfl hF (fun hb41 hF => ?_) (fun hb41 hF => ?_)
   ·
    refine WP_skip ?_
    refine C_join hF (fun (a56 : Int) s' => OK h [] ∧ WS s' ⟨mkSl 42 [(3, .int .i64 a56), (7, .sl 2 (List.map c_T_lecternref10_Stroke p0) 0), (8, .int .i64 (p0.length : Int)), (9, .int .i64 a36)], Hp h []⟩) (fun J57 hF => ?_) ?_
    ·
     refine WP_block ?_
     refine C_seq ?_
     refine C_reg (mdl [(5, 1)]) ?_
     refine S_ix rfl rfl ty_sl_27 ty_sz_80 hF (fun x58 _ hF => ?_)
     refine S_ldQ rfl (p_agg (vs := c_T_lecternref10_Stroke x58) ty_ag_80 ty_sz_80 rfl rfl) ?_
     refine S_all1 ok rfl ty_zc_80 ?_
     intro i59 hi59 ok
     refine S_st (j := 0) (cs' := [.sl 2 (List.map c_T_lecternref10_Spot x58.Spots) 0, .bool x58.Closed]) ok rfl rfl rfl hi59 rfl ty_sz_80 rfl rfl (fun ok => ?_)
     refine S_nil ?_
     refine C_seq ?_
     refine C_reg (mdl []) ?_
     refine S_faP rfl ty_fd_80_0 ty_sz_78 ?_
     refine S_ldP (j := 0) ok rfl rfl rfl hi59 (p_one (v := .sl 2 (List.map c_T_lecternref10_Spot x58.Spots) 0) ty_ag_78 ty_sz_78 rfl) ?_
     refine S_lenL rfl ty_sl_78 ?_
     refine S_m (v := .int _ _) rfl ?_
     refine S_nil ?_
     refine WP_block ?_
     refine C_loop (σ := Int × Int) hF (fun (v : Int × Int) s' => match v with | (a60, a61) => OK h [(i59, .cells [.sl 2 (List.map c_T_lecternref10_Spot x58.Spots) 0, .bool x58.Closed])] ∧ WS s' ⟨mkSl 42 [(3, .int .i64 a60), (5, .ptr i59 0), (7, .sl 2 (List.map c_T_lecternref10_Stroke p0) 0), (8, .int .i64 (p0.length : Int)), (9, .int .i64 a36), (15, .int .i64 (x58.Spots.length : Int)), (16, .int .i64 a61)], Hp h [(i59, .cells [.sl 2 (List.map c_T_lecternref10_Spot x58.Spots) 0, .bool x58.Closed])]⟩) ?_ ?_
     ·
      have hwo : WO [(i59, .cells [.sl 2 (List.map c_T_lecternref10_Spot x58.Spots) 0, .bool x58.Closed])] [(i59, .cells [.sl 2 (List.map c_T_lecternref10_Spot x58.Spots) 0, .bool x58.Closed])] := (.keep .nil)
      exact ⟨(hwo.spec ok).1, WS.mk' (.cons (.refl _) (.cons (.refl _) (.cons (.refl _) (.cons (.refl _) (.cons (.refl _) (.cons (.refl _) (.cons (.refl _) .nil))))))) ok hwo⟩
     ·
      rintro G62 hG63 rec64 ⟨a60, a61⟩ s' ih65 hF ⟨ok, hws⟩
      refine WP_ws hws ?_
      clear hws s'
      rw [F_lecternref10_Area_l1] at hF
      refine C_seq ?_
      refine C_reg (mdl []) ?_
      refine S_bin rfl rfl (ev_lss ..) ?_
      refine S_nil ?_
      refine C_seq ?_
      refine C_if (b := (decide (a61 < (x58.Spots.length : Int)))) rfl hF (fun hb66 hF => ?_) (fun hb66 hF => ?_)
      ·
       refine WP_skip ?_
       refine C_join hF (fun (a71 : Int) s' => OK h [(i59, .cells [.sl 2 (List.map c_T_lecternref10_Spot x58.Spots) 0, .bool x58.Closed])] ∧ WS s' ⟨mkSl 42 [(3, .int .i64 a71), (5, .ptr i59 0), (7, .sl 2 (List.map c_T_lecternref10_Stroke p0) 0), (8, .int .i64 (p0.length : Int)), (9, .int .i64 a36), (15, .int .i64 (x58.Spots.length : Int)), (16, .int .i64 a61)], Hp h [(i59, .cells [.sl 2 (List.map c_T_lecternref10_Spot x58.Spots) 0, .bool x58.Closed])]⟩) (fun J72 hF => ?_) ?_
       ·
        refine WP_block ?_
        refine C_seq ?_
        refine C_reg (mdl []) ?_
        refine S_m (v := .int _ _) rfl ?_
        refine S_a (v := .int _ _) rfl ?_
        refine S_nil ?_
        refine C_seq ?_
        refine C_reg (mdl []) ?_
        refine S_faP rfl ty_fd_80_1 ty_sz_4 ?_
        refine S_ldP (j := 0) ok rfl rfl rfl hi59 (p_one (v := .bool x58.Closed) ty_ag_4 ty_sz_4 rfl) ?_
        refine S_nil ?_
        refine C_if (b := x58.Closed) rfl hF (fun hb73 hF => ?_) (fun hb73 hF => ?_)
        ·
         refine C_drw (mdl [(26, 3), (36, 3)]) (by kernel_rfl) (by kernel_rfl) ?_
         refine S_m (v := .int _ _) rfl ?_
         refine S_faP rfl ty_fd_80_0 ty_sz_78 ?_
         refine S_ldP (j := 0) ok rfl rfl rfl hi59 (p_one (v := .sl 2 (List.map c_T_lecternref10_Spot x58.Spots) 0) ty_ag_78 ty_sz_78 rfl) ?_
         refine S_m (v := .int _ _) rfl ?_
         refine S_ix rfl rfl ty_sl_78 ty_sz_52 hF (fun x74 _ hF => ?_)
         refine S_ldQ rfl (p_agg (vs := c_T_lecternref10_Spot x74) ty_ag_52 ty_sz_52 rfl rfl) ?_
         refine S_faP rfl ty_fd_80_0 ty_sz_78 ?_
         refine S_ldP (j := 0) ok rfl rfl rfl hi59 (p_one (v := .sl 2 (List.map c_T_lecternref10_Spot x58.Spots) 0) ty_ag_78 ty_sz_78 rfl) ?_
         refine S_m (v := .int _ _) rfl ?_
         refine S_bin rfl rfl (ev_add ..) ?_
         refine S_faP rfl ty_fd_80_0 ty_sz_78 ?_
         refine S_ldP (j := 0) ok rfl rfl rfl hi59 (p_one (v := .sl 2 (List.map c_T_lecternref10_Spot x58.Spots) 0) ty_ag_78 ty_sz_78 rfl) ?_
         refine S_lenL rfl ty_sl_78 ?_
         refine S_rem rfl rfl hF (fun hF => ?_)
         refine S_ix rfl rfl ty_sl_78 ty_sz_52 hF (fun x75 _ hF => ?_)
         refine S_ldQ rfl (p_agg (vs := c_T_lecternref10_Spot x75) ty_ag_52 ty_sz_52 rfl rfl) ?_
         refine S_call (F_lecternref10_Cross_ok _ hF fun x76 _ hF => ?_) (.cons (.refl _) (.cons (.refl _) (.nil)))
         refine S_bin rfl rfl (ev_add ..) ?_
         refine S_a (v := .int _ _) rfl ?_
         refine S_nil ?_
         have hwo : WO [(i59, .cells [.sl 2 (List.map c_T_lecternref10_Spot x58.Spots) 0, .bool x58.Closed])] [(i59, .cells [.sl 2 (List.map c_T_lecternref10_Spot x58.Spots) 0, .bool x58.Closed])] := (.keep .nil)
         exact ⟨(IntKind.wrap .i64 (a60 + x76)), hF, (hwo.spec ok).1, WS.mk' (.cons (.refl _) (.cons (.refl _) (.cons (.refl _) (.cons (.refl _) (.cons (.refl _) (.cons (.refl _) (.cons (.refl _) .nil))))))) ok hwo⟩
        ·
         refine WP_skip ?_
         have hwo : WO [(i59, .cells [.sl 2 (List.map c_T_lecternref10_Spot x58.Spots) 0, .bool x58.Closed])] [(i59, .cells [.sl 2 (List.map c_T_lecternref10_Spot x58.Spots) 0, .bool x58.Closed])] := (.keep .nil)
         exact ⟨a60, hF, (hwo.spec ok).1, WS.mk' (.cons (.refl _) (.cons (.refl _) (.cons (.refl _) (.cons (.refl _) (.cons (.refl _) (.cons (.refl _) (.cons (.refl _) .nil))))))) ok hwo⟩
       ·
        rintro a71 s' hF ⟨ok, hws⟩
        refine WP_ws hws ?_
        clear hws s'
        refine C_reg (mdl []) ?_
        refine S_bin rfl rfl (ev_add ..) ?_
        refine S_m (v := .int _ _) rfl ?_
        refine S_nil ?_
        refine ih65 (a71, (IntKind.wrap .i64 (a61 + (1 : Int)))) _ hF ?_
        have hwo : WO [(i59, .cells [.sl 2 (List.map c_T_lecternref10_Spot x58.Spots) 0, .bool x58.Closed])] [(i59, .cells [.sl 2 (List.map c_T_lecternref10_Spot x58.Spots) 0, .bool x58.Closed])] := (.keep .nil)
        exact ⟨(hwo.spec ok).1, WS.mk' (.cons (.refl _) (.cons (.refl _) (.cons (.refl _) (.cons (.refl _) (.cons (.refl _) (.cons (.refl _) (.cons (.refl _) .nil))))))) ok hwo⟩
      ·
       refine WP_exit ?_
       simp only [Exit.sel, Exit.blk, Exit.jmp, if_true, if_false, reduceIte, Nat.reduceEqDiff, Nat.succ_ne_zero, Nat.zero_ne_one, Nat.one_ne_zero]
       replace hF := hG63 _ (F_some hF)
       have hwo : WO [(i59, .cells [.sl 2 (List.map c_T_lecternref10_Spot x58.Spots) 0, .bool x58.Closed])] [] := (.drop .nil)
       exact ⟨a60, hF, (hwo.spec ok).1, WS.mk' (.cons (.refl _) (.cons (.refl _) (.cons (.refl _) (.cons (.refl _) .nil)))) ok hwo⟩
    ·
     rintro a56 s' hF ⟨ok, hws⟩
     refine WP_ws hws ?_
     clear hws s'
     refine C_reg (mdl []) ?_
     refine S_bin rfl rfl (ev_add ..) ?_
     refine S_m (v := .int _ _) rfl ?_
     refine S_nil ?_
     refine ih40 (a56, (IntKind.wrap .i64 (a36 + (1 : Int)))) _ hF ?_
     have hwo : WO [] [] := .nil
     exact ⟨(hwo.spec ok).1, WS.mk' (.cons (.refl _) (.cons (.refl _) (.cons (.refl _) (.cons (.refl _) .nil)))) ok hwo⟩
   ·
    refine WP_exit ?_
    simp only [Exit.sel, Exit.blk, Exit.jmp, if_true, if_false, reduceIte, Nat.reduceEqDiff, Nat.succ_ne_zero, Nat.zero_ne_one, Nat.one_ne_zero]
    replace hF := hG38 _ (F_some hF)
    have hwo : WO [] [] := .nil
    exact ⟨a35, hF, (hwo.spec ok).1, WS.mk' (.cons (.refl _) .nil) ok hwo⟩
 ·
  rintro a33 s' hF ⟨ok, hws⟩
  refine WP_ws hws ?_
  clear hws s'
  refine C_seq ?_
  refine C_reg (mdl []) ?_
  refine S_m (v := .int _ _) rfl ?_
  refine S_a (v := .int _ _) rfl ?_
  refine S_nil ?_
  refine WP_ret ?_
  repeat (first | with_reducible refine Exit.sel_ret ?_ | with_reducible refine Exit.blk_ret ?_ | with_reducible refine Exit.jmp_ret ?_)
  refine C_ret (fn := Tryd.f21) rfl (.tmp (v := .int .i64 a33) rfl .nil) ?_
  exact ⟨_, _, (.refl _), ok.wh, _, F_some hF, rfl, rfl⟩
theorem F_lecternref10_Area_ok {β : Type} {f : Int → Option β} {G : β → Prop} {R : D → Heap → Prop} {p0 : List T_lecternref10_Stroke} (h : Heap) (hF : OptP ((F_lecternref10_Area p0).bind f) G) (hk : ∀ r, F_lecternref10_Area p0 = some r → OptP (f r) G → R (.int .i64 r) h) : CallsA Tryd.prog 21 [.sl 2 (List.map c_T_lecternref10_Stroke p0) 0] h R := by
 obtain ⟨r0, hr, hF⟩ := F_bind hF
 refine (F_lecternref10_Area_w (G := fun r => r = r0) p0 h ⟨r0, hr, rfl⟩).mono ?_
 rintro _ _ ⟨r, rfl, rfl, rfl⟩
 exact hk _ hr hF
theorem F_lecternlaw10_fits_w (p0 : Int) (p1 : Int) {G : Bool → Prop} (h : Heap) (hF : OptP (F_lecternlaw10_fits p0 p1) G) : CallsA Tryd.prog 22 [.int .i64 p0, .int .i64 p1] h fun d h' => ∃ r, G r ∧ d = .bool r ∧ h' = h := by
 refine CallsA.ret ?_
 refine C_body Tryd.func22 rfl en_22 Tryd.ntmps22 rfl (fun ok => ?_)
 rw [F_lecternlaw10_fits] at hF
 refine C_seq ?_
 refine C_reg (mdl []) ?_
 refine S_a (v := .bool _) rfl ?_
 refine S_nil ?_
 refine C_seq ?_
 refine C_reg (mdl []) ?_
 refine S_m (v := .int _ _) rfl ?_
 refine S_bin rfl rfl (ev_geq ..) ?_
 refine S_m (v := .bool _) rfl ?_
 refine S_two (b := (decide ((-1000000 : Int) ≤ p0))) 3 10 (.bool ((decide ((-1000000 : Int) ≤ p0)) && (decide (p0 ≤ (1000000 : Int))))) (fun hb1 => ?_) (fun hb1 => ?_) ?_
 ·
  refine S_on rfl rfl hb1 ?_
  refine S_in ?_
  refine S_m (v := .int _ _) rfl ?_
  refine S_nil ?_
  refine S_on rfl rfl hb1 ?_
  refine S_in ?_
  refine S_bin rfl rfl (ev_leq ..) ?_
  refine S_nil ?_
  refine S_pickT (v := .bool _) rfl hb1 rfl ?_
  refine S_nil ?_
  refine .hd (and_t hb1) ?_
  repeat (first | with_reducible exact WS.refl _ | refine WS.add ?_ rfl)
 ·
  refine S_off rfl rfl hb1 ?_
  refine S_offD ?_
  refine S_off rfl rfl hb1 ?_
  refine S_offD ?_
  refine S_pickF (v := .bool _) rfl hb1 rfl ?_
  refine S_nil ?_
  refine .hd (and_f hb1) ?_
  repeat (first | with_reducible exact WS.refl _ | refine WS.add ?_ rfl)
 refine S_m (v := .bool _) rfl ?_
 refine S_two (b := ((decide ((-1000000 : Int) ≤ p0)) && (decide (p0 ≤ (1000000 : Int))))) 3 14 (.bool (((decide ((-1000000 : Int) ≤ p0)) && (decide (p0 ≤ (1000000 : Int)))) && (decide ((-1000000 : Int) ≤ p1)))) (fun hb2 => ?_) (fun hb2 => ?_) ?_
 ·
  refine S_on rfl rfl hb2 ?_
  refine S_in ?_
  refine S_m (v := .int _ _) rfl ?_
  refine S_nil ?_
  refine S_on rfl rfl hb2 ?_
  refine S_in ?_
  refine S_bin rfl rfl (ev_geq ..) ?_
  refine S_nil ?_
  refine S_pickT (v := .bool _) rfl hb2 rfl ?_
  refine S_nil ?_
  refine .hd (and_t hb2) ?_
  repeat (first | with_reducible exact WS.refl _ | refine WS.add ?_ rfl)
 ·
  refine S_off rfl rfl hb2 ?_
  refine S_offD ?_
  refine S_off rfl rfl hb2 ?_
  refine S_offD ?_
  refine S_pickF (v := .bool _) rfl hb2 rfl ?_
  refine S_nil ?_
  refine .hd (and_f hb2) ?_
  repeat (first | with_reducible exact WS.refl _ | refine WS.add ?_ rfl)
 refine S_m (v := .bool _) rfl ?_
 refine S_two (b := (((decide ((-1000000 : Int) ≤ p0)) && (decide (p0 ≤ (1000000 : Int)))) && (decide ((-1000000 : Int) ≤ p1)))) 3 18 (.bool ((((decide ((-1000000 : Int) ≤ p0)) && (decide (p0 ≤ (1000000 : Int)))) && (decide ((-1000000 : Int) ≤ p1))) && (decide (p1 ≤ (1000000 : Int))))) (fun hb3 => ?_) (fun hb3 => ?_) ?_
 ·
  refine S_on rfl rfl hb3 ?_
  refine S_in ?_
  refine S_m (v := .int _ _) rfl ?_
  refine S_nil ?_
  refine S_on rfl rfl hb3 ?_
  refine S_in ?_
  refine S_bin rfl rfl (ev_leq ..) ?_
  refine S_nil ?_
  refine S_pickT (v := .bool _) rfl hb3 rfl ?_
  refine S_nil ?_
  refine .hd (and_t hb3) ?_
  repeat (first | with_reducible exact WS.refl _ | refine WS.add ?_ rfl)
 ·
  refine S_off rfl rfl hb3 ?_
  refine S_offD ?_
  refine S_off rfl rfl hb3 ?_
  refine S_offD ?_
  refine S_pickF (v := .bool _) rfl hb3 rfl ?_
  refine S_nil ?_
  refine .hd (and_f hb3) ?_
  repeat (first | with_reducible exact WS.refl _ | refine WS.add ?_ rfl)
 refine S_a (v := .bool _) rfl ?_
 refine S_nil ?_
 refine WP_ret ?_
 repeat (first | with_reducible refine Exit.sel_ret ?_ | with_reducible refine Exit.blk_ret ?_ | with_reducible refine Exit.jmp_ret ?_)
 refine C_ret (fn := Tryd.f22) rfl (.tmp (v := .bool ((((decide ((-1000000 : Int) ≤ p0)) && (decide (p0 ≤ (1000000 : Int)))) && (decide ((-1000000 : Int) ≤ p1))) && (decide (p1 ≤ (1000000 : Int))))) rfl .nil) ?_
 exact ⟨_, _, (.refl _), ok.wh, _, F_some hF, rfl, rfl⟩
theorem F_lecternlaw10_fits_ok {β : Type} {f : Bool → Option β} {G : β → Prop} {R : D → Heap → Prop} {p0 : Int} {p1 : Int} (h : Heap) (hF : OptP ((F_lecternlaw10_fits p0 p1).bind f) G) (hk : ∀ r, F_lecternlaw10_fits p0 p1 = some r → OptP (f r) G → R (.bool r) h) : CallsA Tryd.prog 22 [.int .i64 p0, .int .i64 p1] h R := by
 obtain ⟨r0, hr, hF⟩ := F_bind hF
 refine (F_lecternlaw10_fits_w (G := fun r => r = r0) p0 p1 h ⟨r0, hr, rfl⟩).mono ?_
 rintro _ _ ⟨r, rfl, rfl, rfl⟩
 exact hk _ hr hF
theorem F_lecternref10_quarter_w (p0 : T_lecternref10_Spot) {G : Int → Prop} (h : Heap) (hF : OptP (F_lecternref10_quarter p0) G) : CallsA Tryd.prog 41 [.agg (c_T_lecternref10_Spot p0)] h fun d h' => ∃ r, G r ∧ d = .int .i64 r ∧ h' = h := by
 refine CallsA.ret ?_
 refine C_body Tryd.func41 rfl en_41 Tryd.ntmps41 rfl (fun ok => ?_)
 rw [F_lecternref10_quarter] at hF
 refine C_seq ?_
 refine C_reg (mdl []) ?_
 refine S_box0 rfl rfl rfl rfl ?_
 refine S_a (v := .int _ _) rfl ?_
 refine S_nil ?_
 refine C_seq ?_
 refine WP_block ?_
 refine C_seq ?_
 refine C_reg (mdl []) ?_
 refine S_faQ rfl ty_fd_52_0 ty_sz_3 rfl ?_
 refine S_ldQ rfl (p_one ty_ag_3 ty_sz_3 rfl) ?_
 refine S_bin rfl rfl (ev_gtr ..) ?_
 refine S_m (v := .bool _) rfl ?_
 refine S_two (b := (decide ((0 : Int) < p0.X))) 4 11 (.bool ((decide ((0 : Int) < p0.X)) && (decide ((0 : Int) ≤ p0.Y)))) (fun hb1 => ?_) (fun hb1 => ?_) ?_
 ·
  refine S_on rfl rfl hb1 ?_
  refine S_in ?_
  refine S_faQ rfl ty_fd_52_1 ty_sz_3 rfl ?_
  refine S_nil ?_
  refine S_on rfl rfl hb1 ?_
  refine S_in ?_
  refine S_ldQ rfl (p_one ty_ag_3 ty_sz_3 rfl) ?_
  refine S_nil ?_
  refine S_on rfl rfl hb1 ?_
  refine S_in ?_
  refine S_bin rfl rfl (ev_geq ..) ?_
  refine S_nil ?_
  refine S_pickT (v := .bool _) rfl hb1 rfl ?_
  refine S_nil ?_
  refine .hd (and_t hb1) ?_
  repeat (first | with_reducible exact WS.refl _ | refine WS.add ?_ rfl)
 ·
  refine S_off rfl rfl hb1 ?_
  refine S_offD ?_
  refine S_off rfl rfl hb1 ?_
  refine S_offD ?_
  refine S_off rfl rfl hb1 ?_
  refine S_offD ?_
  refine S_pickF (v := .bool _) rfl hb1 rfl ?_
  refine S_nil ?_
  refine .hd (and_f hb1) ?_
  repeat (first | with_reducible exact WS.refl _ | refine WS.add ?_ rfl)
 refine S_a (v := .bool _) rfl ?_
 refine S_nil ?_
 refine C_if (b := ((decide ((0 : Int) < p0.X)) && (decide ((0 : Int) ≤ p0.Y)))) rfl hF (fun hb2 hF => ?_) (fun hb2 hF => ?_)
 ·
  refine C_seq ?_
  refine C_reg (mdl []) ?_
  refine S_a (v := .int _ _) rfl ?_
  refine S_nil ?_
  refine WP_ret ?_
  repeat (first | with_reducible refine Exit.sel_ret ?_ | with_reducible refine Exit.blk_ret ?_ | with_reducible refine Exit.jmp_ret ?_)
  refine C_ret (fn := Tryd.f41) rfl (.tmp (v := .int .i64 (0 : Int)) rfl .nil) ?_
  exact ⟨_, _, (.refl _), ok.wh, _, F_some hF, rfl, rfl⟩
 ·
  refine C_seq ?_
  refine C_reg (mdl []) ?_
  refine S_faQ rfl ty_fd_52_0 ty_sz_3 rfl ?_
  refine S_ldQ rfl (p_one ty_ag_3 ty_sz_3 rfl) ?_
  refine S_bin rfl rfl (ev_leq ..) ?_
  refine S_m (v := .bool _) rfl ?_
  refine S_two (b := (decide (p0.X ≤ (0 : Int)))) 4 20 (.bool ((decide (p0.X ≤ (0 : Int))) && (decide ((0 : Int) < p0.Y)))) (fun hb3 => ?_) (fun hb3 => ?_) ?_
  ·
   refine S_on rfl rfl hb3 ?_
   refine S_in ?_
   refine S_faQ rfl ty_fd_52_1 ty_sz_3 rfl ?_
   refine S_nil ?_
   refine S_on rfl rfl hb3 ?_
   refine S_in ?_
   refine S_ldQ rfl (p_one ty_ag_3 ty_sz_3 rfl) ?_
   refine S_nil ?_
   refine S_on rfl rfl hb3 ?_
   refine S_in ?_
   refine S_bin rfl rfl (ev_gtr ..) ?_
   refine S_nil ?_
   refine S_pickT (v := .bool _) rfl hb3 rfl ?_
   refine S_nil ?_
   refine .hd (and_t hb3) ?_
   repeat (first | with_reducible exact WS.refl _ | refine WS.add ?_ rfl)
  ·
   refine S_off rfl rfl hb3 ?_
   refine S_offD ?_
   refine S_off rfl rfl hb3 ?_
   refine S_offD ?_
   refine S_off rfl rfl hb3 ?_
   refine S_offD ?_
   refine S_pickF (v := .bool _) rfl hb3 rfl ?_
   refine S_nil ?_
   refine .hd (and_f hb3) ?_
   repeat (first | with_reducible exact WS.refl _ | refine WS.add ?_ rfl)
  refine S_a (v := .bool _) rfl ?_
  refine S_nil ?_
  refine C_if (b := ((decide (p0.X ≤ (0 : Int))) && (decide ((0 : Int) < p0.Y)))) rfl hF (fun hb4 hF => ?_) (fun hb4 hF => ?_)
  ·
   refine C_seq ?_
   refine C_reg (mdl []) ?_
   refine S_a (v := .int _ _) rfl ?_
   refine S_nil ?_
   refine WP_ret ?_
   repeat (first | with_reducible refine Exit.sel_ret ?_ | with_reducible refine Exit.blk_ret ?_ | with_reducible refine Exit.jmp_ret ?_)
   refine C_ret (fn := Tryd.f41) rfl (.tmp (v := .int .i64 (1 : Int)) rfl .nil) ?_
   exact ⟨_, _, (.refl _), ok.wh, _, F_some hF, rfl, rfl⟩
  ·
   refine C_seq ?_
   refine C_reg (mdl []) ?_
   refine S_faQ rfl ty_fd_52_0 ty_sz_3 rfl ?_
   refine S_ldQ rfl (p_one ty_ag_3 ty_sz_3 rfl) ?_
   refine S_bin rfl rfl (ev_lss ..) ?_
   refine S_a (v := .bool _) rfl ?_
   refine S_nil ?_
   refine C_if (b := (decide (p0.X < (0 : Int)))) rfl hF (fun hb5 hF => ?_) (fun hb5 hF => ?_)
   ·
    refine C_seq ?_
    refine C_reg (mdl []) ?_
    refine S_a (v := .int _ _) rfl ?_
    refine S_nil ?_
    refine WP_ret ?_
    repeat (first | with_reducible refine Exit.sel_ret ?_ | with_reducible refine Exit.blk_ret ?_ | with_reducible refine Exit.jmp_ret ?_)
    refine C_ret (fn := Tryd.f41) rfl (.tmp (v := .int .i64 (2 : Int)) rfl .nil) ?_
    exact ⟨_, _, (.refl _), ok.wh, _, F_some hF, rfl, rfl⟩
   ·
    refine WP_skip ?_
    refine C_seq ?_
    refine C_reg (mdl []) ?_
    refine S_a (v := .int _ _) rfl ?_
    refine S_nil ?_
    refine WP_ret ?_
    repeat (first | with_reducible refine Exit.sel_ret ?_ | with_reducible refine Exit.blk_ret ?_ | with_reducible refine Exit.jmp_ret ?_)
    refine C_ret (fn := Tryd.f41) rfl (.tmp (v := .int .i64 (3 : Int)) rfl .nil) ?_
    exact ⟨_, _, (.refl _), ok.wh, _, F_some hF, rfl, rfl⟩
theorem F_lecternref10_quarter_ok {β : Type} {f : Int → Option β} {G : β → Prop} {R : D → Heap → Prop} {p0 : T_lecternref10_Spot} (h : Heap) (hF : OptP ((F_lecternref10_quarter p0).bind f) G) (hk : ∀ r, F_lecternref10_quarter p0 = some r → OptP (f r) G → R (.int .i64 r) h) : CallsA Tryd.prog 41 [.agg (c_T_lecternref10_Spot p0)] h R := by
 obtain ⟨r0, hr, hF⟩ := F_bind hF
 refine (F_lecternref10_quarter_w (G := fun r => r = r0) p0 h ⟨r0, hr, rfl⟩).mono ?_
 rintro _ _ ⟨r, rfl, rfl, rfl⟩
 exact hk _ hr hF
end Go.Proofs.YtocfjohangcajaaDoor
