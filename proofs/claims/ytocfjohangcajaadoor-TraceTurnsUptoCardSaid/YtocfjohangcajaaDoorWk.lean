/- The walks. No condition. -/
import Derived.Test.YtocfjohangcajaaDoorWk1
set_option linter.unusedVariables false
set_option linter.unusedSimpArgs false
set_option maxRecDepth 20000
set_option maxHeartbeats 8000000
namespace Go.Proofs.YtocfjohangcajaaDoor
theorem F_lecternlaw10_same_w (p0 : List T_trace_Stroke) (p1 : List T_lecternref10_Stroke) {G : Bool → Prop} (h : Heap) (hF : OptP (F_lecternlaw10_same p0 p1) G) : CallsA Tryd.prog 14 [.sl 2 (List.map c_T_trace_Stroke p0) 0, .sl 2 (List.map c_T_lecternref10_Stroke p1) 0] h fun d h' => ∃ r, G r ∧ d = .bool r ∧ h' = h := by
  refine CallsA.ret ?_
  refine C_body Tryd.func14 rfl en_14 Tryd.ntmps14 rfl (fun ok => ?_)
  rw [F_lecternlaw10_same] at hF
  refine C_seq ?_
  refine C_reg (mdl []) ?_
  refine S_a (v := .bool _) rfl ?_
  refine S_nil ?_
  refine C_seq ?_
  refine C_seq ?_
  refine C_reg (mdl []) ?_
  refine S_m (v := .sl _ _ _) rfl ?_
  refine S_lenL rfl ty_sl_23 ?_
  refine S_m (v := .sl _ _ _) rfl ?_
  refine S_lenL rfl ty_sl_27 ?_
  refine S_bin rfl rfl (ev_neq ..) ?_
  refine S_nil ?_
  refine C_if (b := ((p0.length : Int) != (p1.length : Int))) rfl hF (fun hb1 hF => ?_) (fun hb1 hF => ?_)
  ·
    refine C_seq ?_
    refine C_reg (mdl []) ?_
    refine S_a (v := .bool _) rfl ?_
    refine S_nil ?_
    refine WP_ret ?_
    repeat (first | with_reducible refine Exit.sel_ret ?_ | with_reducible refine Exit.blk_ret ?_ | with_reducible refine Exit.jmp_ret ?_)
    refine C_ret (fn := Tryd.f14) rfl (.tmp (v := .bool false) rfl .nil) ?_
    exact ⟨_, _, (.refl _), ok.wh, _, F_some hF, rfl, rfl⟩
  ·
    refine WP_skip ?_
    refine C_join hF (fun (_ : Unit) s' => OK h [] ∧ WS s' ⟨mkSl 78 [], Hp h []⟩) (fun J64 hF => ?_) ?_
    ·
      refine C_seq ?_
      refine C_reg (mdl []) ?_
      refine S_m (v := .sl _ _ _) rfl ?_
      refine S_lenL rfl ty_sl_23 ?_
      refine S_m (v := .int _ _) rfl ?_
      refine S_nil ?_
      refine WP_block ?_
      refine C_loop (σ := Int) hF (fun (a65 : Int) s' => OK h [] ∧ WS s' ⟨mkSl 78 [(0, .sl 2 (List.map c_T_trace_Stroke p0) 0), (1, .sl 2 (List.map c_T_lecternref10_Stroke p1) 0), (16, .int .i64 (p0.length : Int)), (17, .int .i64 a65)], Hp h []⟩) ?_ ?_
      ·
        have hwo : WO [] [] := .nil
        exact ⟨(hwo.spec ok).1, WS.mk' (.cons (.refl _) (.cons (.refl _) (.cons (.refl _) (.cons (.refl _) .nil)))) ok hwo⟩
      ·
        rintro G66 hG67 rec68 a65 s' ih69 hF ⟨ok, hws⟩
        refine WP_ws hws ?_
        clear hws s'
        rw [F_lecternlaw10_same_l0] at hF
        refine C_seq ?_
        refine C_reg (mdl []) ?_
        refine S_bin rfl rfl (ev_lss ..) ?_
        refine S_nil ?_
        refine C_seq ?_
        refine C_if (b := (decide (a65 < (p0.length : Int)))) rfl hF (fun hb70 hF => ?_) (fun hb70 hF => ?_)
        ·
          refine WP_skip ?_
          refine C_join hF (fun (_ : Unit) s' => OK h [] ∧ WS s' ⟨mkSl 78 [(0, .sl 2 (List.map c_T_trace_Stroke p0) 0), (1, .sl 2 (List.map c_T_lecternref10_Stroke p1) 0), (16, .int .i64 (p0.length : Int)), (17, .int .i64 a65)], Hp h []⟩) (fun J101 hF => ?_) ?_
          ·
            refine WP_block ?_
            refine C_seq ?_
            refine C_reg (mdl []) ?_
            refine S_m (v := .int _ _) rfl ?_
            refine S_a (v := .int _ _) rfl ?_
            refine S_nil ?_
            refine C_seq ?_
            refine C_join hF (fun (a108 : Bool) s' => OK h [] ∧ WS s' ⟨mkSl 78 [(0, .sl 2 (List.map c_T_trace_Stroke p0) 0), (1, .sl 2 (List.map c_T_lecternref10_Stroke p1) 0), (5, .int .i64 a65), (16, .int .i64 (p0.length : Int)), (17, .int .i64 a65), (45, .bool a108)], Hp h []⟩) (fun J109 hF => ?_) ?_
            ·
              refine C_drw (mdl [(24, 3), (29, 3), (36, 3), (42, 3)]) (by kernel_rfl) (by kernel_rfl) ?_
              refine S_m (v := .sl _ _ _) rfl ?_
              refine S_m (v := .int _ _) rfl ?_
              refine S_ix rfl rfl ty_sl_23 ty_sz_56 hF (fun x110 _ hF => ?_)
              refine S_faQ rfl ty_fd_56_1 ty_sz_4 rfl ?_
              refine S_ldQ rfl (p_one ty_ag_4 ty_sz_4 rfl) ?_
              refine S_m (v := .sl _ _ _) rfl ?_
              refine S_m (v := .int _ _) rfl ?_
              refine S_ix rfl rfl ty_sl_27 ty_sz_80 hF (fun x111 _ hF => ?_)
              refine S_faQ rfl ty_fd_80_1 ty_sz_4 rfl ?_
              refine S_ldQ rfl (p_one ty_ag_4 ty_sz_4 rfl) ?_
              refine S_bin rfl rfl (e_bne ty_bo_4) ?_
              refine S_m (v := .bool _) rfl ?_
              refine S_if (b := (!(x110.Closed == x111.Closed))) hF (fun hb112 hF => ?_) (fun hb113 hF => ?_)
              ·
                refine S_off rfl rfl hb112 ?_
                refine S_offD ?_
                refine S_off rfl rfl hb112 ?_
                refine S_offD ?_
                refine S_off rfl rfl hb112 ?_
                refine S_offD ?_
                refine S_off rfl rfl hb112 ?_
                refine S_offD ?_
                refine S_off rfl rfl hb112 ?_
                refine S_offD ?_
                refine S_off rfl rfl hb112 ?_
                refine S_offD ?_
                refine S_off rfl rfl hb112 ?_
                refine S_offD ?_
                refine S_off rfl rfl hb112 ?_
                refine S_offD ?_
                refine S_off rfl rfl hb112 ?_
                refine S_offD ?_
                refine S_off rfl rfl hb112 ?_
                refine S_offD ?_
                refine S_off rfl rfl hb112 ?_
                refine S_offD ?_
                refine S_off rfl rfl hb112 ?_
                refine S_offD ?_
                refine S_off rfl rfl hb112 ?_
                refine S_offD ?_
                refine S_pickT (v := .bool _) rfl hb112 rfl ?_
                refine S_nil ?_
                have hwo : WO [] [] := .nil
                exact ⟨true, hF, (hwo.spec ok).1, WS.mk' (.cons (.refl _) (.cons (.refl _) (.cons (.refl _) (.cons (.refl _) (.cons (.refl _) (.cons (.refl _) .nil)))))) ok hwo⟩
              ·
                refine S_on rfl rfl hb113 ?_
                refine S_in ?_
                refine S_m (v := .sl _ _ _) rfl ?_
                refine S_nil ?_
                refine S_on rfl rfl hb113 ?_
                refine S_in ?_
                refine S_m (v := .int _ _) rfl ?_
                refine S_nil ?_
                refine S_on rfl rfl hb113 ?_
                refine S_in ?_
                refine S_ix rfl rfl ty_sl_23 ty_sz_56 hF (fun x114 _ hF => ?_)
                refine S_nil ?_
                refine S_on rfl rfl hb113 ?_
                refine S_in ?_
                refine S_faQ rfl ty_fd_56_0 ty_sz_54 rfl ?_
                refine S_nil ?_
                refine S_on rfl rfl hb113 ?_
                refine S_in ?_
                refine S_ldQ rfl (p_one ty_ag_54 ty_sz_54 rfl) ?_
                refine S_nil ?_
                refine S_on rfl rfl hb113 ?_
                refine S_in ?_
                refine S_lenL rfl ty_sl_54 ?_
                refine S_nil ?_
                refine S_on rfl rfl hb113 ?_
                refine S_in ?_
                refine S_m (v := .sl _ _ _) rfl ?_
                refine S_nil ?_
                refine S_on rfl rfl hb113 ?_
                refine S_in ?_
                refine S_m (v := .int _ _) rfl ?_
                refine S_nil ?_
                refine S_on rfl rfl hb113 ?_
                refine S_in ?_
                refine S_ix rfl rfl ty_sl_27 ty_sz_80 hF (fun x115 _ hF => ?_)
                refine S_nil ?_
                refine S_on rfl rfl hb113 ?_
                refine S_in ?_
                refine S_faQ rfl ty_fd_80_0 ty_sz_78 rfl ?_
                refine S_nil ?_
                refine S_on rfl rfl hb113 ?_
                refine S_in ?_
                refine S_ldQ rfl (p_one ty_ag_78 ty_sz_78 rfl) ?_
                refine S_nil ?_
                refine S_on rfl rfl hb113 ?_
                refine S_in ?_
                refine S_lenL rfl ty_sl_78 ?_
                refine S_nil ?_
                refine S_on rfl rfl hb113 ?_
                refine S_in ?_
                refine S_bin rfl rfl (ev_neq ..) ?_
                refine S_nil ?_
                refine S_pickF (v := .bool _) rfl hb113 rfl ?_
                refine S_nil ?_
                have hwo : WO [] [] := .nil
                exact ⟨((x114.Spots.length : Int) != (x115.Spots.length : Int)), hF, (hwo.spec ok).1, WS.mk' (.cons (.refl _) (.cons (.refl _) (.cons (.refl _) (.cons (.refl _) (.cons (.refl _) (.cons (.refl _) .nil)))))) ok hwo⟩
            ·
              rintro a108 s' hF ⟨ok, hws⟩
              refine WP_ws hws ?_
              clear hws s'
              refine C_if (b := a108) rfl hF (fun hb116 hF => ?_) (fun hb116 hF => ?_)
              ·
                refine C_seq ?_
                refine C_reg (mdl []) ?_
                refine S_a (v := .bool _) rfl ?_
                refine S_nil ?_
                refine WP_ret ?_
                replace hF := hG67 _ (F_some hF)
                repeat (first | with_reducible refine Exit.sel_ret ?_ | with_reducible refine Exit.blk_ret ?_ | with_reducible refine Exit.jmp_ret ?_)
                refine C_ret (fn := Tryd.f14) rfl (.tmp (v := .bool false) rfl .nil) ?_
                exact ⟨_, _, (.refl _), ok.wh, _, F_some hF, rfl, rfl⟩
              ·
                refine WP_skip ?_
                refine C_seq ?_
                refine C_reg (mdl []) ?_
                refine S_m (v := .sl _ _ _) rfl ?_
                refine S_m (v := .int _ _) rfl ?_
                refine S_ix rfl rfl ty_sl_23 ty_sz_56 hF (fun x117 _ hF => ?_)
                refine S_faQ rfl ty_fd_56_0 ty_sz_54 rfl ?_
                refine S_ldQ rfl (p_one ty_ag_54 ty_sz_54 rfl) ?_
                refine S_lenL rfl ty_sl_54 ?_
                refine S_m (v := .int _ _) rfl ?_
                refine S_nil ?_
                refine WP_block ?_
                refine C_loop (σ := Int) hF (fun (a118 : Int) s' => OK h [] ∧ WS s' ⟨mkSl 78 [(0, .sl 2 (List.map c_T_trace_Stroke p0) 0), (1, .sl 2 (List.map c_T_lecternref10_Stroke p1) 0), (5, .int .i64 a65), (16, .int .i64 (p0.length : Int)), (17, .int .i64 a65), (50, .sl 1 (List.map c_cplx x117.Spots) 0), (51, .int .i64 (x117.Spots.length : Int)), (52, .int .i64 a118)], Hp h []⟩) ?_ ?_
                ·
                  have hwo : WO [] [] := .nil
                  exact ⟨(hwo.spec ok).1, WS.mk' (.cons (.refl _) (.cons (.refl _) (.cons (.refl _) (.cons (.refl _) (.cons (.refl _) (.cons (.refl _) (.cons (.refl _) (.cons (.refl _) .nil)))))))) ok hwo⟩
                ·
                  rintro G119 hG120 rec121 a118 s' ih122 hF ⟨ok, hws⟩
                  refine WP_ws hws ?_
                  clear hws s'
                  rw [F_lecternlaw10_same_l1] at hF
                  refine C_seq ?_
                  refine C_reg (mdl []) ?_
                  refine S_bin rfl rfl (ev_lss ..) ?_
                  refine S_nil ?_
                  refine C_seq ?_
                  refine C_if (b := (decide (a118 < (x117.Spots.length : Int)))) rfl hF (fun hb123 hF => ?_) (fun hb123 hF => ?_)
                  ·
                    refine WP_skip ?_
                    refine C_seq ?_
                    refine WP_block ?_
                    refine C_seq ?_
                    refine C_reg (mdl []) ?_
                    refine S_m (v := .int _ _) rfl ?_
                    refine S_ix rfl rfl ty_sl_54 ty_sz_45 hF (fun x124 _ hF => ?_)
                    refine S_ldQ rfl (p_one ty_ag_45 ty_sz_45 rfl) ?_
                    refine S_a (v := .int _ _) rfl ?_
                    refine S_a (v := .cplx _ _ _) rfl ?_
                    refine S_nil ?_
                    refine C_seq ?_
                    refine C_reg (mdl [(8, 1)]) ?_
                    refine S_m (v := .cplx _ _ _) rfl ?_
                    refine S_call (F_lecternref10_From_ok _ hF fun x125 _ hF => ?_) (.cons (.refl _) (.nil))
                    refine S_m (v := .tup _) rfl ?_
                    refine S_ext rfl rfl ?_
                    refine S_ext rfl rfl ?_
                    refine S_all1 ok rfl ty_zc_52 ?_
                    intro i126 hi126 ok
                    refine S_st (j := 0) (cs' := [.int .i64 x125.1.X, .int .i64 x125.1.Y]) ok rfl rfl rfl hi126 rfl ty_sz_52 rfl rfl (fun ok => ?_)
                    refine S_a (v := .bool _) rfl ?_
                    refine S_nil ?_
                    refine C_join hF (fun (a131 : Bool) s' => OK h [] ∧ WS s' ⟨mkSl 78 [(0, .sl 2 (List.map c_T_trace_Stroke p0) 0), (1, .sl 2 (List.map c_T_lecternref10_Stroke p1) 0), (5, .int .i64 a65), (16, .int .i64 (p0.length : Int)), (17, .int .i64 a65), (50, .sl 1 (List.map c_cplx x117.Spots) 0), (51, .int .i64 (x117.Spots.length : Int)), (52, .int .i64 a118), (75, .bool a131)], Hp h []⟩) (fun J132 hF => ?_) ?_
                    ·
                      refine C_drw (mdl [(70, 3), (73, 3)]) (by kernel_rfl) (by kernel_rfl) ?_
                      refine S_m (v := .bool _) rfl ?_
                      refine S_un rfl (ev_not _) ?_
                      refine S_m (v := .bool _) rfl ?_
                      refine S_if (b := (!x125.2)) hF (fun hb133 hF => ?_) (fun hb134 hF => ?_)
                      ·
                        refine S_off rfl rfl hb133 ?_
                        refine S_offD ?_
                        refine S_off rfl rfl hb133 ?_
                        refine S_offD ?_
                        refine S_off rfl rfl hb133 ?_
                        refine S_offD ?_
                        refine S_off rfl rfl hb133 ?_
                        refine S_offD ?_
                        refine S_off rfl rfl hb133 ?_
                        refine S_offD ?_
                        refine S_off rfl rfl hb133 ?_
                        refine S_offD ?_
                        refine S_off rfl rfl hb133 ?_
                        refine S_offD ?_
                        refine S_off rfl rfl hb133 ?_
                        refine S_offD ?_
                        refine S_off rfl rfl hb133 ?_
                        refine S_offD ?_
                        refine S_off rfl rfl hb133 ?_
                        refine S_offD ?_
                        refine S_pickT (v := .bool _) rfl hb133 rfl ?_
                        refine S_nil ?_
                        have hwo : WO [(i126, .cells [.int .i64 x125.1.X, .int .i64 x125.1.Y])] [] := (.drop .nil)
                        exact ⟨true, hF, (hwo.spec ok).1, WS.mk' (.cons (.refl _) (.cons (.refl _) (.cons (.refl _) (.cons (.refl _) (.cons (.refl _) (.cons (.refl _) (.cons (.refl _) (.cons (.refl _) (.cons (.refl _) .nil))))))))) ok hwo⟩
                      ·
                        refine S_on rfl rfl hb134 ?_
                        refine S_in ?_
                        refine S_ldP (j := 0) ok rfl rfl rfl hi126 (p_agg (vs := c_T_lecternref10_Spot x125.1) ty_ag_52 ty_sz_52 rfl rfl) ?_
                        refine S_nil ?_
                        refine S_on rfl rfl hb134 ?_
                        refine S_in ?_
                        refine S_m (v := .sl _ _ _) rfl ?_
                        refine S_nil ?_
                        refine S_on rfl rfl hb134 ?_
                        refine S_in ?_
                        refine S_m (v := .int _ _) rfl ?_
                        refine S_nil ?_
                        refine S_on rfl rfl hb134 ?_
                        refine S_in ?_
                        refine S_ix rfl rfl ty_sl_27 ty_sz_80 hF (fun x135 _ hF => ?_)
                        refine S_nil ?_
                        refine S_on rfl rfl hb134 ?_
                        refine S_in ?_
                        refine S_faQ rfl ty_fd_80_0 ty_sz_78 rfl ?_
                        refine S_nil ?_
                        refine S_on rfl rfl hb134 ?_
                        refine S_in ?_
                        refine S_ldQ rfl (p_one ty_ag_78 ty_sz_78 rfl) ?_
                        refine S_nil ?_
                        refine S_on rfl rfl hb134 ?_
                        refine S_in ?_
                        refine S_m (v := .int _ _) rfl ?_
                        refine S_nil ?_
                        refine S_on rfl rfl hb134 ?_
                        refine S_in ?_
                        refine S_ix rfl rfl ty_sl_78 ty_sz_52 hF (fun x136 _ hF => ?_)
                        refine S_nil ?_
                        refine S_on rfl rfl hb134 ?_
                        refine S_in ?_
                        refine S_ldQ rfl (p_agg (vs := c_T_lecternref10_Spot x136) ty_ag_52 ty_sz_52 rfl rfl) ?_
                        refine S_nil ?_
                        refine S_on rfl rfl hb134 ?_
                        refine S_in ?_
                        refine S_bin rfl rfl (e_aggn (b := ((x125.1.X == x136.X) && ((x125.1.Y == x136.Y) && true))) ty_qg_52 ty_sf_52 (by simp only [c_T_lecternref10_Spot, ev_eqF_cons, ev_eqF_nil, ev_part, ty_sf_52, ty_qg_52, ty_ag_3, ty_sz_3, ty_ki_3, ty_ag_3, ty_sz_3, ty_ki_3, ev_eq_int, ev_eq_str, ev_eq_bool, ev_eq_agg, ev_eq_int2, ev_eq_str2, ev_eq_bool2, List.drop_zero, List.drop_succ_cons, List.length_cons, List.length_nil, List.take_succ_cons, List.take_zero, Option.isSome_some, if_true, Option.bind_some, Option.map_some, Nat.reduceAdd, Nat.reduceLeDiff])) ?_
                        refine S_nil ?_
                        refine S_pickF (v := .bool _) rfl hb134 rfl ?_
                        refine S_nil ?_
                        have hwo : WO [(i126, .cells [.int .i64 x125.1.X, .int .i64 x125.1.Y])] [] := (.drop .nil)
                        exact ⟨(!((x125.1.X == x136.X) && ((x125.1.Y == x136.Y) && true))), hF, (hwo.spec ok).1, WS.mk' (.cons (.refl _) (.cons (.refl _) (.cons (.refl _) (.cons (.refl _) (.cons (.refl _) (.cons (.refl _) (.cons (.refl _) (.cons (.refl _) (.cons (.refl _) .nil))))))))) ok hwo⟩
                    ·
                      rintro a131 s' hF ⟨ok, hws⟩
                      refine WP_ws hws ?_
                      clear hws s'
                      refine C_if (b := a131) rfl hF (fun hb137 hF => ?_) (fun hb137 hF => ?_)
                      ·
                        refine C_seq ?_
                        refine C_reg (mdl []) ?_
                        refine S_a (v := .bool _) rfl ?_
                        refine S_nil ?_
                        refine WP_ret ?_
                        replace hF := hG120 _ (F_some hF)
                        replace hF := hG67 _ (F_some hF)
                        repeat (first | with_reducible refine Exit.sel_ret ?_ | with_reducible refine Exit.blk_ret ?_ | with_reducible refine Exit.jmp_ret ?_)
                        refine C_ret (fn := Tryd.f14) rfl (.tmp (v := .bool false) rfl .nil) ?_
                        exact ⟨_, _, (.refl _), ok.wh, _, F_some hF, rfl, rfl⟩
                      ·
                        refine WP_skip ?_
                        refine C_reg (mdl []) ?_
                        refine S_bin rfl rfl (ev_add ..) ?_
                        refine S_m (v := .int _ _) rfl ?_
                        refine S_nil ?_
                        refine ih122 (IntKind.wrap .i64 (a118 + (1 : Int))) _ hF ?_
                        have hwo : WO [] [] := .nil
                        exact ⟨(hwo.spec ok).1, WS.mk' (.cons (.refl _) (.cons (.refl _) (.cons (.refl _) (.cons (.refl _) (.cons (.refl _) (.cons (.refl _) (.cons (.refl _) (.cons (.refl _) .nil)))))))) ok hwo⟩
                  ·
                    refine WP_exit ?_
                    simp only [Exit.sel, Exit.blk, Exit.jmp, if_true, if_false, reduceIte, Nat.reduceEqDiff, Nat.succ_ne_zero, Nat.zero_ne_one, Nat.one_ne_zero]
                    replace hF := hG120 _ (F_some hF)
                    have hwo : WO [] [] := .nil
                    exact ⟨(), hF, (hwo.spec ok).1, WS.mk' (.cons (.refl _) (.cons (.refl _) (.cons (.refl _) (.cons (.refl _) .nil)))) ok hwo⟩
          ·
            rintro ⟨⟩ s' hF ⟨ok, hws⟩
            refine WP_ws hws ?_
            clear hws s'
            refine C_reg (mdl []) ?_
            refine S_bin rfl rfl (ev_add ..) ?_
            refine S_m (v := .int _ _) rfl ?_
            refine S_nil ?_
            refine ih69 (IntKind.wrap .i64 (a65 + (1 : Int))) _ hF ?_
            have hwo : WO [] [] := .nil
            exact ⟨(hwo.spec ok).1, WS.mk' (.cons (.refl _) (.cons (.refl _) (.cons (.refl _) (.cons (.refl _) .nil)))) ok hwo⟩
        ·
          refine WP_exit ?_
          simp only [Exit.sel, Exit.blk, Exit.jmp, if_true, if_false, reduceIte, Nat.reduceEqDiff, Nat.succ_ne_zero, Nat.zero_ne_one, Nat.one_ne_zero]
          replace hF := hG67 _ (F_some hF)
          have hwo : WO [] [] := .nil
          exact ⟨(), hF, (hwo.spec ok).1, WS.mk' .nil ok hwo⟩
    ·
      rintro ⟨⟩ s' hF ⟨ok, hws⟩
      refine WP_ws hws ?_
      clear hws s'
      refine C_seq ?_
      refine C_reg (mdl []) ?_
      refine S_a (v := .bool _) rfl ?_
      refine S_nil ?_
      refine WP_ret ?_
      repeat (first | with_reducible refine Exit.sel_ret ?_ | with_reducible refine Exit.blk_ret ?_ | with_reducible refine Exit.jmp_ret ?_)
      refine C_ret (fn := Tryd.f14) rfl (.tmp (v := .bool true) rfl .nil) ?_
      exact ⟨_, _, (.refl _), ok.wh, _, F_some hF, rfl, rfl⟩
theorem F_lecternlaw10_same_ok {β : Type} {f : Bool → Option β} {G : β → Prop} {R : D → Heap → Prop} {p0 : List T_trace_Stroke} {p1 : List T_lecternref10_Stroke} (h : Heap) (hF : OptP ((F_lecternlaw10_same p0 p1).bind f) G) (hk : ∀ r, F_lecternlaw10_same p0 p1 = some r → OptP (f r) G → R (.bool r) h) : CallsA Tryd.prog 14 [.sl 2 (List.map c_T_trace_Stroke p0) 0, .sl 2 (List.map c_T_lecternref10_Stroke p1) 0] h R := by
  obtain ⟨r0, hr, hF⟩ := F_bind hF
  refine (F_lecternlaw10_same_w (G := fun r => r = r0) p0 p1 h ⟨r0, hr, rfl⟩).mono ?_
  rintro _ _ ⟨r, rfl, rfl, rfl⟩
  exact hk _ hr hF
theorem F_lecternref10_Right_w (p0 : List T_lecternref10_Stroke) {G : Bool → Prop} (h : Heap) (hF : OptP (F_lecternref10_Right p0) G) : CallsA Tryd.prog 33 [.sl 2 (List.map c_T_lecternref10_Stroke p0) 0] h fun d h' => ∃ r, G r ∧ d = .bool r ∧ h' = h := by
  refine CallsA.ret ?_
  refine C_body Tryd.func33 rfl en_33 Tryd.ntmps33 rfl (fun ok => ?_)
  rw [F_lecternref10_Right] at hF
  refine C_seq ?_
  refine C_reg (mdl []) ?_
  refine S_a (v := .bool _) rfl ?_
  refine S_nil ?_
  refine C_seq ?_
  refine C_reg (mdl []) ?_
  refine S_a (v := .int _ _) rfl ?_
  refine S_nil ?_
  refine C_join hF (fun (a7 : Int) s' => OK h [] ∧ WS s' ⟨mkSl 24 [(3, .int .i64 a7)], Hp h []⟩) (fun J8 hF => ?_) ?_
  ·
    refine C_seq ?_
    refine C_reg (mdl []) ?_
    refine S_m (v := .sl _ _ _) rfl ?_
    refine S_lenL rfl ty_sl_27 ?_
    refine S_m (v := .int _ _) rfl ?_
    refine S_nil ?_
    refine WP_block ?_
    refine C_loop (σ := Int × Int) hF (fun (v : Int × Int) s' => match v with | (a9, a10) => OK h [] ∧ WS s' ⟨mkSl 24 [(3, .int .i64 a9), (6, .sl 2 (List.map c_T_lecternref10_Stroke p0) 0), (7, .int .i64 (p0.length : Int)), (8, .int .i64 a10)], Hp h []⟩) ?_ ?_
    ·
      have hwo : WO [] [] := .nil
      exact ⟨(hwo.spec ok).1, WS.mk' (.cons (.refl _) (.cons (.refl _) (.cons (.refl _) (.cons (.refl _) .nil)))) ok hwo⟩
    ·
      rintro G11 hG12 rec13 ⟨a9, a10⟩ s' ih14 hF ⟨ok, hws⟩
      refine WP_ws hws ?_
      clear hws s'
      rw [F_lecternref10_Right_l0] at hF
      refine C_seq ?_
      refine C_reg (mdl []) ?_
      refine S_bin rfl rfl (ev_lss ..) ?_
      refine S_nil ?_
      refine C_seq ?_
      refine C_if (b := (decide (a10 < (p0.length : Int)))) rfl hF (fun hb15 hF => ?_) (fun hb15 hF => ?_)
      ·
        refine WP_skip ?_
        refine C_seq ?_
        refine WP_block ?_
        refine C_seq ?_
        refine C_reg (mdl [(5, 1)]) ?_
        refine S_ix rfl rfl ty_sl_27 ty_sz_80 hF (fun x16 _ hF => ?_)
        refine S_ldQ rfl (p_agg (vs := c_T_lecternref10_Stroke x16) ty_ag_80 ty_sz_80 rfl rfl) ?_
        refine S_all1 ok rfl ty_zc_80 ?_
        intro i17 hi17 ok
        refine S_st (j := 0) (cs' := [.sl 2 (List.map c_T_lecternref10_Spot x16.Spots) 0, .bool x16.Closed]) ok rfl rfl rfl hi17 rfl ty_sz_80 rfl rfl (fun ok => ?_)
        refine S_nil ?_
        refine C_seq ?_
        refine C_reg (mdl []) ?_
        refine S_m (v := .int _ _) rfl ?_
        refine S_faP rfl ty_fd_80_0 ty_sz_78 ?_
        refine S_ldP (j := 0) ok rfl rfl rfl hi17 (p_one (v := .sl 2 (List.map c_T_lecternref10_Spot x16.Spots) 0) ty_ag_78 ty_sz_78 rfl) ?_
        refine S_lenL rfl ty_sl_78 ?_
        refine S_bin rfl rfl (ev_add ..) ?_
        refine S_a (v := .int _ _) rfl ?_
        refine S_nil ?_
        refine C_seq ?_
        refine C_reg (mdl []) ?_
        refine S_faP rfl ty_fd_80_0 ty_sz_78 ?_
        refine S_ldP (j := 0) ok rfl rfl rfl hi17 (p_one (v := .sl 2 (List.map c_T_lecternref10_Spot x16.Spots) 0) ty_ag_78 ty_sz_78 rfl) ?_
        refine S_lenL rfl ty_sl_78 ?_
        refine S_bin rfl rfl (ev_eql ..) ?_
        refine S_nil ?_
        refine C_if (b := ((x16.Spots.length : Int) == (0 : Int))) rfl hF (fun hb18 hF => ?_) (fun hb18 hF => ?_)
        ·
          refine C_seq ?_
          refine C_reg (mdl []) ?_
          refine S_a (v := .bool _) rfl ?_
          refine S_nil ?_
          refine WP_ret ?_
          replace hF := hG12 _ (F_some hF)
          repeat (first | with_reducible refine Exit.sel_ret ?_ | with_reducible refine Exit.blk_ret ?_ | with_reducible refine Exit.jmp_ret ?_)
          refine C_ret (fn := Tryd.f33) rfl (.tmp (v := .bool false) rfl .nil) ?_
          exact ⟨_, _, (.refl _), ok.wh, _, F_some hF, rfl, rfl⟩
        ·
          refine WP_skip ?_
          refine C_reg (mdl []) ?_
          refine S_bin rfl rfl (ev_add ..) ?_
          refine S_m (v := .int _ _) rfl ?_
          refine S_nil ?_
          refine ih14 ((IntKind.wrap .i64 (a9 + (x16.Spots.length : Int))), (IntKind.wrap .i64 (a10 + (1 : Int)))) _ hF ?_
          have hwo : WO [(i17, .cells [.sl 2 (List.map c_T_lecternref10_Spot x16.Spots) 0, .bool x16.Closed])] [] := (.drop .nil)
          exact ⟨(hwo.spec ok).1, WS.mk' (.cons (.refl _) (.cons (.refl _) (.cons (.refl _) (.cons (.refl _) .nil)))) ok hwo⟩
      ·
        refine WP_exit ?_
        simp only [Exit.sel, Exit.blk, Exit.jmp, if_true, if_false, reduceIte, Nat.reduceEqDiff, Nat.succ_ne_zero, Nat.zero_ne_one, Nat.one_ne_zero]
        replace hF := hG12 _ (F_some hF)
        have hwo : WO [] [] := .nil
        exact ⟨a9, hF, (hwo.spec ok).1, WS.mk' (.cons (.refl _) .nil) ok hwo⟩
  ·
    rintro a7 s' hF ⟨ok, hws⟩
    refine WP_ws hws ?_
    clear hws s'
    refine C_seq ?_
    refine C_reg (mdl []) ?_
    refine S_m (v := .int _ _) rfl ?_
    refine S_bin rfl rfl (ev_leq ..) ?_
    refine S_a (v := .bool _) rfl ?_
    refine S_nil ?_
    refine WP_ret ?_
    repeat (first | with_reducible refine Exit.sel_ret ?_ | with_reducible refine Exit.blk_ret ?_ | with_reducible refine Exit.jmp_ret ?_)
    refine C_ret (fn := Tryd.f33) rfl (.tmp (v := .bool (decide (a7 ≤ (500 : Int)))) rfl .nil) ?_
    exact ⟨_, _, (.refl _), ok.wh, _, F_some hF, rfl, rfl⟩
theorem F_lecternref10_Right_ok {β : Type} {f : Bool → Option β} {G : β → Prop} {R : D → Heap → Prop} {p0 : List T_lecternref10_Stroke} (h : Heap) (hF : OptP ((F_lecternref10_Right p0).bind f) G) (hk : ∀ r, F_lecternref10_Right p0 = some r → OptP (f r) G → R (.bool r) h) : CallsA Tryd.prog 33 [.sl 2 (List.map c_T_lecternref10_Stroke p0) 0] h R := by
  obtain ⟨r0, hr, hF⟩ := F_bind hF
  refine (F_lecternref10_Right_w (G := fun r => r = r0) p0 h ⟨r0, hr, rfl⟩).mono ?_
  rintro _ _ ⟨r, rfl, rfl, rfl⟩
  exact hk _ hr hF
theorem F_lecternlaw10_figure_w (p0 : List T_lecternlaw10_Line) {G : (List T_trace_Stroke) × (List T_lecternref10_Stroke) × Bool → Prop} (h : Heap) (hF : OptP (F_lecternlaw10_figure p0) G) : CallsA Tryd.prog 15 [.sl 2 (List.map c_T_lecternlaw10_Line p0) 0] h fun d h' => ∃ r, G r ∧ d = .tup [.sl 2 (List.map c_T_trace_Stroke r.1) 0, .sl 2 (List.map c_T_lecternref10_Stroke r.2.1) 0, .bool r.2.2] ∧ h' = h := by
  refine CallsA.ret ?_
  refine C_body Tryd.func15 rfl en_15 Tryd.ntmps15 rfl (fun ok => ?_)
  rw [F_lecternlaw10_figure] at hF
  refine C_seq ?_
  refine C_reg (mdl []) ?_
  refine S_a (v := .snil) rfl ?_
  refine S_one 2 (v := .sl 2 (List.map c_T_trace_Stroke ([] : List T_trace_Stroke)) 0) (.nil _) ?_
  refine S_a (v := .snil) rfl ?_
  refine S_one 3 (v := .sl 2 (List.map c_T_lecternref10_Stroke ([] : List T_lecternref10_Stroke)) 0) (.nil _) ?_
  refine S_a (v := .bool _) rfl ?_
  refine S_nil ?_
  refine C_seq ?_
  refine C_reg (mdl []) ?_
  refine S_a (v := .snil) rfl ?_
  refine S_ghost 5 2 ok rfl rfl ?_
  intro r1 hr1 ok
  refine S_nil ?_
  refine C_seq ?_
  refine C_reg (mdl []) ?_
  refine S_a (v := .snil) rfl ?_
  refine S_ghost 6 2 ok rfl rfl ?_
  intro r2 hr2 ok
  refine S_nil ?_
  refine C_seq ?_
  refine C_reg (mdl []) ?_
  refine S_a (v := .bool _) rfl ?_
  refine S_nil ?_
  refine C_join hF (fun (v : (List T_trace_Stroke) × (List T_lecternref10_Stroke) × Bool) s' => match v with | (a113, a115, a117) => ∃ g114 g116 : Nat, g114 ≠ 0 ∧ g116 ≠ 0 ∧ OK h [(g116, .room), (g114, .room)] ∧ WS s' ⟨mkSl 97 [(5, .sl 2 (List.map c_T_trace_Stroke a113) g114), (6, .sl 2 (List.map c_T_lecternref10_Stroke a115) g116), (7, .bool a117)], Hp h [(g116, .room), (g114, .room)]⟩) (fun J118 hF => ?_) ?_
  ·
    refine C_seq ?_
    refine C_reg (mdl []) ?_
    refine S_m (v := .sl _ _ _) rfl ?_
    refine S_lenL rfl ty_sl_32 ?_
    refine S_m (v := .int _ _) rfl ?_
    refine S_nil ?_
    refine WP_block ?_
    refine C_loop (σ := (List T_trace_Stroke) × (List T_lecternref10_Stroke) × Bool × Int) hF (fun (v : (List T_trace_Stroke) × (List T_lecternref10_Stroke) × Bool × Int) s' => match v with | (a119, a121, a123, a124) => ∃ g120 g122 : Nat, g120 ≠ 0 ∧ g122 ≠ 0 ∧ OK h [(g122, .room), (g120, .room)] ∧ WS s' ⟨mkSl 97 [(5, .sl 2 (List.map c_T_trace_Stroke a119) g120), (6, .sl 2 (List.map c_T_lecternref10_Stroke a121) g122), (7, .bool a123), (15, .sl 2 (List.map c_T_lecternlaw10_Line p0) 0), (16, .int .i64 (p0.length : Int)), (17, .int .i64 a124)], Hp h [(g122, .room), (g120, .room)]⟩) ?_ ?_
    ·
      have hwo : WO [(r2, .room), (r1, .room)] [(r2, .room), (r1, .room)] := (.keep (.keep .nil))
      exact ⟨r1, r2, hr1, hr2, (hwo.spec ok).1, WS.mk' (.cons (.refl _) (.cons (.refl _) (.cons (.refl _) (.cons (.refl _) (.cons (.refl _) (.cons (.refl _) .nil)))))) ok hwo⟩
    ·
      rintro G125 hG126 rec127 ⟨a119, a121, a123, a124⟩ s' ih128 hF ⟨g120, g122, hg120, hg122, ok, hws⟩
      refine WP_ws hws ?_
      clear hws s'
      rw [F_lecternlaw10_figure_l0] at hF
      refine C_seq ?_
      refine C_reg (mdl []) ?_
      refine S_bin rfl rfl (ev_lss ..) ?_
      refine S_nil ?_
      refine C_seq ?_
      refine C_if (b := (decide (a124 < (p0.length : Int)))) rfl hF (fun hb129 hF => ?_) (fun hb129 hF => ?_)
      ·
        refine WP_skip ?_
        refine C_join hF (fun (v : (List T_trace_Stroke) × (List T_lecternref10_Stroke) × Bool) s' => match v with | (a179, a181, a183) => ∃ g180 g182 : Nat, g180 ≠ 0 ∧ g182 ≠ 0 ∧ OK h [(g182, .room), (g180, .room)] ∧ WS s' ⟨mkSl 97 [(5, .sl 2 (List.map c_T_trace_Stroke a179) g180), (6, .sl 2 (List.map c_T_lecternref10_Stroke a181) g182), (7, .bool a183), (15, .sl 2 (List.map c_T_lecternlaw10_Line p0) 0), (16, .int .i64 (p0.length : Int)), (17, .int .i64 a124)], Hp h [(g182, .room), (g180, .room)]⟩) (fun J184 hF => ?_) ?_
        ·
          refine WP_block ?_
          refine C_seq ?_
          refine C_reg (mdl [(9, 1)]) ?_
          refine S_ix rfl rfl ty_sl_32 ty_sz_84 hF (fun x185 _ hF => ?_)
          refine S_ldQ rfl (p_agg (vs := c_T_lecternlaw10_Line x185) ty_ag_84 ty_sz_84 rfl rfl) ?_
          refine S_all1 ok rfl ty_zc_84 ?_
          intro i186 hi186 ok
          refine S_st (j := 0) (cs' := [.sl 1 (List.map c_i64 x185.Parts) 0, .bool x185.Closed]) ok rfl rfl rfl hi186 rfl ty_sz_84 rfl rfl (fun ok => ?_)
          refine S_nil ?_
          refine C_seq ?_
          refine C_reg (mdl [(10, 1)]) ?_
          refine S_faP rfl ty_fd_84_1 ty_sz_4 ?_
          refine S_ldP (j := 0) ok rfl rfl rfl hi186 (p_one (v := .bool x185.Closed) ty_ag_4 ty_sz_4 rfl) ?_
          refine S_bld (v := .agg [.snil, .bool x185.Closed]) (b_st ty_zc_56 ty_pl_56 rfl) ?_
          refine S_all1 ok rfl ty_zc_56 ?_
          intro i187 hi187 ok
          refine S_st (j := 0) (cs' := [.snil, .bool x185.Closed]) ok rfl rfl rfl hi187 rfl ty_sz_56 rfl rfl (fun ok => ?_)
          refine S_ghostO 0 0 1 (fun r188 => [.sl 1 (List.map c_cplx ([] : List (Nat × Nat))) r188, .bool x185.Closed]) ok rfl hi187 rfl (fun _ => rfl) ?_
          intro r188 hr188 ok
          refine S_nil ?_
          refine C_seq ?_
          refine C_reg (mdl [(11, 1)]) ?_
          refine S_faP rfl ty_fd_84_1 ty_sz_4 ?_
          refine S_ldP (j := 2) ok rfl rfl rfl hi186 (p_one (v := .bool x185.Closed) ty_ag_4 ty_sz_4 rfl) ?_
          refine S_bld (v := .agg [.snil, .bool x185.Closed]) (b_st ty_zc_80 ty_pl_80 rfl) ?_
          refine S_all1 ok rfl ty_zc_80 ?_
          intro i189 hi189 ok
          refine S_st (j := 0) (cs' := [.snil, .bool x185.Closed]) ok rfl rfl rfl hi189 rfl ty_sz_80 rfl rfl (fun ok => ?_)
          refine S_ghostO 0 0 2 (fun r190 => [.sl 2 (List.map c_T_lecternref10_Spot ([] : List T_lecternref10_Spot)) r190, .bool x185.Closed]) ok rfl hi189 rfl (fun _ => rfl) ?_
          intro r190 hr190 ok
          refine S_nil ?_
          refine C_join hF (fun (v : Bool × (List (Nat × Nat)) × Bool × (List T_lecternref10_Spot) × Bool) s' => match v with | (a208, a209, a211, a212, a214) => ∃ g210 g213 : Nat, g210 ≠ 0 ∧ g213 ≠ 0 ∧ OK h [(g213, .room), (i189, .cells [.sl 2 (List.map c_T_lecternref10_Spot a212) g213, .bool a214]), (g210, .room), (i187, .cells [.sl 1 (List.map c_cplx a209) g210, .bool a211]), (g122, .room), (g120, .room)] ∧ WS s' ⟨mkSl 97 [(5, .sl 2 (List.map c_T_trace_Stroke a119) g120), (6, .sl 2 (List.map c_T_lecternref10_Stroke a121) g122), (7, .bool a208), (10, .ptr i187 0), (11, .ptr i189 0), (15, .sl 2 (List.map c_T_lecternlaw10_Line p0) 0), (16, .int .i64 (p0.length : Int)), (17, .int .i64 a124)], Hp h [(g213, .room), (i189, .cells [.sl 2 (List.map c_T_lecternref10_Spot a212) g213, .bool a214]), (g210, .room), (i187, .cells [.sl 1 (List.map c_cplx a209) g210, .bool a211]), (g122, .room), (g120, .room)]⟩) (fun J215 hF => ?_) ?_
          ·
            refine C_seq ?_
            refine C_reg (mdl []) ?_
            refine S_a (v := .int _ _) rfl ?_
            refine S_nil ?_
            refine WP_block ?_
            refine C_loop (σ := Bool × (List (Nat × Nat)) × Bool × (List T_lecternref10_Spot) × Bool × Int) hF (fun (v : Bool × (List (Nat × Nat)) × Bool × (List T_lecternref10_Spot) × Bool × Int) s' => match v with | (a216, a217, a219, a220, a222, a223) => ∃ g218 g221 : Nat, g218 ≠ 0 ∧ g221 ≠ 0 ∧ OK h [(g221, .room), (i189, .cells [.sl 2 (List.map c_T_lecternref10_Spot a220) g221, .bool a222]), (g218, .room), (i187, .cells [.sl 1 (List.map c_cplx a217) g218, .bool a219]), (i186, .cells [.sl 1 (List.map c_i64 x185.Parts) 0, .bool x185.Closed]), (g122, .room), (g120, .room)] ∧ WS s' ⟨mkSl 97 [(5, .sl 2 (List.map c_T_trace_Stroke a119) g120), (6, .sl 2 (List.map c_T_lecternref10_Stroke a121) g122), (7, .bool a216), (9, .ptr i186 0), (10, .ptr i187 0), (11, .ptr i189 0), (12, .int .i64 a223), (15, .sl 2 (List.map c_T_lecternlaw10_Line p0) 0), (16, .int .i64 (p0.length : Int)), (17, .int .i64 a124)], Hp h [(g221, .room), (i189, .cells [.sl 2 (List.map c_T_lecternref10_Spot a220) g221, .bool a222]), (g218, .room), (i187, .cells [.sl 1 (List.map c_cplx a217) g218, .bool a219]), (i186, .cells [.sl 1 (List.map c_i64 x185.Parts) 0, .bool x185.Closed]), (g122, .room), (g120, .room)]⟩) ?_ ?_
            ·
              have hwo : WO [(r190, .room), (i189, .cells [.sl 2 (List.map c_T_lecternref10_Spot ([] : List T_lecternref10_Spot)) r190, .bool x185.Closed]), (r188, .room), (i187, .cells [.sl 1 (List.map c_cplx ([] : List (Nat × Nat))) r188, .bool x185.Closed]), (i186, .cells [.sl 1 (List.map c_i64 x185.Parts) 0, .bool x185.Closed]), (g122, .room), (g120, .room)] [(r190, .room), (i189, .cells [.sl 2 (List.map c_T_lecternref10_Spot ([] : List T_lecternref10_Spot)) r190, .bool x185.Closed]), (r188, .room), (i187, .cells [.sl 1 (List.map c_cplx ([] : List (Nat × Nat))) r188, .bool x185.Closed]), (i186, .cells [.sl 1 (List.map c_i64 x185.Parts) 0, .bool x185.Closed]), (g122, .room), (g120, .room)] := (.keep (.keep (.keep (.keep (.keep (.keep (.keep .nil)))))))
              exact ⟨r188, r190, hr188, hr190, (hwo.spec ok).1, WS.mk' (.cons (.refl _) (.cons (.refl _) (.cons (.refl _) (.cons (.refl _) (.cons (.refl _) (.cons (.refl _) (.cons (.refl _) (.cons (.refl _) (.cons (.refl _) (.cons (.refl _) .nil)))))))))) ok hwo⟩
            ·
              rintro G224 hG225 rec226 ⟨a216, a217, a219, a220, a222, a223⟩ s' ih227 hF ⟨g218, g221, hg218, hg221, ok, hws⟩
              refine WP_ws hws ?_
              clear hws s'
              rw [F_lecternlaw10_figure_l1] at hF
              refine C_seq ?_
              refine C_seq ?_
              refine C_reg (mdl []) ?_
              refine S_m (v := .int _ _) rfl ?_
              refine S_bin rfl rfl (ev_add ..) ?_
              refine S_faP rfl ty_fd_84_0 ty_sz_82 ?_
              refine S_ldP (j := 4) ok rfl rfl rfl hi186 (p_one (v := .sl 1 (List.map c_i64 x185.Parts) 0) ty_ag_82 ty_sz_82 rfl) ?_
              refine S_lenL rfl ty_sl_82 ?_
              refine S_bin rfl rfl (ev_lss ..) ?_
              refine S_nil ?_
              refine C_if (b := (decide ((IntKind.wrap .i64 (a223 + (1 : Int))) < (x185.Parts.length : Int)))) rfl hF (fun hb228 hF => ?_) (fun hb228 hF => ?_)
              ·
                refine WP_skip ?_
                refine C_seq ?_
                refine WP_block ?_
                refine C_seq ?_
                refine C_drw (mdl [(39, 3), (45, 3)]) (by kernel_rfl) (by kernel_rfl) ?_
                refine S_faP rfl ty_fd_84_0 ty_sz_82 ?_
                refine S_ldP (j := 4) ok rfl rfl rfl hi186 (p_one (v := .sl 1 (List.map c_i64 x185.Parts) 0) ty_ag_82 ty_sz_82 rfl) ?_
                refine S_m (v := .int _ _) rfl ?_
                refine S_ix rfl rfl ty_sl_82 ty_sz_3 hF (fun x229 _ hF => ?_)
                refine S_ldQ rfl (p_one ty_ag_3 ty_sz_3 rfl) ?_
                refine S_faP rfl ty_fd_84_0 ty_sz_82 ?_
                refine S_ldP (j := 4) ok rfl rfl rfl hi186 (p_one (v := .sl 1 (List.map c_i64 x185.Parts) 0) ty_ag_82 ty_sz_82 rfl) ?_
                refine S_m (v := .int _ _) rfl ?_
                refine S_bin rfl rfl (ev_add ..) ?_
                refine S_ix rfl rfl ty_sl_82 ty_sz_3 hF (fun x230 _ hF => ?_)
                refine S_ldQ rfl (p_one ty_ag_3 ty_sz_3 rfl) ?_
                refine S_a (v := .int _ _) rfl ?_
                refine S_a (v := .int _ _) rfl ?_
                refine S_nil ?_
                refine C_seq ?_
                refine C_reg (mdl []) ?_
                refine S_m (v := .bool _) rfl ?_
                refine S_m (v := .bool _) rfl ?_
                refine S_two (b := a216) 3 50 (.bool (a216 && (decide ((-1000000 : Int) ≤ x229)))) (fun hb231 => ?_) (fun hb231 => ?_) ?_
                ·
                  refine S_on rfl rfl hb231 ?_
                  refine S_in ?_
                  refine S_m (v := .int _ _) rfl ?_
                  refine S_nil ?_
                  refine S_on rfl rfl hb231 ?_
                  refine S_in ?_
                  refine S_bin rfl rfl (ev_geq ..) ?_
                  refine S_nil ?_
                  refine S_pickT (v := .bool _) rfl hb231 rfl ?_
                  refine S_nil ?_
                  refine .hd (and_t hb231) ?_
                  repeat (first | with_reducible exact WS.refl _ | refine WS.add ?_ rfl)
                ·
                  refine S_off rfl rfl hb231 ?_
                  refine S_offD ?_
                  refine S_off rfl rfl hb231 ?_
                  refine S_offD ?_
                  refine S_pickF (v := .bool _) rfl hb231 rfl ?_
                  refine S_nil ?_
                  refine .hd (and_f hb231) ?_
                  repeat (first | with_reducible exact WS.refl _ | refine WS.add ?_ rfl)
                refine S_m (v := .bool _) rfl ?_
                refine S_two (b := (a216 && (decide ((-1000000 : Int) ≤ x229)))) 3 54 (.bool ((a216 && (decide ((-1000000 : Int) ≤ x229))) && (decide (x229 ≤ (1000000 : Int))))) (fun hb232 => ?_) (fun hb232 => ?_) ?_
                ·
                  refine S_on rfl rfl hb232 ?_
                  refine S_in ?_
                  refine S_m (v := .int _ _) rfl ?_
                  refine S_nil ?_
                  refine S_on rfl rfl hb232 ?_
                  refine S_in ?_
                  refine S_bin rfl rfl (ev_leq ..) ?_
                  refine S_nil ?_
                  refine S_pickT (v := .bool _) rfl hb232 rfl ?_
                  refine S_nil ?_
                  refine .hd (and_t hb232) ?_
                  repeat (first | with_reducible exact WS.refl _ | refine WS.add ?_ rfl)
                ·
                  refine S_off rfl rfl hb232 ?_
                  refine S_offD ?_
                  refine S_off rfl rfl hb232 ?_
                  refine S_offD ?_
                  refine S_pickF (v := .bool _) rfl hb232 rfl ?_
                  refine S_nil ?_
                  refine .hd (and_f hb232) ?_
                  repeat (first | with_reducible exact WS.refl _ | refine WS.add ?_ rfl)
                refine S_m (v := .bool _) rfl ?_
                refine S_two (b := ((a216 && (decide ((-1000000 : Int) ≤ x229))) && (decide (x229 ≤ (1000000 : Int))))) 3 58 (.bool (((a216 && (decide ((-1000000 : Int) ≤ x229))) && (decide (x229 ≤ (1000000 : Int)))) && (decide ((-1000000 : Int) ≤ x230)))) (fun hb233 => ?_) (fun hb233 => ?_) ?_
                ·
                  refine S_on rfl rfl hb233 ?_
                  refine S_in ?_
                  refine S_m (v := .int _ _) rfl ?_
                  refine S_nil ?_
                  refine S_on rfl rfl hb233 ?_
                  refine S_in ?_
                  refine S_bin rfl rfl (ev_geq ..) ?_
                  refine S_nil ?_
                  refine S_pickT (v := .bool _) rfl hb233 rfl ?_
                  refine S_nil ?_
                  refine .hd (and_t hb233) ?_
                  repeat (first | with_reducible exact WS.refl _ | refine WS.add ?_ rfl)
                ·
                  refine S_off rfl rfl hb233 ?_
                  refine S_offD ?_
                  refine S_off rfl rfl hb233 ?_
                  refine S_offD ?_
                  refine S_pickF (v := .bool _) rfl hb233 rfl ?_
                  refine S_nil ?_
                  refine .hd (and_f hb233) ?_
                  repeat (first | with_reducible exact WS.refl _ | refine WS.add ?_ rfl)
                refine S_m (v := .bool _) rfl ?_
                refine S_two (b := (((a216 && (decide ((-1000000 : Int) ≤ x229))) && (decide (x229 ≤ (1000000 : Int)))) && (decide ((-1000000 : Int) ≤ x230)))) 3 62 (.bool ((((a216 && (decide ((-1000000 : Int) ≤ x229))) && (decide (x229 ≤ (1000000 : Int)))) && (decide ((-1000000 : Int) ≤ x230))) && (decide (x230 ≤ (1000000 : Int))))) (fun hb234 => ?_) (fun hb234 => ?_) ?_
                ·
                  refine S_on rfl rfl hb234 ?_
                  refine S_in ?_
                  refine S_m (v := .int _ _) rfl ?_
                  refine S_nil ?_
                  refine S_on rfl rfl hb234 ?_
                  refine S_in ?_
                  refine S_bin rfl rfl (ev_leq ..) ?_
                  refine S_nil ?_
                  refine S_pickT (v := .bool _) rfl hb234 rfl ?_
                  refine S_nil ?_
                  refine .hd (and_t hb234) ?_
                  repeat (first | with_reducible exact WS.refl _ | refine WS.add ?_ rfl)
                ·
                  refine S_off rfl rfl hb234 ?_
                  refine S_offD ?_
                  refine S_off rfl rfl hb234 ?_
                  refine S_offD ?_
                  refine S_pickF (v := .bool _) rfl hb234 rfl ?_
                  refine S_nil ?_
                  refine .hd (and_f hb234) ?_
                  repeat (first | with_reducible exact WS.refl _ | refine WS.add ?_ rfl)
                refine S_a (v := .bool _) rfl ?_
                refine S_nil ?_
                refine C_seq ?_
                refine C_reg (mdl [(71, 2)]) ?_
                refine S_faP rfl ty_fd_56_0 ty_sz_54 ?_
                refine S_ldP (j := 3) ok rfl rfl rfl hi187 (p_one (v := .sl 1 (List.map c_cplx a217) g218) ty_ag_54 ty_sz_54 rfl) ?_
                refine S_m (v := .int _ _) rfl ?_
                refine S_conv rfl (e_i2f ty_ki_40 ty_fa_40 ty_un_3) ?_
                refine S_m (v := .int _ _) rfl ?_
                refine S_conv rfl (e_i2f ty_ki_40 ty_fa_40 ty_un_3) ?_
                refine S_cplx (a := (i2f x229)) (b := (i2f x230)) rfl rfl ?_
                refine S_lit0 (cs := [.cplx .f64 (((i2f x229), (i2f x230)) : Nat × Nat).1 (((i2f x229), (i2f x230)) : Nat × Nat).2]) (es := (List.map c_cplx [(((i2f x229), (i2f x230)) : Nat × Nat)])) rfl ty_el_54 rfl (by kernel_rfl) (by kernel_rfl) ?_
                refine S_app (j := 2) ok rfl rfl rfl rfl hg218 ty_el_54 ty_ni_54 hF ?_
                intro r235 hr235 ok hF
                refine S_faP rfl ty_fd_56_0 ty_sz_54 ?_
                refine S_st (j := 3) (cs' := [.sl 1 (List.map c_cplx (a217 ++ [(((i2f x229), (i2f x230)) : Nat × Nat)])) r235, .bool a219]) ok rfl rfl rfl hi187 rfl ty_sz_54 rfl rfl (fun ok => ?_)
                refine S_nil ?_
                refine C_reg (mdl [(79, 2)]) ?_
                refine S_faP rfl ty_fd_80_0 ty_sz_78 ?_
                refine S_ldP (j := 1) ok rfl rfl rfl hi189 (p_one (v := .sl 2 (List.map c_T_lecternref10_Spot a220) g221) ty_ag_78 ty_sz_78 rfl) ?_
                refine S_m (v := .int _ _) rfl ?_
                refine S_m (v := .int _ _) rfl ?_
                refine S_bld (v := .agg (c_T_lecternref10_Spot (⟨x229, x230⟩ : T_lecternref10_Spot))) (b_st ty_zc_52 ty_pl_52 rfl) ?_
                refine S_lit0 (cs := [.int .i64 (⟨x229, x230⟩ : T_lecternref10_Spot).X, .int .i64 (⟨x229, x230⟩ : T_lecternref10_Spot).Y]) (es := (List.map c_T_lecternref10_Spot [(⟨x229, x230⟩ : T_lecternref10_Spot)])) rfl ty_el_78 rfl (by kernel_rfl) (by kernel_rfl) ?_
                refine S_app (j := 0) ok rfl rfl rfl rfl hg221 ty_el_78 ty_ni_78 hF ?_
                intro r236 hr236 ok hF
                refine S_faP rfl ty_fd_80_0 ty_sz_78 ?_
                refine S_st (j := 1) (cs' := [.sl 2 (List.map c_T_lecternref10_Spot (a220 ++ [(⟨x229, x230⟩ : T_lecternref10_Spot)])) r236, .bool a222]) ok rfl rfl rfl hi189 rfl ty_sz_78 rfl rfl (fun ok => ?_)
                refine S_nil ?_
                refine C_reg (mdl []) ?_
                refine S_m (v := .int _ _) rfl ?_
                refine S_bin rfl rfl (ev_add ..) ?_
                refine S_a (v := .int _ _) rfl ?_
                refine S_nil ?_
                refine ih227 (((((a216 && (decide ((-1000000 : Int) ≤ x229))) && (decide (x229 ≤ (1000000 : Int)))) && (decide ((-1000000 : Int) ≤ x230))) && (decide (x230 ≤ (1000000 : Int)))), (a217 ++ [(((i2f x229), (i2f x230)) : Nat × Nat)]), a219, (a220 ++ [(⟨x229, x230⟩ : T_lecternref10_Spot)]), a222, (IntKind.wrap .i64 (a223 + (2 : Int)))) _ hF ?_
                have hwo : WO [(r236, .room), (i189, .cells [.sl 2 (List.map c_T_lecternref10_Spot (a220 ++ [(⟨x229, x230⟩ : T_lecternref10_Spot)])) r236, .bool a222]), (r235, .room), (i187, .cells [.sl 1 (List.map c_cplx (a217 ++ [(((i2f x229), (i2f x230)) : Nat × Nat)])) r235, .bool a219]), (i186, .cells [.sl 1 (List.map c_i64 x185.Parts) 0, .bool x185.Closed]), (g122, .room), (g120, .room)] [(r236, .room), (i189, .cells [.sl 2 (List.map c_T_lecternref10_Spot (a220 ++ [(⟨x229, x230⟩ : T_lecternref10_Spot)])) r236, .bool a222]), (r235, .room), (i187, .cells [.sl 1 (List.map c_cplx (a217 ++ [(((i2f x229), (i2f x230)) : Nat × Nat)])) r235, .bool a219]), (i186, .cells [.sl 1 (List.map c_i64 x185.Parts) 0, .bool x185.Closed]), (g122, .room), (g120, .room)] := (.keep (.keep (.keep (.keep (.keep (.keep (.keep .nil)))))))
                exact ⟨r235, r236, hr235, hr236, (hwo.spec ok).1, WS.mk' (.cons (.refl _) (.cons (.refl _) (.cons (.refl _) (.cons (.refl _) (.cons (.refl _) (.cons (.refl _) (.cons (.refl _) (.cons (.refl _) (.cons (.refl _) (.cons (.refl _) .nil)))))))))) ok hwo⟩
              ·
                refine WP_exit ?_
                simp only [Exit.sel, Exit.blk, Exit.jmp, if_true, if_false, reduceIte, Nat.reduceEqDiff, Nat.succ_ne_zero, Nat.zero_ne_one, Nat.one_ne_zero]
                replace hF := hG225 _ (F_some hF)
                have hwo : WO [(g221, .room), (i189, .cells [.sl 2 (List.map c_T_lecternref10_Spot a220) g221, .bool a222]), (g218, .room), (i187, .cells [.sl 1 (List.map c_cplx a217) g218, .bool a219]), (i186, .cells [.sl 1 (List.map c_i64 x185.Parts) 0, .bool x185.Closed]), (g122, .room), (g120, .room)] [(g221, .room), (i189, .cells [.sl 2 (List.map c_T_lecternref10_Spot a220) g221, .bool a222]), (g218, .room), (i187, .cells [.sl 1 (List.map c_cplx a217) g218, .bool a219]), (g122, .room), (g120, .room)] := (.keep (.keep (.keep (.keep (.drop (.keep (.keep .nil)))))))
                exact ⟨(a216, a217, a219, a220, a222), hF, g218, g221, hg218, hg221, (hwo.spec ok).1, WS.mk' (.cons (.refl _) (.cons (.refl _) (.cons (.refl _) (.cons (.refl _) (.cons (.refl _) (.cons (.refl _) (.cons (.refl _) (.cons (.refl _) .nil)))))))) ok hwo⟩
          ·
            rintro ⟨a208, a209, a211, a212, a214⟩ s' hF ⟨g210, g213, hg210, hg213, ok, hws⟩
            refine WP_ws hws ?_
            clear hws s'
            refine C_seq ?_
            refine C_reg (mdl [(84, 2)]) ?_
            refine S_m (v := .sl _ _ _) rfl ?_
            refine S_ldP (j := 3) ok rfl rfl rfl hi187 (p_agg (vs := [.sl 1 (List.map c_cplx a209) g210, .bool a211]) ty_ag_56 ty_sz_56 rfl rfl) ?_
            refine S_one 82 (v := .agg (c_T_trace_Stroke (⟨a209, a211⟩ : T_trace_Stroke))) (.aggC (.cons (.zero _ _ _) (.cons (.refl _) (.nil)))) ?_
            refine S_lit0 (cs := [.sl 1 (List.map c_cplx (⟨a209, a211⟩ : T_trace_Stroke).Spots) 0, .bool (⟨a209, a211⟩ : T_trace_Stroke).Closed]) (es := (List.map c_T_trace_Stroke [(⟨a209, a211⟩ : T_trace_Stroke)])) rfl ty_el_23 rfl (by kernel_rfl) (by kernel_rfl) ?_
            refine S_app (j := 5) ok rfl rfl rfl rfl hg120 ty_el_23 ty_ni_23 hF ?_
            intro r237 hr237 ok hF
            refine S_a (v := .sl _ _ _) rfl ?_
            refine S_nil ?_
            refine C_reg (mdl [(88, 2)]) ?_
            refine S_m (v := .sl _ _ _) rfl ?_
            refine S_ldP (j := 1) ok rfl rfl rfl hi189 (p_agg (vs := [.sl 2 (List.map c_T_lecternref10_Spot a212) g213, .bool a214]) ty_ag_80 ty_sz_80 rfl rfl) ?_
            refine S_one 86 (v := .agg (c_T_lecternref10_Stroke (⟨a212, a214⟩ : T_lecternref10_Stroke))) (.aggC (.cons (.zero _ _ _) (.cons (.refl _) (.nil)))) ?_
            refine S_lit0 (cs := [.sl 2 (List.map c_T_lecternref10_Spot (⟨a212, a214⟩ : T_lecternref10_Stroke).Spots) 0, .bool (⟨a212, a214⟩ : T_lecternref10_Stroke).Closed]) (es := (List.map c_T_lecternref10_Stroke [(⟨a212, a214⟩ : T_lecternref10_Stroke)])) rfl ty_el_27 rfl (by kernel_rfl) (by kernel_rfl) ?_
            refine S_app (j := 4) ok rfl rfl rfl rfl hg122 ty_el_27 ty_ni_27 hF ?_
            intro r238 hr238 ok hF
            refine S_a (v := .sl _ _ _) rfl ?_
            refine S_nil ?_
            have hwo : WO [(g213, .room), (i189, .cells [.sl 2 (List.map c_T_lecternref10_Spot a212) g213, .bool a214]), (g210, .room), (i187, .cells [.sl 1 (List.map c_cplx a209) g210, .bool a211]), (r238, .room), (r237, .room)] [(r238, .room), (r237, .room)] := (.drop (.drop (.drop (.drop (.keep (.keep .nil))))))
            exact ⟨((a119 ++ [(⟨a209, a211⟩ : T_trace_Stroke)]), (a121 ++ [(⟨a212, a214⟩ : T_lecternref10_Stroke)]), a208), hF, r237, r238, hr237, hr238, (hwo.spec ok).1, WS.mk' (.cons (.refl _) (.cons (.refl _) (.cons (.refl _) (.cons (.refl _) (.cons (.refl _) (.cons (.refl _) .nil)))))) ok hwo⟩
        ·
          rintro ⟨a179, a181, a183⟩ s' hF ⟨g180, g182, hg180, hg182, ok, hws⟩
          refine WP_ws hws ?_
          clear hws s'
          refine C_reg (mdl []) ?_
          refine S_bin rfl rfl (ev_add ..) ?_
          refine S_m (v := .int _ _) rfl ?_
          refine S_nil ?_
          refine ih128 (a179, a181, a183, (IntKind.wrap .i64 (a124 + (1 : Int)))) _ hF ?_
          have hwo : WO [(g182, .room), (g180, .room)] [(g182, .room), (g180, .room)] := (.keep (.keep .nil))
          exact ⟨g180, g182, hg180, hg182, (hwo.spec ok).1, WS.mk' (.cons (.refl _) (.cons (.refl _) (.cons (.refl _) (.cons (.refl _) (.cons (.refl _) (.cons (.refl _) .nil)))))) ok hwo⟩
      ·
        refine WP_exit ?_
        simp only [Exit.sel, Exit.blk, Exit.jmp, if_true, if_false, reduceIte, Nat.reduceEqDiff, Nat.succ_ne_zero, Nat.zero_ne_one, Nat.one_ne_zero]
        replace hF := hG126 _ (F_some hF)
        have hwo : WO [(g122, .room), (g120, .room)] [(g122, .room), (g120, .room)] := (.keep (.keep .nil))
        exact ⟨(a119, a121, a123), hF, g120, g122, hg120, hg122, (hwo.spec ok).1, WS.mk' (.cons (.refl _) (.cons (.refl _) (.cons (.refl _) .nil))) ok hwo⟩
  ·
    rintro ⟨a113, a115, a117⟩ s' hF ⟨g114, g116, hg114, hg116, ok, hws⟩
    refine WP_ws hws ?_
    clear hws s'
    refine C_seq ?_
    refine C_reg (mdl []) ?_
    refine S_m (v := .sl _ _ _) rfl ?_
    refine S_one 90 (v := .sl 2 (List.map c_T_trace_Stroke a113) 0) (.zero _ _ _) ?_
    refine S_m (v := .sl _ _ _) rfl ?_
    refine S_one 91 (v := .sl 2 (List.map c_T_lecternref10_Stroke a115) 0) (.zero _ _ _) ?_
    refine S_m (v := .bool _) rfl ?_
    refine S_m (v := .bool _) rfl ?_
    refine S_twoJ 3 96 hF (fun J240 hb239 hF => ?_) (fun J240 hb239 hF => ?_) (fun v241 hF => ?_)
    ·
      refine S_on rfl rfl hb239 ?_
      refine S_in ?_
      refine S_m (v := .sl _ _ _) rfl ?_
      refine S_nil ?_
      refine S_one 94 (v := .sl 2 (List.map c_T_lecternref10_Stroke a115) 0) (.zero _ _ _) ?_
      refine S_on rfl rfl hb239 ?_
      refine S_in ?_
      refine S_call (F_lecternref10_Right_ok _ hF fun x242 _ hF => ?_) (.cons (.refl _) (.nil))
      refine S_nil ?_
      refine S_pickT (v := .bool _) rfl hb239 rfl ?_
      refine S_nil ?_
      refine ⟨_, hF, .hd (.refl _) ?_⟩
      repeat (first | with_reducible exact WS.refl _ | refine WS.add ?_ rfl)
    ·
      refine S_off rfl rfl hb239 ?_
      refine S_offD ?_
      refine S_off rfl rfl hb239 ?_
      refine S_offD ?_
      refine S_pickF (v := .bool _) rfl hb239 rfl ?_
      refine S_nil ?_
      refine ⟨_, hF, .hd (.refl _) ?_⟩
      repeat (first | with_reducible exact WS.refl _ | refine WS.add ?_ rfl)
    ·
      refine S_a (v := .sl _ _ _) rfl ?_
      refine S_a (v := .sl _ _ _) rfl ?_
      refine S_a (v := .bool _) rfl ?_
      refine S_nil ?_
      refine WP_ret ?_
      repeat (first | with_reducible refine Exit.sel_ret ?_ | with_reducible refine Exit.blk_ret ?_ | with_reducible refine Exit.jmp_ret ?_)
      refine C_ret (fn := Tryd.f15) rfl (.tmp (v := .sl 2 (List.map c_T_trace_Stroke a113) 0) rfl (.tmp (v := .sl 2 (List.map c_T_lecternref10_Stroke a115) 0) rfl (.tmp (v := .bool v241) rfl .nil))) ?_
      exact ⟨_, _, (.tupC (.cons (.refl _) (.cons (.refl _) (.cons (.refl _) (.nil))))), ok.wh, _, F_some hF, rfl, rfl⟩
theorem F_lecternlaw10_figure_ok {β : Type} {f : (List T_trace_Stroke) × (List T_lecternref10_Stroke) × Bool → Option β} {G : β → Prop} {R : D → Heap → Prop} {p0 : List T_lecternlaw10_Line} (h : Heap) (hF : OptP ((F_lecternlaw10_figure p0).bind f) G) (hk : ∀ r, F_lecternlaw10_figure p0 = some r → OptP (f r) G → R (.tup [.sl 2 (List.map c_T_trace_Stroke r.1) 0, .sl 2 (List.map c_T_lecternref10_Stroke r.2.1) 0, .bool r.2.2]) h) : CallsA Tryd.prog 15 [.sl 2 (List.map c_T_lecternlaw10_Line p0) 0] h R := by
  obtain ⟨r0, hr, hF⟩ := F_bind hF
  refine (F_lecternlaw10_figure_w (G := fun r => r = r0) p0 h ⟨r0, hr, rfl⟩).mono ?_
  rintro _ _ ⟨r, rfl, rfl, rfl⟩
  exact hk _ hr hF
theorem F_trace_Turn_w (p0 : List T_trace_Stroke) (p1 : Nat × Nat) (p2 : Nat × Nat) {G : (List T_trace_Stroke) × Int → Prop} (h : Heap) (hF : OptP (F_trace_Turn p0 p1 p2) G) : CallsA Tryd.prog 24 [.sl 2 (List.map c_T_trace_Stroke p0) 0, .cplx .f64 p1.1 p1.2, .cplx .f64 p2.1 p2.2] h fun d h' => ∃ r, G r ∧ d = .tup [.sl 2 (List.map c_T_trace_Stroke r.1) 0, .int .i64 r.2] ∧ h' = h := by
  refine CallsA.ret ?_
  refine C_body Tryd.func24 rfl en_24 Tryd.ntmps24 rfl (fun ok => ?_)
  rw [F_trace_Turn] at hF
  refine C_seq ?_
  refine C_reg (mdl []) ?_
  refine S_a (v := .snil) rfl ?_
  refine S_one 6 (v := .sl 2 (List.map c_T_trace_Stroke ([] : List T_trace_Stroke)) 0) (.nil _) ?_
  refine S_a (v := .int _ _) rfl ?_
  refine S_nil ?_
  refine C_seq ?_
  refine C_seq ?_
  refine C_reg (mdl []) ?_
  refine S_m (v := .sl _ _ _) rfl ?_
  refine S_call (F_trace_right_ok _ hF fun x1 _ hF => ?_) (.cons (.refl _) (.nil))
  refine S_un rfl (ev_not _) ?_
  refine S_m (v := .bool _) rfl ?_
  refine S_twoJ 4 21 hF (fun J3 hb2 hF => ?_) (fun J3 hb2 hF => ?_) (fun v4 hF => ?_)
  ·
    refine S_off rfl rfl hb2 ?_
    refine S_offD ?_
    refine S_off rfl rfl hb2 ?_
    refine S_offD ?_
    refine S_off rfl rfl hb2 ?_
    refine S_offD ?_
    refine S_pickT (v := .bool _) rfl hb2 rfl ?_
    refine S_nil ?_
    refine ⟨_, hF, .hd (.refl _) ?_⟩
    repeat (first | with_reducible exact WS.refl _ | refine WS.add ?_ rfl)
  ·
    refine S_on rfl rfl hb2 ?_
    refine S_in ?_
    refine S_m (v := .cplx _ _ _) rfl ?_
    refine S_nil ?_
    refine S_on rfl rfl hb2 ?_
    refine S_in ?_
    refine S_call (F_trace_spot_ok _ hF fun x5 _ hF => ?_) (.cons (.refl _) (.nil))
    refine S_nil ?_
    refine S_on rfl rfl hb2 ?_
    refine S_in ?_
    refine S_un rfl (ev_not _) ?_
    refine S_nil ?_
    refine S_pickF (v := .bool _) rfl hb2 rfl ?_
    refine S_nil ?_
    refine ⟨_, hF, .hd (.refl _) ?_⟩
    repeat (first | with_reducible exact WS.refl _ | refine WS.add ?_ rfl)
  ·
    refine S_m (v := .bool _) rfl ?_
    refine S_twoJ 4 26 hF (fun J7 hb6 hF => ?_) (fun J7 hb6 hF => ?_) (fun v8 hF => ?_)
    ·
      refine S_off rfl rfl hb6 ?_
      refine S_offD ?_
      refine S_off rfl rfl hb6 ?_
      refine S_offD ?_
      refine S_off rfl rfl hb6 ?_
      refine S_offD ?_
      refine S_pickT (v := .bool _) rfl hb6 rfl ?_
      refine S_nil ?_
      refine ⟨_, hF, .hd (.refl _) ?_⟩
      repeat (first | with_reducible exact WS.refl _ | refine WS.add ?_ rfl)
    ·
      refine S_on rfl rfl hb6 ?_
      refine S_in ?_
      refine S_m (v := .cplx _ _ _) rfl ?_
      refine S_nil ?_
      refine S_on rfl rfl hb6 ?_
      refine S_in ?_
      refine S_call (F_trace_spot_ok _ hF fun x9 _ hF => ?_) (.cons (.refl _) (.nil))
      refine S_nil ?_
      refine S_on rfl rfl hb6 ?_
      refine S_in ?_
      refine S_un rfl (ev_not _) ?_
      refine S_nil ?_
      refine S_pickF (v := .bool _) rfl hb6 rfl ?_
      refine S_nil ?_
      refine ⟨_, hF, .hd (.refl _) ?_⟩
      repeat (first | with_reducible exact WS.refl _ | refine WS.add ?_ rfl)
    ·
      refine S_nil ?_
      refine C_if (b := v8) rfl hF (fun hb10 hF => ?_) (fun hb10 hF => ?_)
      ·
        refine C_seq ?_
        refine C_reg (mdl []) ?_
        refine S_a (v := .snil) rfl ?_
        refine S_one 6 (v := .sl 2 (List.map c_T_trace_Stroke ([] : List T_trace_Stroke)) 0) (.nil _) ?_
        refine S_a (v := .int _ _) rfl ?_
        refine S_nil ?_
        refine WP_ret ?_
        repeat (first | with_reducible refine Exit.sel_ret ?_ | with_reducible refine Exit.blk_ret ?_ | with_reducible refine Exit.jmp_ret ?_)
        refine C_ret (fn := Tryd.f24) rfl (.tmp (v := .sl 2 (List.map c_T_trace_Stroke ([] : List T_trace_Stroke)) 0) rfl (.tmp (v := .int .i64 (1 : Int)) rfl .nil)) ?_
        exact ⟨_, _, (.tupC (.cons (.refl _) (.cons (.refl _) (.nil)))), ok.wh, _, F_some hF, rfl, rfl⟩
      ·
        refine WP_skip ?_
        refine C_seq ?_
        refine C_reg (mdl []) ?_
        refine S_a (v := .snil) rfl ?_
        refine S_ghost 8 2 ok rfl rfl ?_
        intro r11 hr11 ok
        refine S_nil ?_
        refine C_join hF (fun (a78 : (List T_trace_Stroke)) s' => ∃ g79 : Nat, g79 ≠ 0 ∧ OK h [(g79, .room)] ∧ WS s' ⟨mkSl 64 [(8, .sl 2 (List.map c_T_trace_Stroke a78) g79)], Hp h [(g79, .room)]⟩) (fun J80 hF => ?_) ?_
        ·
          refine C_seq ?_
          refine C_reg (mdl []) ?_
          refine S_m (v := .sl _ _ _) rfl ?_
          refine S_lenL rfl ty_sl_23 ?_
          refine S_m (v := .int _ _) rfl ?_
          refine S_nil ?_
          refine WP_block ?_
          refine C_loop (σ := (List T_trace_Stroke) × Int) hF (fun (v : (List T_trace_Stroke) × Int) s' => match v with | (a81, a83) => ∃ g82 : Nat, g82 ≠ 0 ∧ OK h [(g82, .room)] ∧ WS s' ⟨mkSl 64 [(1, .cplx .f64 p1.1 p1.2), (2, .cplx .f64 p2.1 p2.2), (8, .sl 2 (List.map c_T_trace_Stroke a81) g82), (27, .sl 2 (List.map c_T_trace_Stroke p0) 0), (28, .int .i64 (p0.length : Int)), (29, .int .i64 a83)], Hp h [(g82, .room)]⟩) ?_ ?_
          ·
            have hwo : WO [(r11, .room)] [(r11, .room)] := (.keep .nil)
            exact ⟨r11, hr11, (hwo.spec ok).1, WS.mk' (.cons (.refl _) (.cons (.refl _) (.cons (.refl _) (.cons (.refl _) (.cons (.refl _) (.cons (.refl _) .nil)))))) ok hwo⟩
          ·
            rintro G84 hG85 rec86 ⟨a81, a83⟩ s' ih87 hF ⟨g82, hg82, ok, hws⟩
            refine WP_ws hws ?_
            clear hws s'
            rw [F_trace_Turn_l0] at hF
            refine C_seq ?_
            refine C_reg (mdl []) ?_
            refine S_bin rfl rfl (ev_lss ..) ?_
            refine S_nil ?_
            refine C_seq ?_
            refine C_if (b := (decide (a83 < (p0.length : Int)))) rfl hF (fun hb88 hF => ?_) (fun hb88 hF => ?_)
            ·
              refine WP_skip ?_
              refine C_join hF (fun (a119 : (List T_trace_Stroke)) s' => ∃ g120 : Nat, g120 ≠ 0 ∧ OK h [(g120, .room)] ∧ WS s' ⟨mkSl 64 [(1, .cplx .f64 p1.1 p1.2), (2, .cplx .f64 p2.1 p2.2), (8, .sl 2 (List.map c_T_trace_Stroke a119) g120), (27, .sl 2 (List.map c_T_trace_Stroke p0) 0), (28, .int .i64 (p0.length : Int)), (29, .int .i64 a83)], Hp h [(g120, .room)]⟩) (fun J121 hF => ?_) ?_
              ·
                refine WP_block ?_
                refine C_seq ?_
                refine C_reg (mdl [(10, 1)]) ?_
                refine S_ix rfl rfl ty_sl_23 ty_sz_56 hF (fun x122 _ hF => ?_)
                refine S_ldQ rfl (p_agg (vs := c_T_trace_Stroke x122) ty_ag_56 ty_sz_56 rfl rfl) ?_
                refine S_all1 ok rfl ty_zc_56 ?_
                intro i123 hi123 ok
                refine S_st (j := 0) (cs' := [.sl 1 (List.map c_cplx x122.Spots) 0, .bool x122.Closed]) ok rfl rfl rfl hi123 rfl ty_sz_56 rfl rfl (fun ok => ?_)
                refine S_nil ?_
                refine C_seq ?_
                refine C_reg (mdl [(11, 1)]) ?_
                refine S_faP rfl ty_fd_56_1 ty_sz_4 ?_
                refine S_ldP (j := 0) ok rfl rfl rfl hi123 (p_one (v := .bool x122.Closed) ty_ag_4 ty_sz_4 rfl) ?_
                refine S_bld (v := .agg [.snil, .bool x122.Closed]) (b_st ty_zc_56 ty_pl_56 rfl) ?_
                refine S_all1 ok rfl ty_zc_56 ?_
                intro i124 hi124 ok
                refine S_st (j := 0) (cs' := [.snil, .bool x122.Closed]) ok rfl rfl rfl hi124 rfl ty_sz_56 rfl rfl (fun ok => ?_)
                refine S_ghostO 0 0 1 (fun r125 => [.sl 1 (List.map c_cplx ([] : List (Nat × Nat))) r125, .bool x122.Closed]) ok rfl hi124 rfl (fun _ => rfl) ?_
                intro r125 hr125 ok
                refine S_nil ?_
                refine C_join hF (fun (v : (List (Nat × Nat)) × Bool) s' => match v with | (a137, a139) => ∃ g138 : Nat, g138 ≠ 0 ∧ OK h [(g138, .room), (i124, .cells [.sl 1 (List.map c_cplx a137) g138, .bool a139]), (g82, .room)] ∧ WS s' ⟨mkSl 64 [(1, .cplx .f64 p1.1 p1.2), (2, .cplx .f64 p2.1 p2.2), (8, .sl 2 (List.map c_T_trace_Stroke a81) g82), (11, .ptr i124 0), (27, .sl 2 (List.map c_T_trace_Stroke p0) 0), (28, .int .i64 (p0.length : Int)), (29, .int .i64 a83)], Hp h [(g138, .room), (i124, .cells [.sl 1 (List.map c_cplx a137) g138, .bool a139]), (g82, .room)]⟩) (fun J140 hF => ?_) ?_
                ·
                  refine C_seq ?_
                  refine C_reg (mdl []) ?_
                  refine S_faP rfl ty_fd_56_0 ty_sz_54 ?_
                  refine S_ldP (j := 2) ok rfl rfl rfl hi123 (p_one (v := .sl 1 (List.map c_cplx x122.Spots) 0) ty_ag_54 ty_sz_54 rfl) ?_
                  refine S_lenL rfl ty_sl_54 ?_
                  refine S_m (v := .int _ _) rfl ?_
                  refine S_nil ?_
                  refine WP_block ?_
                  refine C_loop (σ := (List (Nat × Nat)) × Bool × Int) hF (fun (v : (List (Nat × Nat)) × Bool × Int) s' => match v with | (a141, a143, a144) => ∃ g142 : Nat, g142 ≠ 0 ∧ OK h [(g142, .room), (i124, .cells [.sl 1 (List.map c_cplx a141) g142, .bool a143]), (g82, .room)] ∧ WS s' ⟨mkSl 64 [(1, .cplx .f64 p1.1 p1.2), (2, .cplx .f64 p2.1 p2.2), (8, .sl 2 (List.map c_T_trace_Stroke a81) g82), (11, .ptr i124 0), (27, .sl 2 (List.map c_T_trace_Stroke p0) 0), (28, .int .i64 (p0.length : Int)), (29, .int .i64 a83), (37, .sl 1 (List.map c_cplx x122.Spots) 0), (38, .int .i64 (x122.Spots.length : Int)), (39, .int .i64 a144)], Hp h [(g142, .room), (i124, .cells [.sl 1 (List.map c_cplx a141) g142, .bool a143]), (g82, .room)]⟩) ?_ ?_
                  ·
                    have hwo : WO [(r125, .room), (i124, .cells [.sl 1 (List.map c_cplx ([] : List (Nat × Nat))) r125, .bool x122.Closed]), (i123, .cells [.sl 1 (List.map c_cplx x122.Spots) 0, .bool x122.Closed]), (g82, .room)] [(r125, .room), (i124, .cells [.sl 1 (List.map c_cplx ([] : List (Nat × Nat))) r125, .bool x122.Closed]), (g82, .room)] := (.keep (.keep (.drop (.keep .nil))))
                    exact ⟨r125, hr125, (hwo.spec ok).1, WS.mk' (.cons (.refl _) (.cons (.refl _) (.cons (.refl _) (.cons (.refl _) (.cons (.refl _) (.cons (.refl _) (.cons (.refl _) (.cons (.refl _) (.cons (.refl _) (.cons (.refl _) .nil)))))))))) ok hwo⟩
                  ·
                    rintro G145 hG146 rec147 ⟨a141, a143, a144⟩ s' ih148 hF ⟨g142, hg142, ok, hws⟩
                    refine WP_ws hws ?_
                    clear hws s'
                    rw [F_trace_Turn_l1] at hF
                    refine C_seq ?_
                    refine C_reg (mdl []) ?_
                    refine S_bin rfl rfl (ev_lss ..) ?_
                    refine S_nil ?_
                    refine C_seq ?_
                    refine C_if (b := (decide (a144 < (x122.Spots.length : Int)))) rfl hF (fun hb149 hF => ?_) (fun hb149 hF => ?_)
                    ·
                      refine WP_skip ?_
                      refine C_seq ?_
                      refine WP_block ?_
                      refine C_seq ?_
                      refine C_reg (mdl []) ?_
                      refine S_ix rfl rfl ty_sl_54 ty_sz_45 hF (fun x150 _ hF => ?_)
                      refine S_ldQ rfl (p_one ty_ag_45 ty_sz_45 rfl) ?_
                      refine S_a (v := .cplx _ _ _) rfl ?_
                      refine S_nil ?_
                      refine C_seq ?_
                      refine C_reg (mdl []) ?_
                      refine S_m (v := .cplx _ _ _) rfl ?_
                      refine S_m (v := .cplx _ _ _) rfl ?_
                      refine S_cmul (a := x150) (b := p1) rfl rfl hF (fun x151 _ hF => ?_)
                      refine S_m (v := .cplx _ _ _) rfl ?_
                      refine S_cadd (a := x151) (b := p2) rfl rfl hF (fun x152 _ hF => ?_)
                      refine S_a (v := .cplx _ _ _) rfl ?_
                      refine S_nil ?_
                      refine C_seq ?_
                      refine C_seq ?_
                      refine C_reg (mdl []) ?_
                      refine S_m (v := .cplx _ _ _) rfl ?_
                      refine S_call (F_trace_spot_ok _ hF fun x153 _ hF => ?_) (.cons (.refl _) (.nil))
                      refine S_un rfl (ev_not _) ?_
                      refine S_nil ?_
                      refine C_if (b := (!x153)) rfl hF (fun hb154 hF => ?_) (fun hb154 hF => ?_)
                      ·
                        refine C_seq ?_
                        refine C_reg (mdl []) ?_
                        refine S_a (v := .snil) rfl ?_
                        refine S_one 6 (v := .sl 2 (List.map c_T_trace_Stroke ([] : List T_trace_Stroke)) 0) (.nil _) ?_
                        refine S_a (v := .int _ _) rfl ?_
                        refine S_nil ?_
                        refine WP_ret ?_
                        replace hF := hG146 _ (F_some hF)
                        replace hF := hG85 _ (F_some hF)
                        repeat (first | with_reducible refine Exit.sel_ret ?_ | with_reducible refine Exit.blk_ret ?_ | with_reducible refine Exit.jmp_ret ?_)
                        refine C_ret (fn := Tryd.f24) rfl (.tmp (v := .sl 2 (List.map c_T_trace_Stroke ([] : List T_trace_Stroke)) 0) rfl (.tmp (v := .int .i64 (5 : Int)) rfl .nil)) ?_
                        exact ⟨_, _, (.tupC (.cons (.refl _) (.cons (.refl _) (.nil)))), ok.wh, _, F_some hF, rfl, rfl⟩
                      ·
                        refine WP_skip ?_
                        refine C_reg (mdl [(55, 2)]) ?_
                        refine S_faP rfl ty_fd_56_0 ty_sz_54 ?_
                        refine S_ldP (j := 1) ok rfl rfl rfl hi124 (p_one (v := .sl 1 (List.map c_cplx a141) g142) ty_ag_54 ty_sz_54 rfl) ?_
                        refine S_m (v := .cplx _ _ _) rfl ?_
                        refine S_lit0 (cs := [.cplx .f64 x152.1 x152.2]) (es := (List.map c_cplx [x152])) rfl ty_el_54 rfl (by kernel_rfl) (by kernel_rfl) ?_
                        refine S_app (j := 0) ok rfl rfl rfl rfl hg142 ty_el_54 ty_ni_54 hF ?_
                        intro r155 hr155 ok hF
                        refine S_faP rfl ty_fd_56_0 ty_sz_54 ?_
                        refine S_st (j := 1) (cs' := [.sl 1 (List.map c_cplx (a141 ++ [x152])) r155, .bool a143]) ok rfl rfl rfl hi124 rfl ty_sz_54 rfl rfl (fun ok => ?_)
                        refine S_nil ?_
                        refine C_reg (mdl []) ?_
                        refine S_bin rfl rfl (ev_add ..) ?_
                        refine S_m (v := .int _ _) rfl ?_
                        refine S_nil ?_
                        refine ih148 ((a141 ++ [x152]), a143, (IntKind.wrap .i64 (a144 + (1 : Int)))) _ hF ?_
                        have hwo : WO [(r155, .room), (i124, .cells [.sl 1 (List.map c_cplx (a141 ++ [x152])) r155, .bool a143]), (g82, .room)] [(r155, .room), (i124, .cells [.sl 1 (List.map c_cplx (a141 ++ [x152])) r155, .bool a143]), (g82, .room)] := (.keep (.keep (.keep .nil)))
                        exact ⟨r155, hr155, (hwo.spec ok).1, WS.mk' (.cons (.refl _) (.cons (.refl _) (.cons (.refl _) (.cons (.refl _) (.cons (.refl _) (.cons (.refl _) (.cons (.refl _) (.cons (.refl _) (.cons (.refl _) (.cons (.refl _) .nil)))))))))) ok hwo⟩
                    ·
                      refine WP_exit ?_
                      simp only [Exit.sel, Exit.blk, Exit.jmp, if_true, if_false, reduceIte, Nat.reduceEqDiff, Nat.succ_ne_zero, Nat.zero_ne_one, Nat.one_ne_zero]
                      replace hF := hG146 _ (F_some hF)
                      have hwo : WO [(g142, .room), (i124, .cells [.sl 1 (List.map c_cplx a141) g142, .bool a143]), (g82, .room)] [(g142, .room), (i124, .cells [.sl 1 (List.map c_cplx a141) g142, .bool a143]), (g82, .room)] := (.keep (.keep (.keep .nil)))
                      exact ⟨(a141, a143), hF, g142, hg142, (hwo.spec ok).1, WS.mk' (.cons (.refl _) (.cons (.refl _) (.cons (.refl _) (.cons (.refl _) (.cons (.refl _) (.cons (.refl _) (.cons (.refl _) .nil))))))) ok hwo⟩
                ·
                  rintro ⟨a137, a139⟩ s' hF ⟨g138, hg138, ok, hws⟩
                  refine WP_ws hws ?_
                  clear hws s'
                  refine C_reg (mdl [(61, 2)]) ?_
                  refine S_m (v := .sl _ _ _) rfl ?_
                  refine S_ldP (j := 1) ok rfl rfl rfl hi124 (p_agg (vs := [.sl 1 (List.map c_cplx a137) g138, .bool a139]) ty_ag_56 ty_sz_56 rfl rfl) ?_
                  refine S_one 59 (v := .agg (c_T_trace_Stroke (⟨a137, a139⟩ : T_trace_Stroke))) (.aggC (.cons (.zero _ _ _) (.cons (.refl _) (.nil)))) ?_
                  refine S_lit0 (cs := [.sl 1 (List.map c_cplx (⟨a137, a139⟩ : T_trace_Stroke).Spots) 0, .bool (⟨a137, a139⟩ : T_trace_Stroke).Closed]) (es := (List.map c_T_trace_Stroke [(⟨a137, a139⟩ : T_trace_Stroke)])) rfl ty_el_23 rfl (by kernel_rfl) (by kernel_rfl) ?_
                  refine S_app (j := 2) ok rfl rfl rfl rfl hg82 ty_el_23 ty_ni_23 hF ?_
                  intro r156 hr156 ok hF
                  refine S_a (v := .sl _ _ _) rfl ?_
                  refine S_nil ?_
                  have hwo : WO [(g138, .room), (i124, .cells [.sl 1 (List.map c_cplx a137) g138, .bool a139]), (r156, .room)] [(r156, .room)] := (.drop (.drop (.keep .nil)))
                  exact ⟨(a81 ++ [(⟨a137, a139⟩ : T_trace_Stroke)]), hF, r156, hr156, (hwo.spec ok).1, WS.mk' (.cons (.refl _) (.cons (.refl _) (.cons (.refl _) (.cons (.refl _) (.cons (.refl _) (.cons (.refl _) .nil)))))) ok hwo⟩
              ·
                rintro a119 s' hF ⟨g120, hg120, ok, hws⟩
                refine WP_ws hws ?_
                clear hws s'
                refine C_reg (mdl []) ?_
                refine S_bin rfl rfl (ev_add ..) ?_
                refine S_m (v := .int _ _) rfl ?_
                refine S_nil ?_
                refine ih87 (a119, (IntKind.wrap .i64 (a83 + (1 : Int)))) _ hF ?_
                have hwo : WO [(g120, .room)] [(g120, .room)] := (.keep .nil)
                exact ⟨g120, hg120, (hwo.spec ok).1, WS.mk' (.cons (.refl _) (.cons (.refl _) (.cons (.refl _) (.cons (.refl _) (.cons (.refl _) (.cons (.refl _) .nil)))))) ok hwo⟩
            ·
              refine WP_exit ?_
              simp only [Exit.sel, Exit.blk, Exit.jmp, if_true, if_false, reduceIte, Nat.reduceEqDiff, Nat.succ_ne_zero, Nat.zero_ne_one, Nat.one_ne_zero]
              replace hF := hG85 _ (F_some hF)
              have hwo : WO [(g82, .room)] [(g82, .room)] := (.keep .nil)
              exact ⟨a81, hF, g82, hg82, (hwo.spec ok).1, WS.mk' (.cons (.refl _) .nil) ok hwo⟩
        ·
          rintro a78 s' hF ⟨g79, hg79, ok, hws⟩
          refine WP_ws hws ?_
          clear hws s'
          refine C_seq ?_
          refine C_reg (mdl []) ?_
          refine S_m (v := .sl _ _ _) rfl ?_
          refine S_one 63 (v := .sl 2 (List.map c_T_trace_Stroke a78) 0) (.zero _ _ _) ?_
          refine S_a (v := .sl _ _ _) rfl ?_
          refine S_a (v := .int _ _) rfl ?_
          refine S_nil ?_
          refine WP_ret ?_
          repeat (first | with_reducible refine Exit.sel_ret ?_ | with_reducible refine Exit.blk_ret ?_ | with_reducible refine Exit.jmp_ret ?_)
          refine C_ret (fn := Tryd.f24) rfl (.tmp (v := .sl 2 (List.map c_T_trace_Stroke a78) 0) rfl (.tmp (v := .int .i64 (0 : Int)) rfl .nil)) ?_
          exact ⟨_, _, (.tupC (.cons (.refl _) (.cons (.refl _) (.nil)))), ok.wh, _, F_some hF, rfl, rfl⟩
theorem F_trace_Turn_ok {β : Type} {f : (List T_trace_Stroke) × Int → Option β} {G : β → Prop} {R : D → Heap → Prop} {p0 : List T_trace_Stroke} {p1 : Nat × Nat} {p2 : Nat × Nat} (h : Heap) (hF : OptP ((F_trace_Turn p0 p1 p2).bind f) G) (hk : ∀ r, F_trace_Turn p0 p1 p2 = some r → OptP (f r) G → R (.tup [.sl 2 (List.map c_T_trace_Stroke r.1) 0, .int .i64 r.2]) h) : CallsA Tryd.prog 24 [.sl 2 (List.map c_T_trace_Stroke p0) 0, .cplx .f64 p1.1 p1.2, .cplx .f64 p2.1 p2.2] h R := by
  obtain ⟨r0, hr, hF⟩ := F_bind hF
  refine (F_trace_Turn_w (G := fun r => r = r0) p0 p1 p2 h ⟨r0, hr, rfl⟩).mono ?_
  rintro _ _ ⟨r, rfl, rfl, rfl⟩
  exact hk _ hr hF
theorem F_trace_Box_w (p0 : List T_trace_Stroke) {G : (Nat × Nat) × (Nat × Nat) × Int → Prop} (h : Heap) (hF : OptP (F_trace_Box p0) G) : CallsA Tryd.prog 26 [.sl 2 (List.map c_T_trace_Stroke p0) 0] h fun d h' => ∃ r, G r ∧ d = .tup [.cplx .f64 r.1.1 r.1.2, .cplx .f64 r.2.1.1 r.2.1.2, .int .i64 r.2.2] ∧ h' = h := by
  refine CallsA.ret ?_
  refine C_body Tryd.func26 rfl en_26 Tryd.ntmps26 rfl (fun ok => ?_)
  rw [F_trace_Box] at hF
  refine C_seq ?_
  refine C_reg (mdl []) ?_
  refine S_a (v := .cplx _ _ _) rfl ?_
  refine S_a (v := .cplx _ _ _) rfl ?_
  refine S_a (v := .int _ _) rfl ?_
  refine S_nil ?_
  refine C_seq ?_
  refine WP_block ?_
  refine C_seq ?_
  refine C_reg (mdl []) ?_
  refine S_m (v := .sl _ _ _) rfl ?_
  refine S_call (F_trace_right_ok _ hF fun x1 _ hF => ?_) (.cons (.refl _) (.nil))
  refine S_un rfl (ev_not _) ?_
  refine S_a (v := .bool _) rfl ?_
  refine S_nil ?_
  refine C_if (b := (!x1)) rfl hF (fun hb2 hF => ?_) (fun hb2 hF => ?_)
  ·
    refine C_seq ?_
    refine C_reg (mdl []) ?_
    refine S_a (v := .cplx _ _ _) rfl ?_
    refine S_a (v := .cplx _ _ _) rfl ?_
    refine S_a (v := .int _ _) rfl ?_
    refine S_nil ?_
    refine WP_ret ?_
    repeat (first | with_reducible refine Exit.sel_ret ?_ | with_reducible refine Exit.blk_ret ?_ | with_reducible refine Exit.jmp_ret ?_)
    refine C_ret (fn := Tryd.f26) rfl (.tmp (v := .cplx .f64 ((0, 0) : Nat × Nat).1 ((0, 0) : Nat × Nat).2) rfl (.tmp (v := .cplx .f64 ((0, 0) : Nat × Nat).1 ((0, 0) : Nat × Nat).2) rfl (.tmp (v := .int .i64 (1 : Int)) rfl .nil))) ?_
    exact ⟨_, _, (.tupC (.cons (.refl _) (.cons (.refl _) (.cons (.refl _) (.nil))))), ok.wh, _, F_some hF, rfl, rfl⟩
  ·
    refine C_seq ?_
    refine C_reg (mdl []) ?_
    refine S_m (v := .sl _ _ _) rfl ?_
    refine S_lenL rfl ty_sl_23 ?_
    refine S_bin rfl rfl (ev_eql ..) ?_
    refine S_a (v := .bool _) rfl ?_
    refine S_nil ?_
    refine C_if (b := ((p0.length : Int) == (0 : Int))) rfl hF (fun hb3 hF => ?_) (fun hb3 hF => ?_)
    ·
      refine C_seq ?_
      refine C_reg (mdl []) ?_
      refine S_a (v := .cplx _ _ _) rfl ?_
      refine S_a (v := .cplx _ _ _) rfl ?_
      refine S_a (v := .int _ _) rfl ?_
      refine S_nil ?_
      refine WP_ret ?_
      repeat (first | with_reducible refine Exit.sel_ret ?_ | with_reducible refine Exit.blk_ret ?_ | with_reducible refine Exit.jmp_ret ?_)
      refine C_ret (fn := Tryd.f26) rfl (.tmp (v := .cplx .f64 ((0, 0) : Nat × Nat).1 ((0, 0) : Nat × Nat).2) rfl (.tmp (v := .cplx .f64 ((0, 0) : Nat × Nat).1 ((0, 0) : Nat × Nat).2) rfl (.tmp (v := .int .i64 (7 : Int)) rfl .nil))) ?_
      exact ⟨_, _, (.tupC (.cons (.refl _) (.cons (.refl _) (.cons (.refl _) (.nil))))), ok.wh, _, F_some hF, rfl, rfl⟩
    ·
      refine WP_skip ?_
      refine C_seq ?_
      refine C_reg (mdl []) ?_
      refine S_m (v := .sl _ _ _) rfl ?_
      refine S_ix rfl rfl ty_sl_23 ty_sz_56 hF (fun x4 _ hF => ?_)
      refine S_faQ rfl ty_fd_56_0 ty_sz_54 rfl ?_
      refine S_ldQ rfl (p_one ty_ag_54 ty_sz_54 rfl) ?_
      refine S_ix rfl rfl ty_sl_54 ty_sz_45 hF (fun x5 _ hF => ?_)
      refine S_ldQ rfl (p_one ty_ag_45 ty_sz_45 rfl) ?_
      refine S_a (v := .cplx _ _ _) rfl ?_
      refine S_nil ?_
      refine C_seq ?_
      refine C_reg (mdl []) ?_
      refine S_m (v := .cplx _ _ _) rfl ?_
      refine S_a (v := .cplx _ _ _) rfl ?_
      refine S_nil ?_
      refine C_join hF (fun (v : (Nat × Nat) × (Nat × Nat)) s' => match v with | (a34, a35) => OK h [] ∧ WS s' ⟨mkSl 63 [(2, .cplx .f64 a34.1 a34.2), (3, .cplx .f64 a35.1 a35.2)], Hp h []⟩) (fun J36 hF => ?_) ?_
      ·
        refine C_seq ?_
        refine C_reg (mdl []) ?_
        refine S_m (v := .sl _ _ _) rfl ?_
        refine S_lenL rfl ty_sl_23 ?_
        refine S_m (v := .int _ _) rfl ?_
        refine S_nil ?_
        refine WP_block ?_
        refine C_loop (σ := (Nat × Nat) × (Nat × Nat) × Int) hF (fun (v : (Nat × Nat) × (Nat × Nat) × Int) s' => match v with | (a37, a38, a39) => OK h [] ∧ WS s' ⟨mkSl 63 [(2, .cplx .f64 a37.1 a37.2), (3, .cplx .f64 a38.1 a38.2), (24, .sl 2 (List.map c_T_trace_Stroke p0) 0), (25, .int .i64 (p0.length : Int)), (26, .int .i64 a39)], Hp h []⟩) ?_ ?_
        ·
          have hwo : WO [] [] := .nil
          exact ⟨(hwo.spec ok).1, WS.mk' (.cons (.refl _) (.cons (.refl _) (.cons (.refl _) (.cons (.refl _) (.cons (.refl _) .nil))))) ok hwo⟩
        ·
          rintro G40 hG41 rec42 ⟨a37, a38, a39⟩ s' ih43 hF ⟨ok, hws⟩
          refine WP_ws hws ?_
          clear hws s'
          rw [F_trace_Box_l0] at hF
          refine C_seq ?_
          refine C_reg (mdl []) ?_
          refine S_bin rfl rfl (ev_lss ..) ?_
          refine S_nil ?_
          refine C_seq ?_
          refine C_if (b := (decide (a39 < (p0.length : Int)))) rfl hF (fun hb44 hF => ?_) (fun hb44 hF => ?_)
          ·
            refine WP_skip ?_
            refine C_join hF (fun (v : (Nat × Nat) × (Nat × Nat)) s' => match v with | (a56, a57) => OK h [] ∧ WS s' ⟨mkSl 63 [(2, .cplx .f64 a56.1 a56.2), (3, .cplx .f64 a57.1 a57.2), (24, .sl 2 (List.map c_T_trace_Stroke p0) 0), (25, .int .i64 (p0.length : Int)), (26, .int .i64 a39)], Hp h []⟩) (fun J58 hF => ?_) ?_
            ·
              refine WP_block ?_
              refine C_seq ?_
              refine C_reg (mdl [(6, 1)]) ?_
              refine S_ix rfl rfl ty_sl_23 ty_sz_56 hF (fun x59 _ hF => ?_)
              refine S_ldQ rfl (p_agg (vs := c_T_trace_Stroke x59) ty_ag_56 ty_sz_56 rfl rfl) ?_
              refine S_all1 ok rfl ty_zc_56 ?_
              intro i60 hi60 ok
              refine S_st (j := 0) (cs' := [.sl 1 (List.map c_cplx x59.Spots) 0, .bool x59.Closed]) ok rfl rfl rfl hi60 rfl ty_sz_56 rfl rfl (fun ok => ?_)
              refine S_nil ?_
              refine C_seq ?_
              refine C_reg (mdl []) ?_
              refine S_faP rfl ty_fd_56_0 ty_sz_54 ?_
              refine S_ldP (j := 0) ok rfl rfl rfl hi60 (p_one (v := .sl 1 (List.map c_cplx x59.Spots) 0) ty_ag_54 ty_sz_54 rfl) ?_
              refine S_lenL rfl ty_sl_54 ?_
              refine S_m (v := .int _ _) rfl ?_
              refine S_nil ?_
              refine WP_block ?_
              refine C_loop (σ := (Nat × Nat) × (Nat × Nat) × Int) hF (fun (v : (Nat × Nat) × (Nat × Nat) × Int) s' => match v with | (a61, a62, a63) => OK h [] ∧ WS s' ⟨mkSl 63 [(2, .cplx .f64 a61.1 a61.2), (3, .cplx .f64 a62.1 a62.2), (24, .sl 2 (List.map c_T_trace_Stroke p0) 0), (25, .int .i64 (p0.length : Int)), (26, .int .i64 a39), (31, .sl 1 (List.map c_cplx x59.Spots) 0), (32, .int .i64 (x59.Spots.length : Int)), (33, .int .i64 a63)], Hp h []⟩) ?_ ?_
              ·
                have hwo : WO [(i60, .cells [.sl 1 (List.map c_cplx x59.Spots) 0, .bool x59.Closed])] [] := (.drop .nil)
                exact ⟨(hwo.spec ok).1, WS.mk' (.cons (.refl _) (.cons (.refl _) (.cons (.refl _) (.cons (.refl _) (.cons (.refl _) (.cons (.refl _) (.cons (.refl _) (.cons (.refl _) .nil)))))))) ok hwo⟩
              ·
                rintro G64 hG65 rec66 ⟨a61, a62, a63⟩ s' ih67 hF ⟨ok, hws⟩
                refine WP_ws hws ?_
                clear hws s'
                rw [F_trace_Box_l1] at hF
                refine C_seq ?_
                refine C_reg (mdl []) ?_
                refine S_bin rfl rfl (ev_lss ..) ?_
                refine S_nil ?_
                refine C_seq ?_
                refine C_if (b := (decide (a63 < (x59.Spots.length : Int)))) rfl hF (fun hb68 hF => ?_) (fun hb68 hF => ?_)
                ·
                  refine WP_skip ?_
                  refine C_seq ?_
                  refine WP_block ?_
                  refine C_seq ?_
                  refine C_reg (mdl []) ?_
                  refine S_ix rfl rfl ty_sl_54 ty_sz_45 hF (fun x69 _ hF => ?_)
                  refine S_ldQ rfl (p_one ty_ag_45 ty_sz_45 rfl) ?_
                  refine S_a (v := .cplx _ _ _) rfl ?_
                  refine S_nil ?_
                  refine C_seq ?_
                  refine C_reg (mdl []) ?_
                  refine S_m (v := .cplx _ _ _) rfl ?_
                  refine S_real (a := a61) rfl ?_
                  refine S_m (v := .cplx _ _ _) rfl ?_
                  refine S_real (a := x69) rfl ?_
                  refine S_fmin (a := a61.1) (b := x69.1) rfl rfl hF (fun x70 _ hF => ?_)
                  refine S_m (v := .cplx _ _ _) rfl ?_
                  refine S_imag (a := a61) rfl ?_
                  refine S_m (v := .cplx _ _ _) rfl ?_
                  refine S_imag (a := x69) rfl ?_
                  refine S_fmin (a := a61.2) (b := x69.2) rfl rfl hF (fun x71 _ hF => ?_)
                  refine S_cplx (a := x70) (b := x71) rfl rfl ?_
                  refine S_a (v := .cplx _ _ _) rfl ?_
                  refine S_nil ?_
                  refine C_reg (mdl []) ?_
                  refine S_m (v := .cplx _ _ _) rfl ?_
                  refine S_real (a := a62) rfl ?_
                  refine S_m (v := .cplx _ _ _) rfl ?_
                  refine S_real (a := x69) rfl ?_
                  refine S_fmax (a := a62.1) (b := x69.1) rfl rfl hF (fun x72 _ hF => ?_)
                  refine S_m (v := .cplx _ _ _) rfl ?_
                  refine S_imag (a := a62) rfl ?_
                  refine S_m (v := .cplx _ _ _) rfl ?_
                  refine S_imag (a := x69) rfl ?_
                  refine S_fmax (a := a62.2) (b := x69.2) rfl rfl hF (fun x73 _ hF => ?_)
                  refine S_cplx (a := x72) (b := x73) rfl rfl ?_
                  refine S_a (v := .cplx _ _ _) rfl ?_
                  refine S_nil ?_
                  refine C_reg (mdl []) ?_
                  refine S_bin rfl rfl (ev_add ..) ?_
                  refine S_m (v := .int _ _) rfl ?_
                  refine S_nil ?_
                  refine ih67 (((x70, x71) : Nat × Nat), ((x72, x73) : Nat × Nat), (IntKind.wrap .i64 (a63 + (1 : Int)))) _ hF ?_
                  have hwo : WO [] [] := .nil
                  exact ⟨(hwo.spec ok).1, WS.mk' (.cons (.refl _) (.cons (.refl _) (.cons (.refl _) (.cons (.refl _) (.cons (.refl _) (.cons (.refl _) (.cons (.refl _) (.cons (.refl _) .nil)))))))) ok hwo⟩
                ·
                  refine WP_exit ?_
                  simp only [Exit.sel, Exit.blk, Exit.jmp, if_true, if_false, reduceIte, Nat.reduceEqDiff, Nat.succ_ne_zero, Nat.zero_ne_one, Nat.one_ne_zero]
                  replace hF := hG65 _ (F_some hF)
                  have hwo : WO [] [] := .nil
                  exact ⟨(a61, a62), hF, (hwo.spec ok).1, WS.mk' (.cons (.refl _) (.cons (.refl _) (.cons (.refl _) (.cons (.refl _) (.cons (.refl _) .nil))))) ok hwo⟩
            ·
              rintro ⟨a56, a57⟩ s' hF ⟨ok, hws⟩
              refine WP_ws hws ?_
              clear hws s'
              refine C_reg (mdl []) ?_
              refine S_bin rfl rfl (ev_add ..) ?_
              refine S_m (v := .int _ _) rfl ?_
              refine S_nil ?_
              refine ih43 (a56, a57, (IntKind.wrap .i64 (a39 + (1 : Int)))) _ hF ?_
              have hwo : WO [] [] := .nil
              exact ⟨(hwo.spec ok).1, WS.mk' (.cons (.refl _) (.cons (.refl _) (.cons (.refl _) (.cons (.refl _) (.cons (.refl _) .nil))))) ok hwo⟩
          ·
            refine WP_exit ?_
            simp only [Exit.sel, Exit.blk, Exit.jmp, if_true, if_false, reduceIte, Nat.reduceEqDiff, Nat.succ_ne_zero, Nat.zero_ne_one, Nat.one_ne_zero]
            replace hF := hG41 _ (F_some hF)
            have hwo : WO [] [] := .nil
            exact ⟨(a37, a38), hF, (hwo.spec ok).1, WS.mk' (.cons (.refl _) (.cons (.refl _) .nil)) ok hwo⟩
      ·
        rintro ⟨a34, a35⟩ s' hF ⟨ok, hws⟩
        refine WP_ws hws ?_
        clear hws s'
        refine C_seq ?_
        refine C_reg (mdl []) ?_
        refine S_m (v := .cplx _ _ _) rfl ?_
        refine S_m (v := .cplx _ _ _) rfl ?_
        refine S_a (v := .cplx _ _ _) rfl ?_
        refine S_a (v := .cplx _ _ _) rfl ?_
        refine S_a (v := .int _ _) rfl ?_
        refine S_nil ?_
        refine WP_ret ?_
        repeat (first | with_reducible refine Exit.sel_ret ?_ | with_reducible refine Exit.blk_ret ?_ | with_reducible refine Exit.jmp_ret ?_)
        refine C_ret (fn := Tryd.f26) rfl (.tmp (v := .cplx .f64 a34.1 a34.2) rfl (.tmp (v := .cplx .f64 a35.1 a35.2) rfl (.tmp (v := .int .i64 (0 : Int)) rfl .nil))) ?_
        exact ⟨_, _, (.tupC (.cons (.refl _) (.cons (.refl _) (.cons (.refl _) (.nil))))), ok.wh, _, F_some hF, rfl, rfl⟩
theorem F_trace_Box_ok {β : Type} {f : (Nat × Nat) × (Nat × Nat) × Int → Option β} {G : β → Prop} {R : D → Heap → Prop} {p0 : List T_trace_Stroke} (h : Heap) (hF : OptP ((F_trace_Box p0).bind f) G) (hk : ∀ r, F_trace_Box p0 = some r → OptP (f r) G → R (.tup [.cplx .f64 r.1.1 r.1.2, .cplx .f64 r.2.1.1 r.2.1.2, .int .i64 r.2.2]) h) : CallsA Tryd.prog 26 [.sl 2 (List.map c_T_trace_Stroke p0) 0] h R := by
  obtain ⟨r0, hr, hF⟩ := F_bind hF
  refine (F_trace_Box_w (G := fun r => r = r0) p0 h ⟨r0, hr, rfl⟩).mono ?_
  rintro _ _ ⟨r, rfl, rfl, rfl⟩
  exact hk _ hr hF
theorem F_lecternlaw10_boxed_w (p0 : List T_lecternref10_Stroke) (p1 : Nat × Nat) (p2 : Nat × Nat) {G : Bool → Prop} (h : Heap) (hF : OptP (F_lecternlaw10_boxed p0 p1 p2) G) : CallsA Tryd.prog 27 [.sl 2 (List.map c_T_lecternref10_Stroke p0) 0, .cplx .f64 p1.1 p1.2, .cplx .f64 p2.1 p2.2] h fun d h' => ∃ r, G r ∧ d = .bool r ∧ h' = h := by
  refine CallsA.ret ?_
  refine C_body Tryd.func27 rfl en_27 Tryd.ntmps27 rfl (fun ok => ?_)
  rw [F_lecternlaw10_boxed] at hF
  refine C_seq ?_
  refine C_reg (mdl []) ?_
  refine S_a (v := .bool _) rfl ?_
  refine S_nil ?_
  refine C_seq ?_
  refine C_reg (mdl [(7, 1)]) ?_
  refine S_m (v := .cplx _ _ _) rfl ?_
  refine S_call (F_lecternref10_From_ok _ hF fun x1 _ hF => ?_) (.cons (.refl _) (.nil))
  refine S_m (v := .tup _) rfl ?_
  refine S_ext rfl rfl ?_
  refine S_ext rfl rfl ?_
  refine S_all1 ok rfl ty_zc_52 ?_
  intro i2 hi2 ok
  refine S_st (j := 0) (cs' := [.int .i64 x1.1.X, .int .i64 x1.1.Y]) ok rfl rfl rfl hi2 rfl ty_sz_52 rfl rfl (fun ok => ?_)
  refine S_a (v := .bool _) rfl ?_
  refine S_nil ?_
  refine C_seq ?_
  refine C_reg (mdl [(9, 1)]) ?_
  refine S_m (v := .cplx _ _ _) rfl ?_
  refine S_call (F_lecternref10_From_ok _ hF fun x3 _ hF => ?_) (.cons (.refl _) (.nil))
  refine S_m (v := .tup _) rfl ?_
  refine S_ext rfl rfl ?_
  refine S_ext rfl rfl ?_
  refine S_all1 ok rfl ty_zc_52 ?_
  intro i4 hi4 ok
  refine S_st (j := 0) (cs' := [.int .i64 x3.1.X, .int .i64 x3.1.Y]) ok rfl rfl rfl hi4 rfl ty_sz_52 rfl rfl (fun ok => ?_)
  refine S_a (v := .bool _) rfl ?_
  refine S_nil ?_
  refine C_seq ?_
  refine C_reg (mdl [(11, 1)]) ?_
  refine S_all1 ok rfl ty_zc_94 ?_
  intro i5 hi5 ok
  refine S_nil ?_
  refine C_join hF (fun (v : Bool × Bool × Bool × Bool) s' => match v with | (a52, a53, a54, a55) => OK h [(i5, .cells [.bool a52, .bool a53, .bool a54, .bool a55])] ∧ WS s' ⟨mkSl 127 [(8, .bool x1.2), (10, .bool x3.2), (11, .ptr i5 0)], Hp h [(i5, .cells [.bool a52, .bool a53, .bool a54, .bool a55])]⟩) (fun J56 hF => ?_) ?_
  ·
    refine C_seq ?_
    refine C_reg (mdl []) ?_
    refine S_m (v := .sl _ _ _) rfl ?_
    refine S_lenL rfl ty_sl_27 ?_
    refine S_m (v := .int _ _) rfl ?_
    refine S_nil ?_
    refine WP_block ?_
    refine C_loop (σ := Bool × Bool × Bool × Bool × Int) hF (fun (v : Bool × Bool × Bool × Bool × Int) s' => match v with | (a57, a58, a59, a60, a61) => OK h [(i5, .cells [.bool a57, .bool a58, .bool a59, .bool a60]), (i4, .cells [.int .i64 x3.1.X, .int .i64 x3.1.Y]), (i2, .cells [.int .i64 x1.1.X, .int .i64 x1.1.Y])] ∧ WS s' ⟨mkSl 127 [(7, .ptr i2 0), (8, .bool x1.2), (9, .ptr i4 0), (10, .bool x3.2), (11, .ptr i5 0), (26, .sl 2 (List.map c_T_lecternref10_Stroke p0) 0), (27, .int .i64 (p0.length : Int)), (28, .int .i64 a61)], Hp h [(i5, .cells [.bool a57, .bool a58, .bool a59, .bool a60]), (i4, .cells [.int .i64 x3.1.X, .int .i64 x3.1.Y]), (i2, .cells [.int .i64 x1.1.X, .int .i64 x1.1.Y])]⟩) ?_ ?_
    ·
      have hwo : WO [(i5, .cells [.bool false, .bool false, .bool false, .bool false]), (i4, .cells [.int .i64 x3.1.X, .int .i64 x3.1.Y]), (i2, .cells [.int .i64 x1.1.X, .int .i64 x1.1.Y])] [(i5, .cells [.bool false, .bool false, .bool false, .bool false]), (i4, .cells [.int .i64 x3.1.X, .int .i64 x3.1.Y]), (i2, .cells [.int .i64 x1.1.X, .int .i64 x1.1.Y])] := (.keep (.keep (.keep .nil)))
      exact ⟨(hwo.spec ok).1, WS.mk' (.cons (.refl _) (.cons (.refl _) (.cons (.refl _) (.cons (.refl _) (.cons (.refl _) (.cons (.refl _) (.cons (.refl _) (.cons (.refl _) .nil)))))))) ok hwo⟩
    ·
      rintro G62 hG63 rec64 ⟨a57, a58, a59, a60, a61⟩ s' ih65 hF ⟨ok, hws⟩
      refine WP_ws hws ?_
      clear hws s'
      rw [F_lecternlaw10_boxed_l0] at hF
      refine C_seq ?_
      refine C_reg (mdl []) ?_
      refine S_bin rfl rfl (ev_lss ..) ?_
      refine S_nil ?_
      refine C_seq ?_
      refine C_if (b := (decide (a61 < (p0.length : Int)))) rfl hF (fun hb66 hF => ?_) (fun hb66 hF => ?_)
      ·
        refine WP_skip ?_
        refine C_join hF (fun (v : Bool × Bool × Bool × Bool) s' => match v with | (a85, a86, a87, a88) => OK h [(i5, .cells [.bool a85, .bool a86, .bool a87, .bool a88]), (i4, .cells [.int .i64 x3.1.X, .int .i64 x3.1.Y]), (i2, .cells [.int .i64 x1.1.X, .int .i64 x1.1.Y])] ∧ WS s' ⟨mkSl 127 [(7, .ptr i2 0), (8, .bool x1.2), (9, .ptr i4 0), (10, .bool x3.2), (11, .ptr i5 0), (26, .sl 2 (List.map c_T_lecternref10_Stroke p0) 0), (27, .int .i64 (p0.length : Int)), (28, .int .i64 a61)], Hp h [(i5, .cells [.bool a85, .bool a86, .bool a87, .bool a88]), (i4, .cells [.int .i64 x3.1.X, .int .i64 x3.1.Y]), (i2, .cells [.int .i64 x1.1.X, .int .i64 x1.1.Y])]⟩) (fun J89 hF => ?_) ?_
        ·
          refine WP_block ?_
          refine C_seq ?_
          refine C_reg (mdl [(13, 1)]) ?_
          refine S_ix rfl rfl ty_sl_27 ty_sz_80 hF (fun x90 _ hF => ?_)
          refine S_ldQ rfl (p_agg (vs := c_T_lecternref10_Stroke x90) ty_ag_80 ty_sz_80 rfl rfl) ?_
          refine S_all1 ok rfl ty_zc_80 ?_
          intro i91 hi91 ok
          refine S_st (j := 0) (cs' := [.sl 2 (List.map c_T_lecternref10_Spot x90.Spots) 0, .bool x90.Closed]) ok rfl rfl rfl hi91 rfl ty_sz_80 rfl rfl (fun ok => ?_)
          refine S_nil ?_
          refine C_seq ?_
          refine C_reg (mdl []) ?_
          refine S_faP rfl ty_fd_80_0 ty_sz_78 ?_
          refine S_ldP (j := 0) ok rfl rfl rfl hi91 (p_one (v := .sl 2 (List.map c_T_lecternref10_Spot x90.Spots) 0) ty_ag_78 ty_sz_78 rfl) ?_
          refine S_lenL rfl ty_sl_78 ?_
          refine S_m (v := .int _ _) rfl ?_
          refine S_nil ?_
          refine WP_block ?_
          refine C_loop (σ := Bool × Bool × Bool × Bool × Int) hF (fun (v : Bool × Bool × Bool × Bool × Int) s' => match v with | (a92, a93, a94, a95, a96) => OK h [(i5, .cells [.bool a92, .bool a93, .bool a94, .bool a95]), (i4, .cells [.int .i64 x3.1.X, .int .i64 x3.1.Y]), (i2, .cells [.int .i64 x1.1.X, .int .i64 x1.1.Y])] ∧ WS s' ⟨mkSl 127 [(7, .ptr i2 0), (8, .bool x1.2), (9, .ptr i4 0), (10, .bool x3.2), (11, .ptr i5 0), (26, .sl 2 (List.map c_T_lecternref10_Stroke p0) 0), (27, .int .i64 (p0.length : Int)), (28, .int .i64 a61), (33, .sl 2 (List.map c_T_lecternref10_Spot x90.Spots) 0), (34, .int .i64 (x90.Spots.length : Int)), (35, .int .i64 a96)], Hp h [(i5, .cells [.bool a92, .bool a93, .bool a94, .bool a95]), (i4, .cells [.int .i64 x3.1.X, .int .i64 x3.1.Y]), (i2, .cells [.int .i64 x1.1.X, .int .i64 x1.1.Y])]⟩) ?_ ?_
          ·
            have hwo : WO [(i91, .cells [.sl 2 (List.map c_T_lecternref10_Spot x90.Spots) 0, .bool x90.Closed]), (i5, .cells [.bool a57, .bool a58, .bool a59, .bool a60]), (i4, .cells [.int .i64 x3.1.X, .int .i64 x3.1.Y]), (i2, .cells [.int .i64 x1.1.X, .int .i64 x1.1.Y])] [(i5, .cells [.bool a57, .bool a58, .bool a59, .bool a60]), (i4, .cells [.int .i64 x3.1.X, .int .i64 x3.1.Y]), (i2, .cells [.int .i64 x1.1.X, .int .i64 x1.1.Y])] := (.drop (.keep (.keep (.keep .nil))))
            exact ⟨(hwo.spec ok).1, WS.mk' (.cons (.refl _) (.cons (.refl _) (.cons (.refl _) (.cons (.refl _) (.cons (.refl _) (.cons (.refl _) (.cons (.refl _) (.cons (.refl _) (.cons (.refl _) (.cons (.refl _) (.cons (.refl _) .nil))))))))))) ok hwo⟩
          ·
            rintro G97 hG98 rec99 ⟨a92, a93, a94, a95, a96⟩ s' ih100 hF ⟨ok, hws⟩
            refine WP_ws hws ?_
            clear hws s'
            rw [F_lecternlaw10_boxed_l1] at hF
            refine C_seq ?_
            refine C_reg (mdl []) ?_
            refine S_bin rfl rfl (ev_lss ..) ?_
            refine S_nil ?_
            refine C_seq ?_
            refine C_if (b := (decide (a96 < (x90.Spots.length : Int)))) rfl hF (fun hb101 hF => ?_) (fun hb101 hF => ?_)
            ·
              refine WP_skip ?_
              refine C_seq ?_
              refine WP_block ?_
              refine C_seq ?_
              refine C_reg (mdl [(15, 1)]) ?_
              refine S_ix rfl rfl ty_sl_78 ty_sz_52 hF (fun x102 _ hF => ?_)
              refine S_ldQ rfl (p_agg (vs := c_T_lecternref10_Spot x102) ty_ag_52 ty_sz_52 rfl rfl) ?_
              refine S_all1 ok rfl ty_zc_52 ?_
              intro i103 hi103 ok
              refine S_st (j := 0) (cs' := [.int .i64 x102.X, .int .i64 x102.Y]) ok rfl rfl rfl hi103 rfl ty_sz_52 rfl rfl (fun ok => ?_)
              refine S_nil ?_
              refine C_seq ?_
              refine C_seq ?_
              refine C_reg (mdl []) ?_
              refine S_faP rfl ty_fd_52_0 ty_sz_3 ?_
              refine S_ldP (j := 0) ok rfl rfl rfl hi103 (p_one (v := .int .i64 x102.X) ty_ag_3 ty_sz_3 rfl) ?_
              refine S_faP rfl ty_fd_52_0 ty_sz_3 ?_
              refine S_ldP (j := 3) ok rfl rfl rfl hi2 (p_one (v := .int .i64 x1.1.X) ty_ag_3 ty_sz_3 rfl) ?_
              refine S_bin rfl rfl (ev_lss ..) ?_
              refine S_m (v := .bool _) rfl ?_
              refine S_two (b := (decide (x102.X < x1.1.X))) 6 50 (.bool ((decide (x102.X < x1.1.X)) || (decide (x3.1.X < x102.X)))) (fun hb104 => ?_) (fun hb104 => ?_) ?_
              ·
                refine S_off rfl rfl hb104 ?_
                refine S_offD ?_
                refine S_off rfl rfl hb104 ?_
                refine S_offD ?_
                refine S_off rfl rfl hb104 ?_
                refine S_offD ?_
                refine S_off rfl rfl hb104 ?_
                refine S_offD ?_
                refine S_off rfl rfl hb104 ?_
                refine S_offD ?_
                refine S_pickT (v := .bool _) rfl hb104 rfl ?_
                refine S_nil ?_
                refine .hd (or_t hb104) ?_
                repeat (first | with_reducible exact WS.refl _ | refine WS.add ?_ rfl)
              ·
                refine S_on rfl rfl hb104 ?_
                refine S_in ?_
                refine S_faP rfl ty_fd_52_0 ty_sz_3 ?_
                refine S_nil ?_
                refine S_on rfl rfl hb104 ?_
                refine S_in ?_
                refine S_ldP (j := 0) ok rfl rfl rfl hi103 (p_one (v := .int .i64 x102.X) ty_ag_3 ty_sz_3 rfl) ?_
                refine S_nil ?_
                refine S_on rfl rfl hb104 ?_
                refine S_in ?_
                refine S_faP rfl ty_fd_52_0 ty_sz_3 ?_
                refine S_nil ?_
                refine S_on rfl rfl hb104 ?_
                refine S_in ?_
                refine S_ldP (j := 2) ok rfl rfl rfl hi4 (p_one (v := .int .i64 x3.1.X) ty_ag_3 ty_sz_3 rfl) ?_
                refine S_nil ?_
                refine S_on rfl rfl hb104 ?_
                refine S_in ?_
                refine S_bin rfl rfl (ev_gtr ..) ?_
                refine S_nil ?_
                refine S_pickF (v := .bool _) rfl hb104 rfl ?_
                refine S_nil ?_
                refine .hd (or_f hb104) ?_
                repeat (first | with_reducible exact WS.refl _ | refine WS.add ?_ rfl)
              refine S_m (v := .bool _) rfl ?_
              refine S_two (b := ((decide (x102.X < x1.1.X)) || (decide (x3.1.X < x102.X)))) 6 57 (.bool (((decide (x102.X < x1.1.X)) || (decide (x3.1.X < x102.X))) || (decide (x102.Y < x1.1.Y)))) (fun hb105 => ?_) (fun hb105 => ?_) ?_
              ·
                refine S_off rfl rfl hb105 ?_
                refine S_offD ?_
                refine S_off rfl rfl hb105 ?_
                refine S_offD ?_
                refine S_off rfl rfl hb105 ?_
                refine S_offD ?_
                refine S_off rfl rfl hb105 ?_
                refine S_offD ?_
                refine S_off rfl rfl hb105 ?_
                refine S_offD ?_
                refine S_pickT (v := .bool _) rfl hb105 rfl ?_
                refine S_nil ?_
                refine .hd (or_t hb105) ?_
                repeat (first | with_reducible exact WS.refl _ | refine WS.add ?_ rfl)
              ·
                refine S_on rfl rfl hb105 ?_
                refine S_in ?_
                refine S_faP rfl ty_fd_52_1 ty_sz_3 ?_
                refine S_nil ?_
                refine S_on rfl rfl hb105 ?_
                refine S_in ?_
                refine S_ldP (j := 0) ok rfl rfl rfl hi103 (p_one (v := .int .i64 x102.Y) ty_ag_3 ty_sz_3 rfl) ?_
                refine S_nil ?_
                refine S_on rfl rfl hb105 ?_
                refine S_in ?_
                refine S_faP rfl ty_fd_52_1 ty_sz_3 ?_
                refine S_nil ?_
                refine S_on rfl rfl hb105 ?_
                refine S_in ?_
                refine S_ldP (j := 3) ok rfl rfl rfl hi2 (p_one (v := .int .i64 x1.1.Y) ty_ag_3 ty_sz_3 rfl) ?_
                refine S_nil ?_
                refine S_on rfl rfl hb105 ?_
                refine S_in ?_
                refine S_bin rfl rfl (ev_lss ..) ?_
                refine S_nil ?_
                refine S_pickF (v := .bool _) rfl hb105 rfl ?_
                refine S_nil ?_
                refine .hd (or_f hb105) ?_
                repeat (first | with_reducible exact WS.refl _ | refine WS.add ?_ rfl)
              refine S_m (v := .bool _) rfl ?_
              refine S_two (b := (((decide (x102.X < x1.1.X)) || (decide (x3.1.X < x102.X))) || (decide (x102.Y < x1.1.Y)))) 6 64 (.bool ((((decide (x102.X < x1.1.X)) || (decide (x3.1.X < x102.X))) || (decide (x102.Y < x1.1.Y))) || (decide (x3.1.Y < x102.Y)))) (fun hb106 => ?_) (fun hb106 => ?_) ?_
              ·
                refine S_off rfl rfl hb106 ?_
                refine S_offD ?_
                refine S_off rfl rfl hb106 ?_
                refine S_offD ?_
                refine S_off rfl rfl hb106 ?_
                refine S_offD ?_
                refine S_off rfl rfl hb106 ?_
                refine S_offD ?_
                refine S_off rfl rfl hb106 ?_
                refine S_offD ?_
                refine S_pickT (v := .bool _) rfl hb106 rfl ?_
                refine S_nil ?_
                refine .hd (or_t hb106) ?_
                repeat (first | with_reducible exact WS.refl _ | refine WS.add ?_ rfl)
              ·
                refine S_on rfl rfl hb106 ?_
                refine S_in ?_
                refine S_faP rfl ty_fd_52_1 ty_sz_3 ?_
                refine S_nil ?_
                refine S_on rfl rfl hb106 ?_
                refine S_in ?_
                refine S_ldP (j := 0) ok rfl rfl rfl hi103 (p_one (v := .int .i64 x102.Y) ty_ag_3 ty_sz_3 rfl) ?_
                refine S_nil ?_
                refine S_on rfl rfl hb106 ?_
                refine S_in ?_
                refine S_faP rfl ty_fd_52_1 ty_sz_3 ?_
                refine S_nil ?_
                refine S_on rfl rfl hb106 ?_
                refine S_in ?_
                refine S_ldP (j := 2) ok rfl rfl rfl hi4 (p_one (v := .int .i64 x3.1.Y) ty_ag_3 ty_sz_3 rfl) ?_
                refine S_nil ?_
                refine S_on rfl rfl hb106 ?_
                refine S_in ?_
                refine S_bin rfl rfl (ev_gtr ..) ?_
                refine S_nil ?_
                refine S_pickF (v := .bool _) rfl hb106 rfl ?_
                refine S_nil ?_
                refine .hd (or_f hb106) ?_
                repeat (first | with_reducible exact WS.refl _ | refine WS.add ?_ rfl)
              refine S_nil ?_
              refine C_if (b := ((((decide (x102.X < x1.1.X)) || (decide (x3.1.X < x102.X))) || (decide (x102.Y < x1.1.Y))) || (decide (x3.1.Y < x102.Y)))) rfl hF (fun hb107 hF => ?_) (fun hb107 hF => ?_)
              ·
                refine C_seq ?_
                refine C_reg (mdl []) ?_
                refine S_a (v := .bool _) rfl ?_
                refine S_nil ?_
                refine WP_ret ?_
                replace hF := hG98 _ (F_some hF)
                replace hF := hG63 _ (F_some hF)
                repeat (first | with_reducible refine Exit.sel_ret ?_ | with_reducible refine Exit.blk_ret ?_ | with_reducible refine Exit.jmp_ret ?_)
                refine C_ret (fn := Tryd.f27) rfl (.tmp (v := .bool false) rfl .nil) ?_
                exact ⟨_, _, (.refl _), ok.wh, _, F_some hF, rfl, rfl⟩
              ·
                refine WP_skip ?_
                refine C_seq ?_
                refine C_reg (mdl []) ?_
                refine S_ixA (i := 0) rfl rfl ty_ar_94 ty_sz_4 rfl ?_
                refine S_ldP (j := 1) ok rfl rfl rfl hi5 (p_one (v := .bool a92) ty_ag_4 ty_sz_4 rfl) ?_
                refine S_m (v := .bool _) rfl ?_
                refine S_two (b := a92) 6 73 (.bool (a92 || (x102.X == x1.1.X))) (fun hb108 => ?_) (fun hb108 => ?_) ?_
                ·
                  refine S_off rfl rfl hb108 ?_
                  refine S_offD ?_
                  refine S_off rfl rfl hb108 ?_
                  refine S_offD ?_
                  refine S_off rfl rfl hb108 ?_
                  refine S_offD ?_
                  refine S_off rfl rfl hb108 ?_
                  refine S_offD ?_
                  refine S_off rfl rfl hb108 ?_
                  refine S_offD ?_
                  refine S_pickT (v := .bool _) rfl hb108 rfl ?_
                  refine S_nil ?_
                  refine .hd (or_t hb108) ?_
                  repeat (first | with_reducible exact WS.refl _ | refine WS.add ?_ rfl)
                ·
                  refine S_on rfl rfl hb108 ?_
                  refine S_in ?_
                  refine S_faP rfl ty_fd_52_0 ty_sz_3 ?_
                  refine S_nil ?_
                  refine S_on rfl rfl hb108 ?_
                  refine S_in ?_
                  refine S_ldP (j := 0) ok rfl rfl rfl hi103 (p_one (v := .int .i64 x102.X) ty_ag_3 ty_sz_3 rfl) ?_
                  refine S_nil ?_
                  refine S_on rfl rfl hb108 ?_
                  refine S_in ?_
                  refine S_faP rfl ty_fd_52_0 ty_sz_3 ?_
                  refine S_nil ?_
                  refine S_on rfl rfl hb108 ?_
                  refine S_in ?_
                  refine S_ldP (j := 3) ok rfl rfl rfl hi2 (p_one (v := .int .i64 x1.1.X) ty_ag_3 ty_sz_3 rfl) ?_
                  refine S_nil ?_
                  refine S_on rfl rfl hb108 ?_
                  refine S_in ?_
                  refine S_bin rfl rfl (ev_eql ..) ?_
                  refine S_nil ?_
                  refine S_pickF (v := .bool _) rfl hb108 rfl ?_
                  refine S_nil ?_
                  refine .hd (or_f hb108) ?_
                  repeat (first | with_reducible exact WS.refl _ | refine WS.add ?_ rfl)
                refine S_ixA (i := 0) rfl rfl ty_ar_94 ty_sz_4 rfl ?_
                refine S_st (j := 1) (cs' := [.bool (a92 || (x102.X == x1.1.X)), .bool a93, .bool a94, .bool a95]) ok rfl rfl rfl hi5 rfl ty_sz_4 rfl rfl (fun ok => ?_)
                refine S_nil ?_
                refine C_seq ?_
                refine C_reg (mdl []) ?_
                refine S_ixA (i := 1) rfl rfl ty_ar_94 ty_sz_4 rfl ?_
                refine S_ldP (j := 1) ok rfl rfl rfl hi5 (p_one (v := .bool a93) ty_ag_4 ty_sz_4 rfl) ?_
                refine S_m (v := .bool _) rfl ?_
                refine S_two (b := a93) 6 83 (.bool (a93 || (x102.X == x3.1.X))) (fun hb109 => ?_) (fun hb109 => ?_) ?_
                ·
                  refine S_off rfl rfl hb109 ?_
                  refine S_offD ?_
                  refine S_off rfl rfl hb109 ?_
                  refine S_offD ?_
                  refine S_off rfl rfl hb109 ?_
                  refine S_offD ?_
                  refine S_off rfl rfl hb109 ?_
                  refine S_offD ?_
                  refine S_off rfl rfl hb109 ?_
                  refine S_offD ?_
                  refine S_pickT (v := .bool _) rfl hb109 rfl ?_
                  refine S_nil ?_
                  refine .hd (or_t hb109) ?_
                  repeat (first | with_reducible exact WS.refl _ | refine WS.add ?_ rfl)
                ·
                  refine S_on rfl rfl hb109 ?_
                  refine S_in ?_
                  refine S_faP rfl ty_fd_52_0 ty_sz_3 ?_
                  refine S_nil ?_
                  refine S_on rfl rfl hb109 ?_
                  refine S_in ?_
                  refine S_ldP (j := 0) ok rfl rfl rfl hi103 (p_one (v := .int .i64 x102.X) ty_ag_3 ty_sz_3 rfl) ?_
                  refine S_nil ?_
                  refine S_on rfl rfl hb109 ?_
                  refine S_in ?_
                  refine S_faP rfl ty_fd_52_0 ty_sz_3 ?_
                  refine S_nil ?_
                  refine S_on rfl rfl hb109 ?_
                  refine S_in ?_
                  refine S_ldP (j := 2) ok rfl rfl rfl hi4 (p_one (v := .int .i64 x3.1.X) ty_ag_3 ty_sz_3 rfl) ?_
                  refine S_nil ?_
                  refine S_on rfl rfl hb109 ?_
                  refine S_in ?_
                  refine S_bin rfl rfl (ev_eql ..) ?_
                  refine S_nil ?_
                  refine S_pickF (v := .bool _) rfl hb109 rfl ?_
                  refine S_nil ?_
                  refine .hd (or_f hb109) ?_
                  repeat (first | with_reducible exact WS.refl _ | refine WS.add ?_ rfl)
                refine S_ixA (i := 1) rfl rfl ty_ar_94 ty_sz_4 rfl ?_
                refine S_st (j := 1) (cs' := [.bool (a92 || (x102.X == x1.1.X)), .bool (a93 || (x102.X == x3.1.X)), .bool a94, .bool a95]) ok rfl rfl rfl hi5 rfl ty_sz_4 rfl rfl (fun ok => ?_)
                refine S_nil ?_
                refine C_seq ?_
                refine C_reg (mdl []) ?_
                refine S_ixA (i := 2) rfl rfl ty_ar_94 ty_sz_4 rfl ?_
                refine S_ldP (j := 1) ok rfl rfl rfl hi5 (p_one (v := .bool a94) ty_ag_4 ty_sz_4 rfl) ?_
                refine S_m (v := .bool _) rfl ?_
                refine S_two (b := a94) 6 93 (.bool (a94 || (x102.Y == x1.1.Y))) (fun hb110 => ?_) (fun hb110 => ?_) ?_
                ·
                  refine S_off rfl rfl hb110 ?_
                  refine S_offD ?_
                  refine S_off rfl rfl hb110 ?_
                  refine S_offD ?_
                  refine S_off rfl rfl hb110 ?_
                  refine S_offD ?_
                  refine S_off rfl rfl hb110 ?_
                  refine S_offD ?_
                  refine S_off rfl rfl hb110 ?_
                  refine S_offD ?_
                  refine S_pickT (v := .bool _) rfl hb110 rfl ?_
                  refine S_nil ?_
                  refine .hd (or_t hb110) ?_
                  repeat (first | with_reducible exact WS.refl _ | refine WS.add ?_ rfl)
                ·
                  refine S_on rfl rfl hb110 ?_
                  refine S_in ?_
                  refine S_faP rfl ty_fd_52_1 ty_sz_3 ?_
                  refine S_nil ?_
                  refine S_on rfl rfl hb110 ?_
                  refine S_in ?_
                  refine S_ldP (j := 0) ok rfl rfl rfl hi103 (p_one (v := .int .i64 x102.Y) ty_ag_3 ty_sz_3 rfl) ?_
                  refine S_nil ?_
                  refine S_on rfl rfl hb110 ?_
                  refine S_in ?_
                  refine S_faP rfl ty_fd_52_1 ty_sz_3 ?_
                  refine S_nil ?_
                  refine S_on rfl rfl hb110 ?_
                  refine S_in ?_
                  refine S_ldP (j := 3) ok rfl rfl rfl hi2 (p_one (v := .int .i64 x1.1.Y) ty_ag_3 ty_sz_3 rfl) ?_
                  refine S_nil ?_
                  refine S_on rfl rfl hb110 ?_
                  refine S_in ?_
                  refine S_bin rfl rfl (ev_eql ..) ?_
                  refine S_nil ?_
                  refine S_pickF (v := .bool _) rfl hb110 rfl ?_
                  refine S_nil ?_
                  refine .hd (or_f hb110) ?_
                  repeat (first | with_reducible exact WS.refl _ | refine WS.add ?_ rfl)
                refine S_ixA (i := 2) rfl rfl ty_ar_94 ty_sz_4 rfl ?_
                refine S_st (j := 1) (cs' := [.bool (a92 || (x102.X == x1.1.X)), .bool (a93 || (x102.X == x3.1.X)), .bool (a94 || (x102.Y == x1.1.Y)), .bool a95]) ok rfl rfl rfl hi5 rfl ty_sz_4 rfl rfl (fun ok => ?_)
                refine S_nil ?_
                refine C_reg (mdl []) ?_
                refine S_ixA (i := 3) rfl rfl ty_ar_94 ty_sz_4 rfl ?_
                refine S_ldP (j := 1) ok rfl rfl rfl hi5 (p_one (v := .bool a95) ty_ag_4 ty_sz_4 rfl) ?_
                refine S_m (v := .bool _) rfl ?_
                refine S_two (b := a95) 6 103 (.bool (a95 || (x102.Y == x3.1.Y))) (fun hb111 => ?_) (fun hb111 => ?_) ?_
                ·
                  refine S_off rfl rfl hb111 ?_
                  refine S_offD ?_
                  refine S_off rfl rfl hb111 ?_
                  refine S_offD ?_
                  refine S_off rfl rfl hb111 ?_
                  refine S_offD ?_
                  refine S_off rfl rfl hb111 ?_
                  refine S_offD ?_
                  refine S_off rfl rfl hb111 ?_
                  refine S_offD ?_
                  refine S_pickT (v := .bool _) rfl hb111 rfl ?_
                  refine S_nil ?_
                  refine .hd (or_t hb111) ?_
                  repeat (first | with_reducible exact WS.refl _ | refine WS.add ?_ rfl)
                ·
                  refine S_on rfl rfl hb111 ?_
                  refine S_in ?_
                  refine S_faP rfl ty_fd_52_1 ty_sz_3 ?_
                  refine S_nil ?_
                  refine S_on rfl rfl hb111 ?_
                  refine S_in ?_
                  refine S_ldP (j := 0) ok rfl rfl rfl hi103 (p_one (v := .int .i64 x102.Y) ty_ag_3 ty_sz_3 rfl) ?_
                  refine S_nil ?_
                  refine S_on rfl rfl hb111 ?_
                  refine S_in ?_
                  refine S_faP rfl ty_fd_52_1 ty_sz_3 ?_
                  refine S_nil ?_
                  refine S_on rfl rfl hb111 ?_
                  refine S_in ?_
                  refine S_ldP (j := 2) ok rfl rfl rfl hi4 (p_one (v := .int .i64 x3.1.Y) ty_ag_3 ty_sz_3 rfl) ?_
                  refine S_nil ?_
                  refine S_on rfl rfl hb111 ?_
                  refine S_in ?_
                  refine S_bin rfl rfl (ev_eql ..) ?_
                  refine S_nil ?_
                  refine S_pickF (v := .bool _) rfl hb111 rfl ?_
                  refine S_nil ?_
                  refine .hd (or_f hb111) ?_
                  repeat (first | with_reducible exact WS.refl _ | refine WS.add ?_ rfl)
                refine S_ixA (i := 3) rfl rfl ty_ar_94 ty_sz_4 rfl ?_
                refine S_st (j := 1) (cs' := [.bool (a92 || (x102.X == x1.1.X)), .bool (a93 || (x102.X == x3.1.X)), .bool (a94 || (x102.Y == x1.1.Y)), .bool (a95 || (x102.Y == x3.1.Y))]) ok rfl rfl rfl hi5 rfl ty_sz_4 rfl rfl (fun ok => ?_)
                refine S_nil ?_
                refine C_reg (mdl []) ?_
                refine S_bin rfl rfl (ev_add ..) ?_
                refine S_m (v := .int _ _) rfl ?_
                refine S_nil ?_
                refine ih100 ((a92 || (x102.X == x1.1.X)), (a93 || (x102.X == x3.1.X)), (a94 || (x102.Y == x1.1.Y)), (a95 || (x102.Y == x3.1.Y)), (IntKind.wrap .i64 (a96 + (1 : Int)))) _ hF ?_
                have hwo : WO [(i103, .cells [.int .i64 x102.X, .int .i64 x102.Y]), (i5, .cells [.bool (a92 || (x102.X == x1.1.X)), .bool (a93 || (x102.X == x3.1.X)), .bool (a94 || (x102.Y == x1.1.Y)), .bool (a95 || (x102.Y == x3.1.Y))]), (i4, .cells [.int .i64 x3.1.X, .int .i64 x3.1.Y]), (i2, .cells [.int .i64 x1.1.X, .int .i64 x1.1.Y])] [(i5, .cells [.bool (a92 || (x102.X == x1.1.X)), .bool (a93 || (x102.X == x3.1.X)), .bool (a94 || (x102.Y == x1.1.Y)), .bool (a95 || (x102.Y == x3.1.Y))]), (i4, .cells [.int .i64 x3.1.X, .int .i64 x3.1.Y]), (i2, .cells [.int .i64 x1.1.X, .int .i64 x1.1.Y])] := (.drop (.keep (.keep (.keep .nil))))
                exact ⟨(hwo.spec ok).1, WS.mk' (.cons (.refl _) (.cons (.refl _) (.cons (.refl _) (.cons (.refl _) (.cons (.refl _) (.cons (.refl _) (.cons (.refl _) (.cons (.refl _) (.cons (.refl _) (.cons (.refl _) (.cons (.refl _) .nil))))))))))) ok hwo⟩
            ·
              refine WP_exit ?_
              simp only [Exit.sel, Exit.blk, Exit.jmp, if_true, if_false, reduceIte, Nat.reduceEqDiff, Nat.succ_ne_zero, Nat.zero_ne_one, Nat.one_ne_zero]
              replace hF := hG98 _ (F_some hF)
              have hwo : WO [(i5, .cells [.bool a92, .bool a93, .bool a94, .bool a95]), (i4, .cells [.int .i64 x3.1.X, .int .i64 x3.1.Y]), (i2, .cells [.int .i64 x1.1.X, .int .i64 x1.1.Y])] [(i5, .cells [.bool a92, .bool a93, .bool a94, .bool a95]), (i4, .cells [.int .i64 x3.1.X, .int .i64 x3.1.Y]), (i2, .cells [.int .i64 x1.1.X, .int .i64 x1.1.Y])] := (.keep (.keep (.keep .nil)))
              exact ⟨(a92, a93, a94, a95), hF, (hwo.spec ok).1, WS.mk' (.cons (.refl _) (.cons (.refl _) (.cons (.refl _) (.cons (.refl _) (.cons (.refl _) (.cons (.refl _) (.cons (.refl _) (.cons (.refl _) .nil)))))))) ok hwo⟩
        ·
          rintro ⟨a85, a86, a87, a88⟩ s' hF ⟨ok, hws⟩
          refine WP_ws hws ?_
          clear hws s'
          refine C_reg (mdl []) ?_
          refine S_bin rfl rfl (ev_add ..) ?_
          refine S_m (v := .int _ _) rfl ?_
          refine S_nil ?_
          refine ih65 (a85, a86, a87, a88, (IntKind.wrap .i64 (a61 + (1 : Int)))) _ hF ?_
          have hwo : WO [(i5, .cells [.bool a85, .bool a86, .bool a87, .bool a88]), (i4, .cells [.int .i64 x3.1.X, .int .i64 x3.1.Y]), (i2, .cells [.int .i64 x1.1.X, .int .i64 x1.1.Y])] [(i5, .cells [.bool a85, .bool a86, .bool a87, .bool a88]), (i4, .cells [.int .i64 x3.1.X, .int .i64 x3.1.Y]), (i2, .cells [.int .i64 x1.1.X, .int .i64 x1.1.Y])] := (.keep (.keep (.keep .nil)))
          exact ⟨(hwo.spec ok).1, WS.mk' (.cons (.refl _) (.cons (.refl _) (.cons (.refl _) (.cons (.refl _) (.cons (.refl _) (.cons (.refl _) (.cons (.refl _) (.cons (.refl _) .nil)))))))) ok hwo⟩
      ·
        refine WP_exit ?_
        simp only [Exit.sel, Exit.blk, Exit.jmp, if_true, if_false, reduceIte, Nat.reduceEqDiff, Nat.succ_ne_zero, Nat.zero_ne_one, Nat.one_ne_zero]
        replace hF := hG63 _ (F_some hF)
        have hwo : WO [(i5, .cells [.bool a57, .bool a58, .bool a59, .bool a60]), (i4, .cells [.int .i64 x3.1.X, .int .i64 x3.1.Y]), (i2, .cells [.int .i64 x1.1.X, .int .i64 x1.1.Y])] [(i5, .cells [.bool a57, .bool a58, .bool a59, .bool a60])] := (.keep (.drop (.drop .nil)))
        exact ⟨(a57, a58, a59, a60), hF, (hwo.spec ok).1, WS.mk' (.cons (.refl _) (.cons (.refl _) (.cons (.refl _) .nil))) ok hwo⟩
  ·
    rintro ⟨a52, a53, a54, a55⟩ s' hF ⟨ok, hws⟩
    refine WP_ws hws ?_
    clear hws s'
    refine C_seq ?_
    refine C_reg (mdl []) ?_
    refine S_m (v := .bool _) rfl ?_
    refine S_m (v := .bool _) rfl ?_
    refine S_two (b := x1.2) 2 110 (.bool (x1.2 && x3.2)) (fun hb112 => ?_) (fun hb112 => ?_) ?_
    ·
      refine S_on rfl rfl hb112 ?_
      refine S_in ?_
      refine S_m (v := .bool _) rfl ?_
      refine S_nil ?_
      refine S_pickT (v := .bool _) rfl hb112 rfl ?_
      refine S_nil ?_
      refine .hd (and_t hb112) ?_
      repeat (first | with_reducible exact WS.refl _ | refine WS.add ?_ rfl)
    ·
      refine S_off rfl rfl hb112 ?_
      refine S_offD ?_
      refine S_pickF (v := .bool _) rfl hb112 rfl ?_
      refine S_nil ?_
      refine .hd (and_f hb112) ?_
      repeat (first | with_reducible exact WS.refl _ | refine WS.add ?_ rfl)
    refine S_m (v := .bool _) rfl ?_
    refine S_twoJ 3 114 hF (fun J114 hb113 hF => ?_) (fun J114 hb113 hF => ?_) (fun v115 hF => ?_)
    ·
      refine S_on rfl rfl hb113 ?_
      refine S_in ?_
      refine S_ixA (i := 0) rfl rfl ty_ar_94 ty_sz_4 rfl ?_
      refine S_nil ?_
      refine S_on rfl rfl hb113 ?_
      refine S_in ?_
      refine S_ldP (j := 0) ok rfl rfl rfl hi5 (p_one (v := .bool a52) ty_ag_4 ty_sz_4 rfl) ?_
      refine S_nil ?_
      refine S_pickT (v := .bool _) rfl hb113 rfl ?_
      refine S_nil ?_
      refine ⟨_, hF, .hd (.refl _) ?_⟩
      repeat (first | with_reducible exact WS.refl _ | refine WS.add ?_ rfl)
    ·
      refine S_off rfl rfl hb113 ?_
      refine S_offD ?_
      refine S_off rfl rfl hb113 ?_
      refine S_offD ?_
      refine S_pickF (v := .bool _) rfl hb113 rfl ?_
      refine S_nil ?_
      refine ⟨_, hF, .hd (.refl _) ?_⟩
      repeat (first | with_reducible exact WS.refl _ | refine WS.add ?_ rfl)
    ·
      refine S_m (v := .bool _) rfl ?_
      refine S_twoJ 3 118 hF (fun J117 hb116 hF => ?_) (fun J117 hb116 hF => ?_) (fun v118 hF => ?_)
      ·
        refine S_on rfl rfl hb116 ?_
        refine S_in ?_
        refine S_ixA (i := 1) rfl rfl ty_ar_94 ty_sz_4 rfl ?_
        refine S_nil ?_
        refine S_on rfl rfl hb116 ?_
        refine S_in ?_
        refine S_ldP (j := 0) ok rfl rfl rfl hi5 (p_one (v := .bool a53) ty_ag_4 ty_sz_4 rfl) ?_
        refine S_nil ?_
        refine S_pickT (v := .bool _) rfl hb116 rfl ?_
        refine S_nil ?_
        refine ⟨_, hF, .hd (.refl _) ?_⟩
        repeat (first | with_reducible exact WS.refl _ | refine WS.add ?_ rfl)
      ·
        refine S_off rfl rfl hb116 ?_
        refine S_offD ?_
        refine S_off rfl rfl hb116 ?_
        refine S_offD ?_
        refine S_pickF (v := .bool _) rfl hb116 rfl ?_
        refine S_nil ?_
        refine ⟨_, hF, .hd (.refl _) ?_⟩
        repeat (first | with_reducible exact WS.refl _ | refine WS.add ?_ rfl)
      ·
        refine S_m (v := .bool _) rfl ?_
        refine S_twoJ 3 122 hF (fun J120 hb119 hF => ?_) (fun J120 hb119 hF => ?_) (fun v121 hF => ?_)
        ·
          refine S_on rfl rfl hb119 ?_
          refine S_in ?_
          refine S_ixA (i := 2) rfl rfl ty_ar_94 ty_sz_4 rfl ?_
          refine S_nil ?_
          refine S_on rfl rfl hb119 ?_
          refine S_in ?_
          refine S_ldP (j := 0) ok rfl rfl rfl hi5 (p_one (v := .bool a54) ty_ag_4 ty_sz_4 rfl) ?_
          refine S_nil ?_
          refine S_pickT (v := .bool _) rfl hb119 rfl ?_
          refine S_nil ?_
          refine ⟨_, hF, .hd (.refl _) ?_⟩
          repeat (first | with_reducible exact WS.refl _ | refine WS.add ?_ rfl)
        ·
          refine S_off rfl rfl hb119 ?_
          refine S_offD ?_
          refine S_off rfl rfl hb119 ?_
          refine S_offD ?_
          refine S_pickF (v := .bool _) rfl hb119 rfl ?_
          refine S_nil ?_
          refine ⟨_, hF, .hd (.refl _) ?_⟩
          repeat (first | with_reducible exact WS.refl _ | refine WS.add ?_ rfl)
        ·
          refine S_m (v := .bool _) rfl ?_
          refine S_twoJ 3 126 hF (fun J123 hb122 hF => ?_) (fun J123 hb122 hF => ?_) (fun v124 hF => ?_)
          ·
            refine S_on rfl rfl hb122 ?_
            refine S_in ?_
            refine S_ixA (i := 3) rfl rfl ty_ar_94 ty_sz_4 rfl ?_
            refine S_nil ?_
            refine S_on rfl rfl hb122 ?_
            refine S_in ?_
            refine S_ldP (j := 0) ok rfl rfl rfl hi5 (p_one (v := .bool a55) ty_ag_4 ty_sz_4 rfl) ?_
            refine S_nil ?_
            refine S_pickT (v := .bool _) rfl hb122 rfl ?_
            refine S_nil ?_
            refine ⟨_, hF, .hd (.refl _) ?_⟩
            repeat (first | with_reducible exact WS.refl _ | refine WS.add ?_ rfl)
          ·
            refine S_off rfl rfl hb122 ?_
            refine S_offD ?_
            refine S_off rfl rfl hb122 ?_
            refine S_offD ?_
            refine S_pickF (v := .bool _) rfl hb122 rfl ?_
            refine S_nil ?_
            refine ⟨_, hF, .hd (.refl _) ?_⟩
            repeat (first | with_reducible exact WS.refl _ | refine WS.add ?_ rfl)
          ·
            refine S_a (v := .bool _) rfl ?_
            refine S_nil ?_
            refine WP_ret ?_
            repeat (first | with_reducible refine Exit.sel_ret ?_ | with_reducible refine Exit.blk_ret ?_ | with_reducible refine Exit.jmp_ret ?_)
            refine C_ret (fn := Tryd.f27) rfl (.tmp (v := .bool v124) rfl .nil) ?_
            exact ⟨_, _, (.refl _), ok.wh, _, F_some hF, rfl, rfl⟩
theorem F_lecternlaw10_boxed_ok {β : Type} {f : Bool → Option β} {G : β → Prop} {R : D → Heap → Prop} {p0 : List T_lecternref10_Stroke} {p1 : Nat × Nat} {p2 : Nat × Nat} (h : Heap) (hF : OptP ((F_lecternlaw10_boxed p0 p1 p2).bind f) G) (hk : ∀ r, F_lecternlaw10_boxed p0 p1 p2 = some r → OptP (f r) G → R (.bool r) h) : CallsA Tryd.prog 27 [.sl 2 (List.map c_T_lecternref10_Stroke p0) 0, .cplx .f64 p1.1 p1.2, .cplx .f64 p2.1 p2.2] h R := by
  obtain ⟨r0, hr, hF⟩ := F_bind hF
  refine (F_lecternlaw10_boxed_w (G := fun r => r = r0) p0 p1 p2 h ⟨r0, hr, rfl⟩).mono ?_
  rintro _ _ ⟨r, rfl, rfl, rfl⟩
  exact hk _ hr hF
theorem F_lecternlaw10_fits_w (p0 : Int) (p1 : Int) {G : Bool → Prop} (h : Heap) (hF : OptP (F_lecternlaw10_fits p0 p1) G) : CallsA Tryd.prog 22 [.int .i64 p0, .int .i64 p1] h fun d h' => ∃ r, G r ∧ d = .bool r ∧ h' = h := by
  refine CallsA.ret ?_
  refine C_body Tryd.func22 rfl en_22 Tryd.ntmps22 rfl (fun ok => ?_)
  rw [F_lecternlaw10_fits] at hF
  refine C_seq ?_
  refine C_reg (mdl []) ?_
  refine S_a (v := .bool _) rfl ?_
  refine S_nil ?_
  refine C_seq ?_
  refine C_reg (mdl []) ?_
  refine S_m (v := .int _ _) rfl ?_
  refine S_bin rfl rfl (ev_geq ..) ?_
  refine S_m (v := .bool _) rfl ?_
  refine S_two (b := (decide ((-1000000 : Int) ≤ p0))) 3 10 (.bool ((decide ((-1000000 : Int) ≤ p0)) && (decide (p0 ≤ (1000000 : Int))))) (fun hb1 => ?_) (fun hb1 => ?_) ?_
  ·
    refine S_on rfl rfl hb1 ?_
    refine S_in ?_
    refine S_m (v := .int _ _) rfl ?_
    refine S_nil ?_
    refine S_on rfl rfl hb1 ?_
    refine S_in ?_
    refine S_bin rfl rfl (ev_leq ..) ?_
    refine S_nil ?_
    refine S_pickT (v := .bool _) rfl hb1 rfl ?_
    refine S_nil ?_
    refine .hd (and_t hb1) ?_
    repeat (first | with_reducible exact WS.refl _ | refine WS.add ?_ rfl)
  ·
    refine S_off rfl rfl hb1 ?_
    refine S_offD ?_
    refine S_off rfl rfl hb1 ?_
    refine S_offD ?_
    refine S_pickF (v := .bool _) rfl hb1 rfl ?_
    refine S_nil ?_
    refine .hd (and_f hb1) ?_
    repeat (first | with_reducible exact WS.refl _ | refine WS.add ?_ rfl)
  refine S_m (v := .bool _) rfl ?_
  refine S_two (b := ((decide ((-1000000 : Int) ≤ p0)) && (decide (p0 ≤ (1000000 : Int))))) 3 14 (.bool (((decide ((-1000000 : Int) ≤ p0)) && (decide (p0 ≤ (1000000 : Int)))) && (decide ((-1000000 : Int) ≤ p1)))) (fun hb2 => ?_) (fun hb2 => ?_) ?_
  ·
    refine S_on rfl rfl hb2 ?_
    refine S_in ?_
    refine S_m (v := .int _ _) rfl ?_
    refine S_nil ?_
    refine S_on rfl rfl hb2 ?_
    refine S_in ?_
    refine S_bin rfl rfl (ev_geq ..) ?_
    refine S_nil ?_
    refine S_pickT (v := .bool _) rfl hb2 rfl ?_
    refine S_nil ?_
    refine .hd (and_t hb2) ?_
    repeat (first | with_reducible exact WS.refl _ | refine WS.add ?_ rfl)
  ·
    refine S_off rfl rfl hb2 ?_
    refine S_offD ?_
    refine S_off rfl rfl hb2 ?_
    refine S_offD ?_
    refine S_pickF (v := .bool _) rfl hb2 rfl ?_
    refine S_nil ?_
    refine .hd (and_f hb2) ?_
    repeat (first | with_reducible exact WS.refl _ | refine WS.add ?_ rfl)
  refine S_m (v := .bool _) rfl ?_
  refine S_two (b := (((decide ((-1000000 : Int) ≤ p0)) && (decide (p0 ≤ (1000000 : Int)))) && (decide ((-1000000 : Int) ≤ p1)))) 3 18 (.bool ((((decide ((-1000000 : Int) ≤ p0)) && (decide (p0 ≤ (1000000 : Int)))) && (decide ((-1000000 : Int) ≤ p1))) && (decide (p1 ≤ (1000000 : Int))))) (fun hb3 => ?_) (fun hb3 => ?_) ?_
  ·
    refine S_on rfl rfl hb3 ?_
    refine S_in ?_
    refine S_m (v := .int _ _) rfl ?_
    refine S_nil ?_
    refine S_on rfl rfl hb3 ?_
    refine S_in ?_
    refine S_bin rfl rfl (ev_leq ..) ?_
    refine S_nil ?_
    refine S_pickT (v := .bool _) rfl hb3 rfl ?_
    refine S_nil ?_
    refine .hd (and_t hb3) ?_
    repeat (first | with_reducible exact WS.refl _ | refine WS.add ?_ rfl)
  ·
    refine S_off rfl rfl hb3 ?_
    refine S_offD ?_
    refine S_off rfl rfl hb3 ?_
    refine S_offD ?_
    refine S_pickF (v := .bool _) rfl hb3 rfl ?_
    refine S_nil ?_
    refine .hd (and_f hb3) ?_
    repeat (first | with_reducible exact WS.refl _ | refine WS.add ?_ rfl)
  refine S_a (v := .bool _) rfl ?_
  refine S_nil ?_
  refine WP_ret ?_
  repeat (first | with_reducible refine Exit.sel_ret ?_ | with_reducible refine Exit.blk_ret ?_ | with_reducible refine Exit.jmp_ret ?_)
  refine C_ret (fn := Tryd.f22) rfl (.tmp (v := .bool ((((decide ((-1000000 : Int) ≤ p0)) && (decide (p0 ≤ (1000000 : Int)))) && (decide ((-1000000 : Int) ≤ p1))) && (decide (p1 ≤ (1000000 : Int))))) rfl .nil) ?_
  exact ⟨_, _, (.refl _), ok.wh, _, F_some hF, rfl, rfl⟩
theorem F_lecternlaw10_fits_ok {β : Type} {f : Bool → Option β} {G : β → Prop} {R : D → Heap → Prop} {p0 : Int} {p1 : Int} (h : Heap) (hF : OptP ((F_lecternlaw10_fits p0 p1).bind f) G) (hk : ∀ r, F_lecternlaw10_fits p0 p1 = some r → OptP (f r) G → R (.bool r) h) : CallsA Tryd.prog 22 [.int .i64 p0, .int .i64 p1] h R := by
  obtain ⟨r0, hr, hF⟩ := F_bind hF
  refine (F_lecternlaw10_fits_w (G := fun r => r = r0) p0 p1 h ⟨r0, hr, rfl⟩).mono ?_
  rintro _ _ ⟨r, rfl, rfl, rfl⟩
  exact hk _ hr hF
theorem F_lecternref10_Turn_w (p0 : List T_lecternref10_Stroke) (p1 : T_lecternref10_Spot) (p2 : T_lecternref10_Spot) {G : (List T_lecternref10_Stroke) × Bool → Prop} (h : Heap) (hF : OptP (F_lecternref10_Turn p0 p1 p2) G) : CallsA Tryd.prog 28 [.sl 2 (List.map c_T_lecternref10_Stroke p0) 0, .agg (c_T_lecternref10_Spot p1), .agg (c_T_lecternref10_Spot p2)] h fun d h' => ∃ r, G r ∧ d = .tup [.sl 2 (List.map c_T_lecternref10_Stroke r.1) 0, .bool r.2] ∧ h' = h := by
  refine CallsA.ret ?_
  refine C_body Tryd.func28 rfl en_28 Tryd.ntmps28 rfl (fun ok => ?_)
  rw [F_lecternref10_Turn] at hF
  refine C_seq ?_
  refine C_reg (mdl []) ?_
  refine S_box0 rfl rfl rfl rfl ?_
  refine S_box0 rfl rfl rfl rfl ?_
  refine S_a (v := .snil) rfl ?_
  refine S_one 6 (v := .sl 2 (List.map c_T_lecternref10_Stroke ([] : List T_lecternref10_Stroke)) 0) (.nil _) ?_
  refine S_a (v := .bool _) rfl ?_
  refine S_nil ?_
  refine C_seq ?_
  refine C_reg (mdl [(15, 2)]) ?_
  refine S_lit2 (cs := []) (es := (List.map c_T_lecternref10_Stroke ([] : List T_lecternref10_Stroke))) ok rfl ty_el_27 rfl (by kernel_rfl) (by kernel_rfl) ?_
  intro r1 hr1 ok
  refine S_a (v := .sl _ _ _) rfl ?_
  refine S_nil ?_
  refine C_join hF (fun (a84 : (List T_lecternref10_Stroke)) s' => ∃ g85 : Nat, g85 ≠ 0 ∧ OK h [(g85, .room)] ∧ WS s' ⟨mkSl 84 [(8, .sl 2 (List.map c_T_lecternref10_Stroke a84) g85)], Hp h [(g85, .room)]⟩) (fun J86 hF => ?_) ?_
  ·
    refine C_seq ?_
    refine C_reg (mdl []) ?_
    refine S_m (v := .sl _ _ _) rfl ?_
    refine S_lenL rfl ty_sl_27 ?_
    refine S_m (v := .int _ _) rfl ?_
    refine S_nil ?_
    refine WP_block ?_
    refine C_loop (σ := (List T_lecternref10_Stroke) × Int) hF (fun (v : (List T_lecternref10_Stroke) × Int) s' => match v with | (a87, a89) => ∃ g88 : Nat, g88 ≠ 0 ∧ OK h [(g88, .room)] ∧ WS s' ⟨mkSl 84 [(4, .iptr (c_T_lecternref10_Spot p1)), (5, .iptr (c_T_lecternref10_Spot p2)), (8, .sl 2 (List.map c_T_lecternref10_Stroke a87) g88), (16, .sl 2 (List.map c_T_lecternref10_Stroke p0) 0), (17, .int .i64 (p0.length : Int)), (18, .int .i64 a89)], Hp h [(g88, .room)]⟩) ?_ ?_
    ·
      have hwo : WO [(r1, .room)] [(r1, .room)] := (.keep .nil)
      exact ⟨r1, hr1, (hwo.spec ok).1, WS.mk' (.cons (.refl _) (.cons (.refl _) (.cons (.refl _) (.cons (.refl _) (.cons (.refl _) (.cons (.refl _) .nil)))))) ok hwo⟩
    ·
      rintro G90 hG91 rec92 ⟨a87, a89⟩ s' ih93 hF ⟨g88, hg88, ok, hws⟩
      refine WP_ws hws ?_
      clear hws s'
      rw [F_lecternref10_Turn_l0] at hF
      refine C_seq ?_
      refine C_reg (mdl []) ?_
      refine S_bin rfl rfl (ev_lss ..) ?_
      refine S_nil ?_
      refine C_seq ?_
      refine C_if (b := (decide (a89 < (p0.length : Int)))) rfl hF (fun hb94 hF => ?_) (fun hb94 hF => ?_)
      ·
        refine WP_skip ?_
        refine C_join hF (fun (a133 : (List T_lecternref10_Stroke)) s' => ∃ g134 : Nat, g134 ≠ 0 ∧ OK h [(g134, .room)] ∧ WS s' ⟨mkSl 84 [(4, .iptr (c_T_lecternref10_Spot p1)), (5, .iptr (c_T_lecternref10_Spot p2)), (8, .sl 2 (List.map c_T_lecternref10_Stroke a133) g134), (16, .sl 2 (List.map c_T_lecternref10_Stroke p0) 0), (17, .int .i64 (p0.length : Int)), (18, .int .i64 a89)], Hp h [(g134, .room)]⟩) (fun J135 hF => ?_) ?_
        ·
          refine WP_block ?_
          refine C_seq ?_
          refine C_reg (mdl [(10, 1)]) ?_
          refine S_ix rfl rfl ty_sl_27 ty_sz_80 hF (fun x136 _ hF => ?_)
          refine S_ldQ rfl (p_agg (vs := c_T_lecternref10_Stroke x136) ty_ag_80 ty_sz_80 rfl rfl) ?_
          refine S_all1 ok rfl ty_zc_80 ?_
          intro i137 hi137 ok
          refine S_st (j := 0) (cs' := [.sl 2 (List.map c_T_lecternref10_Spot x136.Spots) 0, .bool x136.Closed]) ok rfl rfl rfl hi137 rfl ty_sz_80 rfl rfl (fun ok => ?_)
          refine S_nil ?_
          refine C_seq ?_
          refine C_reg (mdl [(11, 1)]) ?_
          refine S_faP rfl ty_fd_80_1 ty_sz_4 ?_
          refine S_ldP (j := 0) ok rfl rfl rfl hi137 (p_one (v := .bool x136.Closed) ty_ag_4 ty_sz_4 rfl) ?_
          refine S_bld (v := .agg [.snil, .bool x136.Closed]) (b_st ty_zc_80 ty_pl_80 rfl) ?_
          refine S_all1 ok rfl ty_zc_80 ?_
          intro i138 hi138 ok
          refine S_st (j := 0) (cs' := [.snil, .bool x136.Closed]) ok rfl rfl rfl hi138 rfl ty_sz_80 rfl rfl (fun ok => ?_)
          refine S_ghostO 0 0 2 (fun r139 => [.sl 2 (List.map c_T_lecternref10_Spot ([] : List T_lecternref10_Spot)) r139, .bool x136.Closed]) ok rfl hi138 rfl (fun _ => rfl) ?_
          intro r139 hr139 ok
          refine S_nil ?_
          refine C_join hF (fun (v : (List T_lecternref10_Spot) × Bool) s' => match v with | (a155, a157) => ∃ g156 : Nat, g156 ≠ 0 ∧ OK h [(g156, .room), (i138, .cells [.sl 2 (List.map c_T_lecternref10_Spot a155) g156, .bool a157]), (g88, .room)] ∧ WS s' ⟨mkSl 84 [(4, .iptr (c_T_lecternref10_Spot p1)), (5, .iptr (c_T_lecternref10_Spot p2)), (8, .sl 2 (List.map c_T_lecternref10_Stroke a87) g88), (11, .ptr i138 0), (16, .sl 2 (List.map c_T_lecternref10_Stroke p0) 0), (17, .int .i64 (p0.length : Int)), (18, .int .i64 a89)], Hp h [(g156, .room), (i138, .cells [.sl 2 (List.map c_T_lecternref10_Spot a155) g156, .bool a157]), (g88, .room)]⟩) (fun J158 hF => ?_) ?_
          ·
            refine C_seq ?_
            refine C_reg (mdl []) ?_
            refine S_faP rfl ty_fd_80_0 ty_sz_78 ?_
            refine S_ldP (j := 2) ok rfl rfl rfl hi137 (p_one (v := .sl 2 (List.map c_T_lecternref10_Spot x136.Spots) 0) ty_ag_78 ty_sz_78 rfl) ?_
            refine S_lenL rfl ty_sl_78 ?_
            refine S_m (v := .int _ _) rfl ?_
            refine S_nil ?_
            refine WP_block ?_
            refine C_loop (σ := (List T_lecternref10_Spot) × Bool × Int) hF (fun (v : (List T_lecternref10_Spot) × Bool × Int) s' => match v with | (a159, a161, a162) => ∃ g160 : Nat, g160 ≠ 0 ∧ OK h [(g160, .room), (i138, .cells [.sl 2 (List.map c_T_lecternref10_Spot a159) g160, .bool a161]), (g88, .room)] ∧ WS s' ⟨mkSl 84 [(4, .iptr (c_T_lecternref10_Spot p1)), (5, .iptr (c_T_lecternref10_Spot p2)), (8, .sl 2 (List.map c_T_lecternref10_Stroke a87) g88), (11, .ptr i138 0), (16, .sl 2 (List.map c_T_lecternref10_Stroke p0) 0), (17, .int .i64 (p0.length : Int)), (18, .int .i64 a89), (26, .sl 2 (List.map c_T_lecternref10_Spot x136.Spots) 0), (27, .int .i64 (x136.Spots.length : Int)), (28, .int .i64 a162)], Hp h [(g160, .room), (i138, .cells [.sl 2 (List.map c_T_lecternref10_Spot a159) g160, .bool a161]), (g88, .room)]⟩) ?_ ?_
            ·
              have hwo : WO [(r139, .room), (i138, .cells [.sl 2 (List.map c_T_lecternref10_Spot ([] : List T_lecternref10_Spot)) r139, .bool x136.Closed]), (i137, .cells [.sl 2 (List.map c_T_lecternref10_Spot x136.Spots) 0, .bool x136.Closed]), (g88, .room)] [(r139, .room), (i138, .cells [.sl 2 (List.map c_T_lecternref10_Spot ([] : List T_lecternref10_Spot)) r139, .bool x136.Closed]), (g88, .room)] := (.keep (.keep (.drop (.keep .nil))))
              exact ⟨r139, hr139, (hwo.spec ok).1, WS.mk' (.cons (.refl _) (.cons (.refl _) (.cons (.refl _) (.cons (.refl _) (.cons (.refl _) (.cons (.refl _) (.cons (.refl _) (.cons (.refl _) (.cons (.refl _) (.cons (.refl _) .nil)))))))))) ok hwo⟩
            ·
              rintro G163 hG164 rec165 ⟨a159, a161, a162⟩ s' ih166 hF ⟨g160, hg160, ok, hws⟩
              refine WP_ws hws ?_
              clear hws s'
              rw [F_lecternref10_Turn_l1] at hF
              refine C_seq ?_
              refine C_reg (mdl []) ?_
              refine S_bin rfl rfl (ev_lss ..) ?_
              refine S_nil ?_
              refine C_seq ?_
              refine C_if (b := (decide (a162 < (x136.Spots.length : Int)))) rfl hF (fun hb167 hF => ?_) (fun hb167 hF => ?_)
              ·
                refine WP_skip ?_
                refine C_seq ?_
                refine WP_block ?_
                refine C_seq ?_
                refine C_reg (mdl [(13, 1)]) ?_
                refine S_ix rfl rfl ty_sl_78 ty_sz_52 hF (fun x168 _ hF => ?_)
                refine S_ldQ rfl (p_agg (vs := c_T_lecternref10_Spot x168) ty_ag_52 ty_sz_52 rfl rfl) ?_
                refine S_all1 ok rfl ty_zc_52 ?_
                intro i169 hi169 ok
                refine S_st (j := 0) (cs' := [.int .i64 x168.X, .int .i64 x168.Y]) ok rfl rfl rfl hi169 rfl ty_sz_52 rfl rfl (fun ok => ?_)
                refine S_nil ?_
                refine C_seq ?_
                refine C_reg (mdl [(14, 1)]) ?_
                refine S_faP rfl ty_fd_52_0 ty_sz_3 ?_
                refine S_ldP (j := 0) ok rfl rfl rfl hi169 (p_one (v := .int .i64 x168.X) ty_ag_3 ty_sz_3 rfl) ?_
                refine S_faQ rfl ty_fd_52_0 ty_sz_3 rfl ?_
                refine S_ldQ rfl (p_one ty_ag_3 ty_sz_3 rfl) ?_
                refine S_bin rfl rfl (ev_mul ..) ?_
                refine S_faP rfl ty_fd_52_1 ty_sz_3 ?_
                refine S_ldP (j := 0) ok rfl rfl rfl hi169 (p_one (v := .int .i64 x168.Y) ty_ag_3 ty_sz_3 rfl) ?_
                refine S_faQ rfl ty_fd_52_1 ty_sz_3 rfl ?_
                refine S_ldQ rfl (p_one ty_ag_3 ty_sz_3 rfl) ?_
                refine S_bin rfl rfl (ev_mul ..) ?_
                refine S_bin rfl rfl (ev_sub ..) ?_
                refine S_faQ rfl ty_fd_52_0 ty_sz_3 rfl ?_
                refine S_ldQ rfl (p_one ty_ag_3 ty_sz_3 rfl) ?_
                refine S_bin rfl rfl (ev_add ..) ?_
                refine S_faP rfl ty_fd_52_0 ty_sz_3 ?_
                refine S_ldP (j := 0) ok rfl rfl rfl hi169 (p_one (v := .int .i64 x168.X) ty_ag_3 ty_sz_3 rfl) ?_
                refine S_faQ rfl ty_fd_52_1 ty_sz_3 rfl ?_
                refine S_ldQ rfl (p_one ty_ag_3 ty_sz_3 rfl) ?_
                refine S_bin rfl rfl (ev_mul ..) ?_
                refine S_faP rfl ty_fd_52_1 ty_sz_3 ?_
                refine S_ldP (j := 0) ok rfl rfl rfl hi169 (p_one (v := .int .i64 x168.Y) ty_ag_3 ty_sz_3 rfl) ?_
                refine S_faQ rfl ty_fd_52_0 ty_sz_3 rfl ?_
                refine S_ldQ rfl (p_one ty_ag_3 ty_sz_3 rfl) ?_
                refine S_bin rfl rfl (ev_mul ..) ?_
                refine S_bin rfl rfl (ev_add ..) ?_
                refine S_faQ rfl ty_fd_52_1 ty_sz_3 rfl ?_
                refine S_ldQ rfl (p_one ty_ag_3 ty_sz_3 rfl) ?_
                refine S_bin rfl rfl (ev_add ..) ?_
                refine S_bld (v := .agg (c_T_lecternref10_Spot (⟨(IntKind.wrap .i64 ((IntKind.wrap .i64 ((IntKind.wrap .i64 (x168.X * p1.X)) - (IntKind.wrap .i64 (x168.Y * p1.Y)))) + p2.X)), (IntKind.wrap .i64 ((IntKind.wrap .i64 ((IntKind.wrap .i64 (x168.X * p1.Y)) + (IntKind.wrap .i64 (x168.Y * p1.X)))) + p2.Y))⟩ : T_lecternref10_Spot))) (b_st ty_zc_52 ty_pl_52 rfl) ?_
                refine S_all1 ok rfl ty_zc_52 ?_
                intro i170 hi170 ok
                refine S_st (j := 0) (cs' := [.int .i64 (⟨(IntKind.wrap .i64 ((IntKind.wrap .i64 ((IntKind.wrap .i64 (x168.X * p1.X)) - (IntKind.wrap .i64 (x168.Y * p1.Y)))) + p2.X)), (IntKind.wrap .i64 ((IntKind.wrap .i64 ((IntKind.wrap .i64 (x168.X * p1.Y)) + (IntKind.wrap .i64 (x168.Y * p1.X)))) + p2.Y))⟩ : T_lecternref10_Spot).X, .int .i64 (⟨(IntKind.wrap .i64 ((IntKind.wrap .i64 ((IntKind.wrap .i64 (x168.X * p1.X)) - (IntKind.wrap .i64 (x168.Y * p1.Y)))) + p2.X)), (IntKind.wrap .i64 ((IntKind.wrap .i64 ((IntKind.wrap .i64 (x168.X * p1.Y)) + (IntKind.wrap .i64 (x168.Y * p1.X)))) + p2.Y))⟩ : T_lecternref10_Spot).Y]) ok rfl rfl rfl hi170 rfl ty_sz_52 rfl rfl (fun ok => ?_)
                refine S_nil ?_
                refine C_seq ?_
                refine C_seq ?_
                refine C_reg (mdl []) ?_
                refine S_faP rfl ty_fd_52_0 ty_sz_3 ?_
                refine S_ldP (j := 0) ok rfl rfl rfl hi170 (p_one (v := .int .i64 (⟨(IntKind.wrap .i64 ((IntKind.wrap .i64 ((IntKind.wrap .i64 (x168.X * p1.X)) - (IntKind.wrap .i64 (x168.Y * p1.Y)))) + p2.X)), (IntKind.wrap .i64 ((IntKind.wrap .i64 ((IntKind.wrap .i64 (x168.X * p1.Y)) + (IntKind.wrap .i64 (x168.Y * p1.X)))) + p2.Y))⟩ : T_lecternref10_Spot).X) ty_ag_3 ty_sz_3 rfl) ?_
                refine S_call (F_lecternref10_part_ok _ hF fun x171 _ hF => ?_) (.cons (.refl _) (.nil))
                refine S_un rfl (ev_not _) ?_
                refine S_m (v := .bool _) rfl ?_
                refine S_twoJ 5 70 hF (fun J173 hb172 hF => ?_) (fun J173 hb172 hF => ?_) (fun v174 hF => ?_)
                ·
                  refine S_off rfl rfl hb172 ?_
                  refine S_offD ?_
                  refine S_off rfl rfl hb172 ?_
                  refine S_offD ?_
                  refine S_off rfl rfl hb172 ?_
                  refine S_offD ?_
                  refine S_off rfl rfl hb172 ?_
                  refine S_offD ?_
                  refine S_pickT (v := .bool _) rfl hb172 rfl ?_
                  refine S_nil ?_
                  refine ⟨_, hF, .hd (.refl _) ?_⟩
                  repeat (first | with_reducible exact WS.refl _ | refine WS.add ?_ rfl)
                ·
                  refine S_on rfl rfl hb172 ?_
                  refine S_in ?_
                  refine S_faP rfl ty_fd_52_1 ty_sz_3 ?_
                  refine S_nil ?_
                  refine S_on rfl rfl hb172 ?_
                  refine S_in ?_
                  refine S_ldP (j := 0) ok rfl rfl rfl hi170 (p_one (v := .int .i64 (⟨(IntKind.wrap .i64 ((IntKind.wrap .i64 ((IntKind.wrap .i64 (x168.X * p1.X)) - (IntKind.wrap .i64 (x168.Y * p1.Y)))) + p2.X)), (IntKind.wrap .i64 ((IntKind.wrap .i64 ((IntKind.wrap .i64 (x168.X * p1.Y)) + (IntKind.wrap .i64 (x168.Y * p1.X)))) + p2.Y))⟩ : T_lecternref10_Spot).Y) ty_ag_3 ty_sz_3 rfl) ?_
                  refine S_nil ?_
                  refine S_on rfl rfl hb172 ?_
                  refine S_in ?_
                  refine S_call (F_lecternref10_part_ok _ hF fun x175 _ hF => ?_) (.cons (.refl _) (.nil))
                  refine S_nil ?_
                  refine S_on rfl rfl hb172 ?_
                  refine S_in ?_
                  refine S_un rfl (ev_not _) ?_
                  refine S_nil ?_
                  refine S_pickF (v := .bool _) rfl hb172 rfl ?_
                  refine S_nil ?_
                  refine ⟨_, hF, .hd (.refl _) ?_⟩
                  repeat (first | with_reducible exact WS.refl _ | refine WS.add ?_ rfl)
                ·
                  refine S_nil ?_
                  refine C_if (b := v174) rfl hF (fun hb176 hF => ?_) (fun hb176 hF => ?_)
                  ·
                    refine C_seq ?_
                    refine C_reg (mdl []) ?_
                    refine S_a (v := .snil) rfl ?_
                    refine S_one 6 (v := .sl 2 (List.map c_T_lecternref10_Stroke ([] : List T_lecternref10_Stroke)) 0) (.nil _) ?_
                    refine S_a (v := .bool _) rfl ?_
                    refine S_nil ?_
                    refine WP_ret ?_
                    replace hF := hG164 _ (F_some hF)
                    replace hF := hG91 _ (F_some hF)
                    repeat (first | with_reducible refine Exit.sel_ret ?_ | with_reducible refine Exit.blk_ret ?_ | with_reducible refine Exit.jmp_ret ?_)
                    refine C_ret (fn := Tryd.f28) rfl (.tmp (v := .sl 2 (List.map c_T_lecternref10_Stroke ([] : List T_lecternref10_Stroke)) 0) rfl (.tmp (v := .bool false) rfl .nil)) ?_
                    exact ⟨_, _, (.tupC (.cons (.refl _) (.cons (.refl _) (.nil)))), ok.wh, _, F_some hF, rfl, rfl⟩
                  ·
                    refine WP_skip ?_
                    refine C_reg (mdl [(75, 2)]) ?_
                    refine S_faP rfl ty_fd_80_0 ty_sz_78 ?_
                    refine S_ldP (j := 3) ok rfl rfl rfl hi138 (p_one (v := .sl 2 (List.map c_T_lecternref10_Spot a159) g160) ty_ag_78 ty_sz_78 rfl) ?_
                    refine S_ldP (j := 0) ok rfl rfl rfl hi170 (p_agg (vs := c_T_lecternref10_Spot (⟨(IntKind.wrap .i64 ((IntKind.wrap .i64 ((IntKind.wrap .i64 (x168.X * p1.X)) - (IntKind.wrap .i64 (x168.Y * p1.Y)))) + p2.X)), (IntKind.wrap .i64 ((IntKind.wrap .i64 ((IntKind.wrap .i64 (x168.X * p1.Y)) + (IntKind.wrap .i64 (x168.Y * p1.X)))) + p2.Y))⟩ : T_lecternref10_Spot)) ty_ag_52 ty_sz_52 rfl rfl) ?_
                    refine S_lit0 (cs := [.int .i64 (⟨(IntKind.wrap .i64 ((IntKind.wrap .i64 ((IntKind.wrap .i64 (x168.X * p1.X)) - (IntKind.wrap .i64 (x168.Y * p1.Y)))) + p2.X)), (IntKind.wrap .i64 ((IntKind.wrap .i64 ((IntKind.wrap .i64 (x168.X * p1.Y)) + (IntKind.wrap .i64 (x168.Y * p1.X)))) + p2.Y))⟩ : T_lecternref10_Spot).X, .int .i64 (⟨(IntKind.wrap .i64 ((IntKind.wrap .i64 ((IntKind.wrap .i64 (x168.X * p1.X)) - (IntKind.wrap .i64 (x168.Y * p1.Y)))) + p2.X)), (IntKind.wrap .i64 ((IntKind.wrap .i64 ((IntKind.wrap .i64 (x168.X * p1.Y)) + (IntKind.wrap .i64 (x168.Y * p1.X)))) + p2.Y))⟩ : T_lecternref10_Spot).Y]) (es := (List.map c_T_lecternref10_Spot [(⟨(IntKind.wrap .i64 ((IntKind.wrap .i64 ((IntKind.wrap .i64 (x168.X * p1.X)) - (IntKind.wrap .i64 (x168.Y * p1.Y)))) + p2.X)), (IntKind.wrap .i64 ((IntKind.wrap .i64 ((IntKind.wrap .i64 (x168.X * p1.Y)) + (IntKind.wrap .i64 (x168.Y * p1.X)))) + p2.Y))⟩ : T_lecternref10_Spot)])) rfl ty_el_78 rfl (by kernel_rfl) (by kernel_rfl) ?_
                    refine S_app (j := 2) ok rfl rfl rfl rfl hg160 ty_el_78 ty_ni_78 hF ?_
                    intro r177 hr177 ok hF
                    refine S_faP rfl ty_fd_80_0 ty_sz_78 ?_
                    refine S_st (j := 3) (cs' := [.sl 2 (List.map c_T_lecternref10_Spot (a159 ++ [(⟨(IntKind.wrap .i64 ((IntKind.wrap .i64 ((IntKind.wrap .i64 (x168.X * p1.X)) - (IntKind.wrap .i64 (x168.Y * p1.Y)))) + p2.X)), (IntKind.wrap .i64 ((IntKind.wrap .i64 ((IntKind.wrap .i64 (x168.X * p1.Y)) + (IntKind.wrap .i64 (x168.Y * p1.X)))) + p2.Y))⟩ : T_lecternref10_Spot)])) r177, .bool a161]) ok rfl rfl rfl hi138 rfl ty_sz_78 rfl rfl (fun ok => ?_)
                    refine S_nil ?_
                    refine C_reg (mdl []) ?_
                    refine S_bin rfl rfl (ev_add ..) ?_
                    refine S_m (v := .int _ _) rfl ?_
                    refine S_nil ?_
                    refine ih166 ((a159 ++ [(⟨(IntKind.wrap .i64 ((IntKind.wrap .i64 ((IntKind.wrap .i64 (x168.X * p1.X)) - (IntKind.wrap .i64 (x168.Y * p1.Y)))) + p2.X)), (IntKind.wrap .i64 ((IntKind.wrap .i64 ((IntKind.wrap .i64 (x168.X * p1.Y)) + (IntKind.wrap .i64 (x168.Y * p1.X)))) + p2.Y))⟩ : T_lecternref10_Spot)]), a161, (IntKind.wrap .i64 (a162 + (1 : Int)))) _ hF ?_
                    have hwo : WO [(i170, .cells [.int .i64 (⟨(IntKind.wrap .i64 ((IntKind.wrap .i64 ((IntKind.wrap .i64 (x168.X * p1.X)) - (IntKind.wrap .i64 (x168.Y * p1.Y)))) + p2.X)), (IntKind.wrap .i64 ((IntKind.wrap .i64 ((IntKind.wrap .i64 (x168.X * p1.Y)) + (IntKind.wrap .i64 (x168.Y * p1.X)))) + p2.Y))⟩ : T_lecternref10_Spot).X, .int .i64 (⟨(IntKind.wrap .i64 ((IntKind.wrap .i64 ((IntKind.wrap .i64 (x168.X * p1.X)) - (IntKind.wrap .i64 (x168.Y * p1.Y)))) + p2.X)), (IntKind.wrap .i64 ((IntKind.wrap .i64 ((IntKind.wrap .i64 (x168.X * p1.Y)) + (IntKind.wrap .i64 (x168.Y * p1.X)))) + p2.Y))⟩ : T_lecternref10_Spot).Y]), (i169, .cells [.int .i64 x168.X, .int .i64 x168.Y]), (r177, .room), (i138, .cells [.sl 2 (List.map c_T_lecternref10_Spot (a159 ++ [(⟨(IntKind.wrap .i64 ((IntKind.wrap .i64 ((IntKind.wrap .i64 (x168.X * p1.X)) - (IntKind.wrap .i64 (x168.Y * p1.Y)))) + p2.X)), (IntKind.wrap .i64 ((IntKind.wrap .i64 ((IntKind.wrap .i64 (x168.X * p1.Y)) + (IntKind.wrap .i64 (x168.Y * p1.X)))) + p2.Y))⟩ : T_lecternref10_Spot)])) r177, .bool a161]), (g88, .room)] [(r177, .room), (i138, .cells [.sl 2 (List.map c_T_lecternref10_Spot (a159 ++ [(⟨(IntKind.wrap .i64 ((IntKind.wrap .i64 ((IntKind.wrap .i64 (x168.X * p1.X)) - (IntKind.wrap .i64 (x168.Y * p1.Y)))) + p2.X)), (IntKind.wrap .i64 ((IntKind.wrap .i64 ((IntKind.wrap .i64 (x168.X * p1.Y)) + (IntKind.wrap .i64 (x168.Y * p1.X)))) + p2.Y))⟩ : T_lecternref10_Spot)])) r177, .bool a161]), (g88, .room)] := (.drop (.drop (.keep (.keep (.keep .nil)))))
                    exact ⟨r177, hr177, (hwo.spec ok).1, WS.mk' (.cons (.refl _) (.cons (.refl _) (.cons (.refl _) (.cons (.refl _) (.cons (.refl _) (.cons (.refl _) (.cons (.refl _) (.cons (.refl _) (.cons (.refl _) (.cons (.refl _) .nil)))))))))) ok hwo⟩
              ·
                refine WP_exit ?_
                simp only [Exit.sel, Exit.blk, Exit.jmp, if_true, if_false, reduceIte, Nat.reduceEqDiff, Nat.succ_ne_zero, Nat.zero_ne_one, Nat.one_ne_zero]
                replace hF := hG164 _ (F_some hF)
                have hwo : WO [(g160, .room), (i138, .cells [.sl 2 (List.map c_T_lecternref10_Spot a159) g160, .bool a161]), (g88, .room)] [(g160, .room), (i138, .cells [.sl 2 (List.map c_T_lecternref10_Spot a159) g160, .bool a161]), (g88, .room)] := (.keep (.keep (.keep .nil)))
                exact ⟨(a159, a161), hF, g160, hg160, (hwo.spec ok).1, WS.mk' (.cons (.refl _) (.cons (.refl _) (.cons (.refl _) (.cons (.refl _) (.cons (.refl _) (.cons (.refl _) (.cons (.refl _) .nil))))))) ok hwo⟩
          ·
            rintro ⟨a155, a157⟩ s' hF ⟨g156, hg156, ok, hws⟩
            refine WP_ws hws ?_
            clear hws s'
            refine C_reg (mdl [(81, 2)]) ?_
            refine S_m (v := .sl _ _ _) rfl ?_
            refine S_ldP (j := 1) ok rfl rfl rfl hi138 (p_agg (vs := [.sl 2 (List.map c_T_lecternref10_Spot a155) g156, .bool a157]) ty_ag_80 ty_sz_80 rfl rfl) ?_
            refine S_one 79 (v := .agg (c_T_lecternref10_Stroke (⟨a155, a157⟩ : T_lecternref10_Stroke))) (.aggC (.cons (.zero _ _ _) (.cons (.refl _) (.nil)))) ?_
            refine S_lit0 (cs := [.sl 2 (List.map c_T_lecternref10_Spot (⟨a155, a157⟩ : T_lecternref10_Stroke).Spots) 0, .bool (⟨a155, a157⟩ : T_lecternref10_Stroke).Closed]) (es := (List.map c_T_lecternref10_Stroke [(⟨a155, a157⟩ : T_lecternref10_Stroke)])) rfl ty_el_27 rfl (by kernel_rfl) (by kernel_rfl) ?_
            refine S_app (j := 2) ok rfl rfl rfl rfl hg88 ty_el_27 ty_ni_27 hF ?_
            intro r178 hr178 ok hF
            refine S_a (v := .sl _ _ _) rfl ?_
            refine S_nil ?_
            have hwo : WO [(g156, .room), (i138, .cells [.sl 2 (List.map c_T_lecternref10_Spot a155) g156, .bool a157]), (r178, .room)] [(r178, .room)] := (.drop (.drop (.keep .nil)))
            exact ⟨(a87 ++ [(⟨a155, a157⟩ : T_lecternref10_Stroke)]), hF, r178, hr178, (hwo.spec ok).1, WS.mk' (.cons (.refl _) (.cons (.refl _) (.cons (.refl _) (.cons (.refl _) (.cons (.refl _) (.cons (.refl _) .nil)))))) ok hwo⟩
        ·
          rintro a133 s' hF ⟨g134, hg134, ok, hws⟩
          refine WP_ws hws ?_
          clear hws s'
          refine C_reg (mdl []) ?_
          refine S_bin rfl rfl (ev_add ..) ?_
          refine S_m (v := .int _ _) rfl ?_
          refine S_nil ?_
          refine ih93 (a133, (IntKind.wrap .i64 (a89 + (1 : Int)))) _ hF ?_
          have hwo : WO [(g134, .room)] [(g134, .room)] := (.keep .nil)
          exact ⟨g134, hg134, (hwo.spec ok).1, WS.mk' (.cons (.refl _) (.cons (.refl _) (.cons (.refl _) (.cons (.refl _) (.cons (.refl _) (.cons (.refl _) .nil)))))) ok hwo⟩
      ·
        refine WP_exit ?_
        simp only [Exit.sel, Exit.blk, Exit.jmp, if_true, if_false, reduceIte, Nat.reduceEqDiff, Nat.succ_ne_zero, Nat.zero_ne_one, Nat.one_ne_zero]
        replace hF := hG91 _ (F_some hF)
        have hwo : WO [(g88, .room)] [(g88, .room)] := (.keep .nil)
        exact ⟨a87, hF, g88, hg88, (hwo.spec ok).1, WS.mk' (.cons (.refl _) .nil) ok hwo⟩
  ·
    rintro a84 s' hF ⟨g85, hg85, ok, hws⟩
    refine WP_ws hws ?_
    clear hws s'
    refine C_seq ?_
    refine C_reg (mdl []) ?_
    refine S_m (v := .sl _ _ _) rfl ?_
    refine S_one 83 (v := .sl 2 (List.map c_T_lecternref10_Stroke a84) 0) (.zero _ _ _) ?_
    refine S_a (v := .sl _ _ _) rfl ?_
    refine S_a (v := .bool _) rfl ?_
    refine S_nil ?_
    refine WP_ret ?_
    repeat (first | with_reducible refine Exit.sel_ret ?_ | with_reducible refine Exit.blk_ret ?_ | with_reducible refine Exit.jmp_ret ?_)
    refine C_ret (fn := Tryd.f28) rfl (.tmp (v := .sl 2 (List.map c_T_lecternref10_Stroke a84) 0) rfl (.tmp (v := .bool true) rfl .nil)) ?_
    exact ⟨_, _, (.tupC (.cons (.refl _) (.cons (.refl _) (.nil)))), ok.wh, _, F_some hF, rfl, rfl⟩
theorem F_lecternref10_Turn_ok {β : Type} {f : (List T_lecternref10_Stroke) × Bool → Option β} {G : β → Prop} {R : D → Heap → Prop} {p0 : List T_lecternref10_Stroke} {p1 : T_lecternref10_Spot} {p2 : T_lecternref10_Spot} (h : Heap) (hF : OptP ((F_lecternref10_Turn p0 p1 p2).bind f) G) (hk : ∀ r, F_lecternref10_Turn p0 p1 p2 = some r → OptP (f r) G → R (.tup [.sl 2 (List.map c_T_lecternref10_Stroke r.1) 0, .bool r.2]) h) : CallsA Tryd.prog 28 [.sl 2 (List.map c_T_lecternref10_Stroke p0) 0, .agg (c_T_lecternref10_Spot p1), .agg (c_T_lecternref10_Spot p2)] h R := by
  obtain ⟨r0, hr, hF⟩ := F_bind hF
  refine (F_lecternref10_Turn_w (G := fun r => r = r0) p0 p1 p2 h ⟨r0, hr, rfl⟩).mono ?_
  rintro _ _ ⟨r, rfl, rfl, rfl⟩
  exact hk _ hr hF
theorem F_lecternlaw10_TraceTurns_w (p0 : List T_lecternlaw10_Line) (p1 : Int) (p2 : Int) (p3 : Int) (p4 : Int) {G : Bool → Prop} (h : Heap) (hF : OptP (F_lecternlaw10_TraceTurns p0 p1 p2 p3 p4) G) : CallsA Tryd.prog 9 [.sl 2 (List.map c_T_lecternlaw10_Line p0) 0, .int .i64 p1, .int .i64 p2, .int .i64 p3, .int .i64 p4] h fun d h' => ∃ r, G r ∧ d = .bool r := by
  refine CallsA.ret ?_
  refine C_body Tryd.func9 rfl en_9 Tryd.ntmps9 rfl (fun ok => ?_)
  rw [F_lecternlaw10_TraceTurns] at hF
  refine C_seq ?_
  refine C_reg (mdl []) ?_
  refine S_a (v := .bool _) rfl ?_
  refine S_nil ?_
  refine C_seq ?_
  refine C_seq ?_
  refine C_reg (mdl []) ?_
  refine S_call (F_lecternlaw10_awake_ok _ hF fun x1 _ hF => ?_) (.nil)
  refine S_un rfl (ev_not _) ?_
  refine S_nil ?_
  refine C_if (b := (!x1)) rfl hF (fun hb2 hF => ?_) (fun hb2 hF => ?_)
  ·
    refine C_seq ?_
    refine C_reg (mdl []) ?_
    refine S_a (v := .bool _) rfl ?_
    refine S_nil ?_
    refine WP_ret ?_
    repeat (first | with_reducible refine Exit.sel_ret ?_ | with_reducible refine Exit.blk_ret ?_ | with_reducible refine Exit.jmp_ret ?_)
    refine C_ret (fn := Tryd.f9) rfl (.tmp (v := .bool false) rfl .nil) ?_
    exact ⟨_, _, (.refl _), WH.refl _, _, F_some hF, rfl⟩
  ·
    refine WP_skip ?_
    refine C_seq ?_
    refine C_reg (mdl []) ?_
    refine S_m (v := .sl _ _ _) rfl ?_
    refine S_call (F_lecternlaw10_figure_ok _ hF fun x3 _ hF => ?_) (.cons (.refl _) (.nil))
    refine S_m (v := .tup _) rfl ?_
    refine S_ext rfl rfl ?_
    refine S_ext rfl rfl ?_
    refine S_ext rfl rfl ?_
    refine S_a (v := .sl _ _ _) rfl ?_
    refine S_a (v := .sl _ _ _) rfl ?_
    refine S_a (v := .bool _) rfl ?_
    refine S_nil ?_
    refine C_seq ?_
    refine C_reg (mdl []) ?_
    refine S_m (v := .sl _ _ _) rfl ?_
    refine S_m (v := .int _ _) rfl ?_
    refine S_m (v := .int _ _) rfl ?_
    refine S_call (F_lecternlaw10_spot_ok _ hF fun x4 _ hF => ?_) (.cons (.refl _) (.cons (.refl _) (.nil)))
    refine S_m (v := .int _ _) rfl ?_
    refine S_m (v := .int _ _) rfl ?_
    refine S_call (F_lecternlaw10_spot_ok _ hF fun x5 _ hF => ?_) (.cons (.refl _) (.cons (.refl _) (.nil)))
    refine S_call (F_trace_Turn_ok _ hF fun x6 _ hF => ?_) (.cons (.refl _) (.cons (.refl _) (.cons (.refl _) (.nil))))
    refine S_m (v := .tup _) rfl ?_
    refine S_ext rfl rfl ?_
    refine S_ext rfl rfl ?_
    refine S_a (v := .sl _ _ _) rfl ?_
    refine S_a (v := .int _ _) rfl ?_
    refine S_nil ?_
    refine C_seq ?_
    refine C_reg (mdl []) ?_
    refine S_m (v := .sl _ _ _) rfl ?_
    refine S_call (F_trace_Box_ok _ hF fun x7 _ hF => ?_) (.cons (.refl _) (.nil))
    refine S_m (v := .tup _) rfl ?_
    refine S_ext rfl rfl ?_
    refine S_ext rfl rfl ?_
    refine S_ext rfl rfl ?_
    refine S_a (v := .cplx _ _ _) rfl ?_
    refine S_a (v := .cplx _ _ _) rfl ?_
    refine S_a (v := .int _ _) rfl ?_
    refine S_nil ?_
    refine C_seq ?_
    refine C_seq ?_
    refine C_reg (mdl []) ?_
    refine S_m (v := .bool _) rfl ?_
    refine S_un rfl (ev_not _) ?_
    refine S_nil ?_
    refine C_if (b := (!x3.2.2)) rfl hF (fun hb8 hF => ?_) (fun hb8 hF => ?_)
    ·
      refine C_seq ?_
      refine C_reg (mdl []) ?_
      refine S_m (v := .int _ _) rfl ?_
      refine S_bin rfl rfl (ev_eql ..) ?_
      refine S_m (v := .bool _) rfl ?_
      refine S_two (b := (x6.2 == (1 : Int))) 4 54 (.bool ((x6.2 == (1 : Int)) && ((x6.1.length : Int) == (0 : Int)))) (fun hb9 => ?_) (fun hb9 => ?_) ?_
      ·
        refine S_on rfl rfl hb9 ?_
        refine S_in ?_
        refine S_m (v := .sl _ _ _) rfl ?_
        refine S_nil ?_
        refine S_on rfl rfl hb9 ?_
        refine S_in ?_
        refine S_lenL rfl ty_sl_23 ?_
        refine S_nil ?_
        refine S_on rfl rfl hb9 ?_
        refine S_in ?_
        refine S_bin rfl rfl (ev_eql ..) ?_
        refine S_nil ?_
        refine S_pickT (v := .bool _) rfl hb9 rfl ?_
        refine S_nil ?_
        refine .hd (and_t hb9) ?_
        repeat (first | with_reducible exact WS.refl _ | refine WS.add ?_ rfl)
      ·
        refine S_off rfl rfl hb9 ?_
        refine S_offD ?_
        refine S_off rfl rfl hb9 ?_
        refine S_offD ?_
        refine S_off rfl rfl hb9 ?_
        refine S_offD ?_
        refine S_pickF (v := .bool _) rfl hb9 rfl ?_
        refine S_nil ?_
        refine .hd (and_f hb9) ?_
        repeat (first | with_reducible exact WS.refl _ | refine WS.add ?_ rfl)
      refine S_m (v := .bool _) rfl ?_
      refine S_two (b := ((x6.2 == (1 : Int)) && ((x6.1.length : Int) == (0 : Int)))) 3 58 (.bool (((x6.2 == (1 : Int)) && ((x6.1.length : Int) == (0 : Int))) && (x7.2.2 == (1 : Int)))) (fun hb10 => ?_) (fun hb10 => ?_) ?_
      ·
        refine S_on rfl rfl hb10 ?_
        refine S_in ?_
        refine S_m (v := .int _ _) rfl ?_
        refine S_nil ?_
        refine S_on rfl rfl hb10 ?_
        refine S_in ?_
        refine S_bin rfl rfl (ev_eql ..) ?_
        refine S_nil ?_
        refine S_pickT (v := .bool _) rfl hb10 rfl ?_
        refine S_nil ?_
        refine .hd (and_t hb10) ?_
        repeat (first | with_reducible exact WS.refl _ | refine WS.add ?_ rfl)
      ·
        refine S_off rfl rfl hb10 ?_
        refine S_offD ?_
        refine S_off rfl rfl hb10 ?_
        refine S_offD ?_
        refine S_pickF (v := .bool _) rfl hb10 rfl ?_
        refine S_nil ?_
        refine .hd (and_f hb10) ?_
        repeat (first | with_reducible exact WS.refl _ | refine WS.add ?_ rfl)
      refine S_m (v := .bool _) rfl ?_
      refine S_two (b := (((x6.2 == (1 : Int)) && ((x6.1.length : Int) == (0 : Int))) && (x7.2.2 == (1 : Int)))) 3 62 (.bool ((((x6.2 == (1 : Int)) && ((x6.1.length : Int) == (0 : Int))) && (x7.2.2 == (1 : Int))) && (ceq x7.1 ((0, 0) : Nat × Nat)))) (fun hb11 => ?_) (fun hb11 => ?_) ?_
      ·
        refine S_on rfl rfl hb11 ?_
        refine S_in ?_
        refine S_m (v := .cplx _ _ _) rfl ?_
        refine S_nil ?_
        refine S_on rfl rfl hb11 ?_
        refine S_in ?_
        refine S_bin rfl rfl (e_ceq (a := x7.1) (b := ((0, 0) : Nat × Nat))) ?_
        refine S_nil ?_
        refine S_pickT (v := .bool _) rfl hb11 rfl ?_
        refine S_nil ?_
        refine .hd (and_t hb11) ?_
        repeat (first | with_reducible exact WS.refl _ | refine WS.add ?_ rfl)
      ·
        refine S_off rfl rfl hb11 ?_
        refine S_offD ?_
        refine S_off rfl rfl hb11 ?_
        refine S_offD ?_
        refine S_pickF (v := .bool _) rfl hb11 rfl ?_
        refine S_nil ?_
        refine .hd (and_f hb11) ?_
        repeat (first | with_reducible exact WS.refl _ | refine WS.add ?_ rfl)
      refine S_m (v := .bool _) rfl ?_
      refine S_two (b := ((((x6.2 == (1 : Int)) && ((x6.1.length : Int) == (0 : Int))) && (x7.2.2 == (1 : Int))) && (ceq x7.1 ((0, 0) : Nat × Nat)))) 3 66 (.bool (((((x6.2 == (1 : Int)) && ((x6.1.length : Int) == (0 : Int))) && (x7.2.2 == (1 : Int))) && (ceq x7.1 ((0, 0) : Nat × Nat))) && (ceq x7.2.1 ((0, 0) : Nat × Nat)))) (fun hb12 => ?_) (fun hb12 => ?_) ?_
      ·
        refine S_on rfl rfl hb12 ?_
        refine S_in ?_
        refine S_m (v := .cplx _ _ _) rfl ?_
        refine S_nil ?_
        refine S_on rfl rfl hb12 ?_
        refine S_in ?_
        refine S_bin rfl rfl (e_ceq (a := x7.2.1) (b := ((0, 0) : Nat × Nat))) ?_
        refine S_nil ?_
        refine S_pickT (v := .bool _) rfl hb12 rfl ?_
        refine S_nil ?_
        refine .hd (and_t hb12) ?_
        repeat (first | with_reducible exact WS.refl _ | refine WS.add ?_ rfl)
      ·
        refine S_off rfl rfl hb12 ?_
        refine S_offD ?_
        refine S_off rfl rfl hb12 ?_
        refine S_offD ?_
        refine S_pickF (v := .bool _) rfl hb12 rfl ?_
        refine S_nil ?_
        refine .hd (and_f hb12) ?_
        repeat (first | with_reducible exact WS.refl _ | refine WS.add ?_ rfl)
      refine S_a (v := .bool _) rfl ?_
      refine S_nil ?_
      refine WP_ret ?_
      repeat (first | with_reducible refine Exit.sel_ret ?_ | with_reducible refine Exit.blk_ret ?_ | with_reducible refine Exit.jmp_ret ?_)
      refine C_ret (fn := Tryd.f9) rfl (.tmp (v := .bool (((((x6.2 == (1 : Int)) && ((x6.1.length : Int) == (0 : Int))) && (x7.2.2 == (1 : Int))) && (ceq x7.1 ((0, 0) : Nat × Nat))) && (ceq x7.2.1 ((0, 0) : Nat × Nat)))) rfl .nil) ?_
      exact ⟨_, _, (.refl _), WH.refl _, _, F_some hF, rfl⟩
    ·
      refine WP_skip ?_
      refine C_join hF (fun (_ : Unit) s' => OK h [] ∧ WS s' ⟨mkSl 133 [(1, .int .i64 p1), (2, .int .i64 p2), (3, .int .i64 p3), (4, .int .i64 p4), (12, .sl 2 (List.map c_T_lecternref10_Stroke x3.2.1) 0), (14, .sl 2 (List.map c_T_trace_Stroke x6.1) 0), (15, .int .i64 x6.2)], Hp h []⟩) (fun J22 hF => ?_) ?_
      ·
        refine C_seq ?_
        refine C_reg (mdl []) ?_
        refine S_m (v := .sl _ _ _) rfl ?_
        refine S_lenL rfl ty_sl_27 ?_
        refine S_bin rfl rfl (ev_eql ..) ?_
        refine S_nil ?_
        refine C_if (b := ((x3.2.1.length : Int) == (0 : Int))) rfl hF (fun hb23 hF => ?_) (fun hb23 hF => ?_)
        ·
          refine C_seq ?_
          refine C_reg (mdl []) ?_
          refine S_m (v := .int _ _) rfl ?_
          refine S_bin rfl rfl (ev_neq ..) ?_
          refine S_m (v := .bool _) rfl ?_
          refine S_two (b := (x7.2.2 != (7 : Int))) 3 75 (.bool ((x7.2.2 != (7 : Int)) || (!(ceq x7.1 ((0, 0) : Nat × Nat))))) (fun hb24 => ?_) (fun hb24 => ?_) ?_
          ·
            refine S_off rfl rfl hb24 ?_
            refine S_offD ?_
            refine S_off rfl rfl hb24 ?_
            refine S_offD ?_
            refine S_pickT (v := .bool _) rfl hb24 rfl ?_
            refine S_nil ?_
            refine .hd (or_t hb24) ?_
            repeat (first | with_reducible exact WS.refl _ | refine WS.add ?_ rfl)
          ·
            refine S_on rfl rfl hb24 ?_
            refine S_in ?_
            refine S_m (v := .cplx _ _ _) rfl ?_
            refine S_nil ?_
            refine S_on rfl rfl hb24 ?_
            refine S_in ?_
            refine S_bin rfl rfl (e_cne (a := x7.1) (b := ((0, 0) : Nat × Nat))) ?_
            refine S_nil ?_
            refine S_pickF (v := .bool _) rfl hb24 rfl ?_
            refine S_nil ?_
            refine .hd (or_f hb24) ?_
            repeat (first | with_reducible exact WS.refl _ | refine WS.add ?_ rfl)
          refine S_m (v := .bool _) rfl ?_
          refine S_two (b := ((x7.2.2 != (7 : Int)) || (!(ceq x7.1 ((0, 0) : Nat × Nat))))) 3 79 (.bool (((x7.2.2 != (7 : Int)) || (!(ceq x7.1 ((0, 0) : Nat × Nat)))) || (!(ceq x7.2.1 ((0, 0) : Nat × Nat))))) (fun hb25 => ?_) (fun hb25 => ?_) ?_
          ·
            refine S_off rfl rfl hb25 ?_
            refine S_offD ?_
            refine S_off rfl rfl hb25 ?_
            refine S_offD ?_
            refine S_pickT (v := .bool _) rfl hb25 rfl ?_
            refine S_nil ?_
            refine .hd (or_t hb25) ?_
            repeat (first | with_reducible exact WS.refl _ | refine WS.add ?_ rfl)
          ·
            refine S_on rfl rfl hb25 ?_
            refine S_in ?_
            refine S_m (v := .cplx _ _ _) rfl ?_
            refine S_nil ?_
            refine S_on rfl rfl hb25 ?_
            refine S_in ?_
            refine S_bin rfl rfl (e_cne (a := x7.2.1) (b := ((0, 0) : Nat × Nat))) ?_
            refine S_nil ?_
            refine S_pickF (v := .bool _) rfl hb25 rfl ?_
            refine S_nil ?_
            refine .hd (or_f hb25) ?_
            repeat (first | with_reducible exact WS.refl _ | refine WS.add ?_ rfl)
          refine S_nil ?_
          refine C_if (b := (((x7.2.2 != (7 : Int)) || (!(ceq x7.1 ((0, 0) : Nat × Nat)))) || (!(ceq x7.2.1 ((0, 0) : Nat × Nat))))) rfl hF (fun hb26 hF => ?_) (fun hb26 hF => ?_)
          ·
            refine C_seq ?_
            refine C_reg (mdl []) ?_
            refine S_a (v := .bool _) rfl ?_
            refine S_nil ?_
            refine WP_ret ?_
            repeat (first | with_reducible refine Exit.sel_ret ?_ | with_reducible refine Exit.blk_ret ?_ | with_reducible refine Exit.jmp_ret ?_)
            refine C_ret (fn := Tryd.f9) rfl (.tmp (v := .bool false) rfl .nil) ?_
            exact ⟨_, _, (.refl _), WH.refl _, _, F_some hF, rfl⟩
          ·
            refine WP_skip ?_
            have hwo : WO [] [] := .nil
            exact ⟨(), hF, (hwo.spec ok).1, WS.mk' (.cons (.refl _) (.cons (.refl _) (.cons (.refl _) (.cons (.refl _) (.cons (.refl _) (.cons (.refl _) (.cons (.refl _) .nil))))))) ok hwo⟩
        ·
          refine C_seq ?_
          refine C_reg (mdl []) ?_
          refine S_m (v := .int _ _) rfl ?_
          refine S_bin rfl rfl (ev_neq ..) ?_
          refine S_m (v := .bool _) rfl ?_
          refine S_twoJ 6 88 hF (fun J28 hb27 hF => ?_) (fun J28 hb27 hF => ?_) (fun v29 hF => ?_)
          ·
            refine S_off rfl rfl hb27 ?_
            refine S_offD ?_
            refine S_off rfl rfl hb27 ?_
            refine S_offD ?_
            refine S_off rfl rfl hb27 ?_
            refine S_offD ?_
            refine S_off rfl rfl hb27 ?_
            refine S_offD ?_
            refine S_off rfl rfl hb27 ?_
            refine S_offD ?_
            refine S_pickT (v := .bool _) rfl hb27 rfl ?_
            refine S_nil ?_
            refine ⟨_, hF, .hd (.refl _) ?_⟩
            repeat (first | with_reducible exact WS.refl _ | refine WS.add ?_ rfl)
          ·
            refine S_on rfl rfl hb27 ?_
            refine S_in ?_
            refine S_m (v := .sl _ _ _) rfl ?_
            refine S_nil ?_
            refine S_on rfl rfl hb27 ?_
            refine S_in ?_
            refine S_m (v := .cplx _ _ _) rfl ?_
            refine S_nil ?_
            refine S_on rfl rfl hb27 ?_
            refine S_in ?_
            refine S_m (v := .cplx _ _ _) rfl ?_
            refine S_nil ?_
            refine S_on rfl rfl hb27 ?_
            refine S_in ?_
            refine S_call (F_lecternlaw10_boxed_ok _ hF fun x30 _ hF => ?_) (.cons (.refl _) (.cons (.refl _) (.cons (.refl _) (.nil))))
            refine S_nil ?_
            refine S_on rfl rfl hb27 ?_
            refine S_in ?_
            refine S_un rfl (ev_not _) ?_
            refine S_nil ?_
            refine S_pickF (v := .bool _) rfl hb27 rfl ?_
            refine S_nil ?_
            refine ⟨_, hF, .hd (.refl _) ?_⟩
            repeat (first | with_reducible exact WS.refl _ | refine WS.add ?_ rfl)
          ·
            refine S_nil ?_
            refine C_if (b := v29) rfl hF (fun hb31 hF => ?_) (fun hb31 hF => ?_)
            ·
              refine C_seq ?_
              refine C_reg (mdl []) ?_
              refine S_a (v := .bool _) rfl ?_
              refine S_nil ?_
              refine WP_ret ?_
              repeat (first | with_reducible refine Exit.sel_ret ?_ | with_reducible refine Exit.blk_ret ?_ | with_reducible refine Exit.jmp_ret ?_)
              refine C_ret (fn := Tryd.f9) rfl (.tmp (v := .bool false) rfl .nil) ?_
              exact ⟨_, _, (.refl _), WH.refl _, _, F_some hF, rfl⟩
            ·
              refine WP_skip ?_
              have hwo : WO [] [] := .nil
              exact ⟨(), hF, (hwo.spec ok).1, WS.mk' (.cons (.refl _) (.cons (.refl _) (.cons (.refl _) (.cons (.refl _) (.cons (.refl _) (.cons (.refl _) (.cons (.refl _) .nil))))))) ok hwo⟩
      ·
        rintro ⟨⟩ s' hF ⟨ok, hws⟩
        refine WP_ws hws ?_
        clear hws s'
        refine C_seq ?_
        refine C_seq ?_
        refine C_reg (mdl []) ?_
        refine S_m (v := .int _ _) rfl ?_
        refine S_m (v := .int _ _) rfl ?_
        refine S_call (F_lecternlaw10_fits_ok _ hF fun x32 _ hF => ?_) (.cons (.refl _) (.cons (.refl _) (.nil)))
        refine S_un rfl (ev_not _) ?_
        refine S_m (v := .bool _) rfl ?_
        refine S_twoJ 5 98 hF (fun J34 hb33 hF => ?_) (fun J34 hb33 hF => ?_) (fun v35 hF => ?_)
        ·
          refine S_off rfl rfl hb33 ?_
          refine S_offD ?_
          refine S_off rfl rfl hb33 ?_
          refine S_offD ?_
          refine S_off rfl rfl hb33 ?_
          refine S_offD ?_
          refine S_off rfl rfl hb33 ?_
          refine S_offD ?_
          refine S_pickT (v := .bool _) rfl hb33 rfl ?_
          refine S_nil ?_
          refine ⟨_, hF, .hd (.refl _) ?_⟩
          repeat (first | with_reducible exact WS.refl _ | refine WS.add ?_ rfl)
        ·
          refine S_on rfl rfl hb33 ?_
          refine S_in ?_
          refine S_m (v := .int _ _) rfl ?_
          refine S_nil ?_
          refine S_on rfl rfl hb33 ?_
          refine S_in ?_
          refine S_m (v := .int _ _) rfl ?_
          refine S_nil ?_
          refine S_on rfl rfl hb33 ?_
          refine S_in ?_
          refine S_call (F_lecternlaw10_fits_ok _ hF fun x36 _ hF => ?_) (.cons (.refl _) (.cons (.refl _) (.nil)))
          refine S_nil ?_
          refine S_on rfl rfl hb33 ?_
          refine S_in ?_
          refine S_un rfl (ev_not _) ?_
          refine S_nil ?_
          refine S_pickF (v := .bool _) rfl hb33 rfl ?_
          refine S_nil ?_
          refine ⟨_, hF, .hd (.refl _) ?_⟩
          repeat (first | with_reducible exact WS.refl _ | refine WS.add ?_ rfl)
        ·
          refine S_nil ?_
          refine C_if (b := v35) rfl hF (fun hb37 hF => ?_) (fun hb37 hF => ?_)
          ·
            refine C_seq ?_
            refine C_reg (mdl []) ?_
            refine S_m (v := .int _ _) rfl ?_
            refine S_bin rfl rfl (ev_eql ..) ?_
            refine S_m (v := .bool _) rfl ?_
            refine S_two (b := (x6.2 == (1 : Int))) 4 105 (.bool ((x6.2 == (1 : Int)) && ((x6.1.length : Int) == (0 : Int)))) (fun hb38 => ?_) (fun hb38 => ?_) ?_
            ·
              refine S_on rfl rfl hb38 ?_
              refine S_in ?_
              refine S_m (v := .sl _ _ _) rfl ?_
              refine S_nil ?_
              refine S_on rfl rfl hb38 ?_
              refine S_in ?_
              refine S_lenL rfl ty_sl_23 ?_
              refine S_nil ?_
              refine S_on rfl rfl hb38 ?_
              refine S_in ?_
              refine S_bin rfl rfl (ev_eql ..) ?_
              refine S_nil ?_
              refine S_pickT (v := .bool _) rfl hb38 rfl ?_
              refine S_nil ?_
              refine .hd (and_t hb38) ?_
              repeat (first | with_reducible exact WS.refl _ | refine WS.add ?_ rfl)
            ·
              refine S_off rfl rfl hb38 ?_
              refine S_offD ?_
              refine S_off rfl rfl hb38 ?_
              refine S_offD ?_
              refine S_off rfl rfl hb38 ?_
              refine S_offD ?_
              refine S_pickF (v := .bool _) rfl hb38 rfl ?_
              refine S_nil ?_
              refine .hd (and_f hb38) ?_
              repeat (first | with_reducible exact WS.refl _ | refine WS.add ?_ rfl)
            refine S_a (v := .bool _) rfl ?_
            refine S_nil ?_
            refine WP_ret ?_
            repeat (first | with_reducible refine Exit.sel_ret ?_ | with_reducible refine Exit.blk_ret ?_ | with_reducible refine Exit.jmp_ret ?_)
            refine C_ret (fn := Tryd.f9) rfl (.tmp (v := .bool ((x6.2 == (1 : Int)) && ((x6.1.length : Int) == (0 : Int)))) rfl .nil) ?_
            exact ⟨_, _, (.refl _), WH.refl _, _, F_some hF, rfl⟩
          ·
            refine WP_skip ?_
            refine C_seq ?_
            refine C_reg (mdl []) ?_
            refine S_m (v := .sl _ _ _) rfl ?_
            refine S_m (v := .int _ _) rfl ?_
            refine S_m (v := .int _ _) rfl ?_
            refine S_bld (v := .agg (c_T_lecternref10_Spot (⟨p1, p2⟩ : T_lecternref10_Spot))) (b_st ty_zc_52 ty_pl_52 rfl) ?_
            refine S_m (v := .int _ _) rfl ?_
            refine S_m (v := .int _ _) rfl ?_
            refine S_bld (v := .agg (c_T_lecternref10_Spot (⟨p3, p4⟩ : T_lecternref10_Spot))) (b_st ty_zc_52 ty_pl_52 rfl) ?_
            refine S_call (F_lecternref10_Turn_ok _ hF fun x39 _ hF => ?_) (.cons (.refl _) (.cons (.refl _) (.cons (.refl _) (.nil))))
            refine S_m (v := .tup _) rfl ?_
            refine S_ext rfl rfl ?_
            refine S_ext rfl rfl ?_
            refine S_a (v := .sl _ _ _) rfl ?_
            refine S_a (v := .bool _) rfl ?_
            refine S_nil ?_
            refine C_seq ?_
            refine C_seq ?_
            refine C_reg (mdl []) ?_
            refine S_m (v := .bool _) rfl ?_
            refine S_un rfl (ev_not _) ?_
            refine S_nil ?_
            refine C_if (b := (!x39.2)) rfl hF (fun hb40 hF => ?_) (fun hb40 hF => ?_)
            ·
              refine C_seq ?_
              refine C_reg (mdl []) ?_
              refine S_m (v := .int _ _) rfl ?_
              refine S_bin rfl rfl (ev_eql ..) ?_
              refine S_m (v := .bool _) rfl ?_
              refine S_two (b := (x6.2 == (5 : Int))) 4 125 (.bool ((x6.2 == (5 : Int)) && ((x6.1.length : Int) == (0 : Int)))) (fun hb41 => ?_) (fun hb41 => ?_) ?_
              ·
                refine S_on rfl rfl hb41 ?_
                refine S_in ?_
                refine S_m (v := .sl _ _ _) rfl ?_
                refine S_nil ?_
                refine S_on rfl rfl hb41 ?_
                refine S_in ?_
                refine S_lenL rfl ty_sl_23 ?_
                refine S_nil ?_
                refine S_on rfl rfl hb41 ?_
                refine S_in ?_
                refine S_bin rfl rfl (ev_eql ..) ?_
                refine S_nil ?_
                refine S_pickT (v := .bool _) rfl hb41 rfl ?_
                refine S_nil ?_
                refine .hd (and_t hb41) ?_
                repeat (first | with_reducible exact WS.refl _ | refine WS.add ?_ rfl)
              ·
                refine S_off rfl rfl hb41 ?_
                refine S_offD ?_
                refine S_off rfl rfl hb41 ?_
                refine S_offD ?_
                refine S_off rfl rfl hb41 ?_
                refine S_offD ?_
                refine S_pickF (v := .bool _) rfl hb41 rfl ?_
                refine S_nil ?_
                refine .hd (and_f hb41) ?_
                repeat (first | with_reducible exact WS.refl _ | refine WS.add ?_ rfl)
              refine S_a (v := .bool _) rfl ?_
              refine S_nil ?_
              refine WP_ret ?_
              repeat (first | with_reducible refine Exit.sel_ret ?_ | with_reducible refine Exit.blk_ret ?_ | with_reducible refine Exit.jmp_ret ?_)
              refine C_ret (fn := Tryd.f9) rfl (.tmp (v := .bool ((x6.2 == (5 : Int)) && ((x6.1.length : Int) == (0 : Int)))) rfl .nil) ?_
              exact ⟨_, _, (.refl _), WH.refl _, _, F_some hF, rfl⟩
            ·
              refine WP_skip ?_
              refine C_seq ?_
              refine C_reg (mdl []) ?_
              refine S_m (v := .int _ _) rfl ?_
              refine S_bin rfl rfl (ev_eql ..) ?_
              refine S_m (v := .bool _) rfl ?_
              refine S_twoJ 4 132 hF (fun J43 hb42 hF => ?_) (fun J43 hb42 hF => ?_) (fun v44 hF => ?_)
              ·
                refine S_on rfl rfl hb42 ?_
                refine S_in ?_
                refine S_m (v := .sl _ _ _) rfl ?_
                refine S_nil ?_
                refine S_on rfl rfl hb42 ?_
                refine S_in ?_
                refine S_m (v := .sl _ _ _) rfl ?_
                refine S_nil ?_
                refine S_on rfl rfl hb42 ?_
                refine S_in ?_
                refine S_call (F_lecternlaw10_same_ok _ hF fun x45 _ hF => ?_) (.cons (.refl _) (.cons (.refl _) (.nil)))
                refine S_nil ?_
                refine S_pickT (v := .bool _) rfl hb42 rfl ?_
                refine S_nil ?_
                refine ⟨_, hF, .hd (.refl _) ?_⟩
                repeat (first | with_reducible exact WS.refl _ | refine WS.add ?_ rfl)
              ·
                refine S_off rfl rfl hb42 ?_
                refine S_offD ?_
                refine S_off rfl rfl hb42 ?_
                refine S_offD ?_
                refine S_off rfl rfl hb42 ?_
                refine S_offD ?_
                refine S_pickF (v := .bool _) rfl hb42 rfl ?_
                refine S_nil ?_
                refine ⟨_, hF, .hd (.refl _) ?_⟩
                repeat (first | with_reducible exact WS.refl _ | refine WS.add ?_ rfl)
              ·
                refine S_a (v := .bool _) rfl ?_
                refine S_nil ?_
                refine WP_ret ?_
                repeat (first | with_reducible refine Exit.sel_ret ?_ | with_reducible refine Exit.blk_ret ?_ | with_reducible refine Exit.jmp_ret ?_)
                refine C_ret (fn := Tryd.f9) rfl (.tmp (v := .bool v44) rfl .nil) ?_
                exact ⟨_, _, (.refl _), WH.refl _, _, F_some hF, rfl⟩
end Go.Proofs.YtocfjohangcajaaDoor
