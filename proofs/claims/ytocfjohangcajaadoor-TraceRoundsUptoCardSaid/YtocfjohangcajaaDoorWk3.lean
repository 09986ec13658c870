/- The walks. No condition. -/
import Derived.Test.YtocfjohangcajaaDoorWk2
set_option linter.unusedVariables false
set_option linter.unusedSimpArgs false
set_option maxRecDepth 20000
set_option maxHeartbeats 8000000
namespace Go.Proofs.YtocfjohangcajaaDoor
theorem F_lecternref10_Around_w (p0 : List T_lecternref10_Stroke) (p1 : T_lecternref10_Spot) {G : Int × Bool → Prop} (h : Heap) (hF : OptP (F_lecternref10_Around p0 p1) G) : CallsA Tryd.prog 23 [.sl 2 (List.map c_T_lecternref10_Stroke p0) 0, .agg (c_T_lecternref10_Spot p1)] h fun d h' => ∃ r, G r ∧ d = .tup [.int .i64 r.1, .bool r.2] ∧ h' = h := by
 refine CallsA.ret ?_
 refine C_body Tryd.func23 rfl en_23 Tryd.ntmps23 rfl (fun ok => ?_)
 rw [F_lecternref10_Around] at hF
 refine C_seq ?_
 refine C_reg (mdl []) ?_
 refine S_box0 rfl rfl rfl rfl ?_
 refine S_a (v := .int _ _) rfl ?_
 refine S_a (v := .bool _) rfl ?_
 refine S_nil ?_
 refine C_seq ?_
 refine C_reg (mdl []) ?_
 refine S_a (v := .int _ _) rfl ?_
 refine S_nil ?_
 refine C_join hF (fun (a453 : Int) s' => OK h [] ∧ WS s' ⟨mkSl 122 [(6, .int .i64 a453)], Hp h []⟩) (fun J454 hF => ?_) ?_
 ·
  refine C_seq ?_
  refine C_reg (mdl []) ?_
  refine S_m (v := .sl _ _ _) rfl ?_
  refine S_lenL rfl ty_sl_27 ?_
  refine S_m (v := .int _ _) rfl ?_
  refine S_nil ?_
  refine WP_block ?_
  refine C_loop (σ := Int × Int) hF (fun (v : Int × Int) s' => match v with | (a455, a456) => OK h [] ∧ WS s' ⟨mkSl 122 [(3, .iptr (c_T_lecternref10_Spot p1)), (6, .int .i64 a455), (14, .sl 2 (List.map c_T_lecternref10_Stroke p0) 0), (15, .int .i64 (p0.length : Int)), (16, .int .i64 a456)], Hp h []⟩) ?_ ?_
  ·
   have hwo : WO [] [] := .nil
   exact ⟨(hwo.spec ok).1, WS.mk' (.cons (.refl _) (.cons (.refl _) (.cons (.refl _) (.cons (.refl _) (.cons (.refl _) .nil))))) ok hwo⟩
  ·
   rintro G457 hG458 rec459 ⟨a455, a456⟩ s' ih460 hF ⟨ok, hws⟩
   refine WP_ws hws ?_
   clear hws s'
   rw [F_lecternref10_Around_l0] at hF
   refine C_seq ?_
   refine C_reg (mdl []) ?_
   refine S_bin rfl rfl (ev_lss ..) ?_
   refine S_nil ?_
   refine C_seq ?_
   refine C_if (b := (decide (a456 < (p0.length : Int)))) rfl hF (fun hb461 hF => ?_) (fun hb461 hF => ?_)
   ·
    refine WP_skip ?_
    refine C_join hF (fun (a686 : Int) s' => OK h [] ∧ WS s' ⟨mkSl 122 [(3, .iptr (c_T_lecternref10_Spot p1)), (6, .int .i64 a686), (14, .sl 2 (List.map c_T_lecternref10_Stroke p0) 0), (15, .int .i64 (p0.length : Int)), (16, .int .i64 a456)], Hp h []⟩) (fun J687 hF => ?_) ?_
    ·
     refine WP_block ?_
     refine C_seq ?_
     refine C_reg (mdl [(8, 1)]) ?_
     refine S_ix rfl rfl ty_sl_27 ty_sz_80 hF (fun x688 _ hF => ?_)
     refine S_ldQ rfl (p_agg (vs := c_T_lecternref10_Stroke x688) ty_ag_80 ty_sz_80 rfl rfl) ?_
     refine S_all1 ok rfl ty_zc_80 ?_
     intro i689 hi689 ok
     refine S_st (j := 0) (cs' := [.sl 2 (List.map c_T_lecternref10_Spot x688.Spots) 0, .bool x688.Closed]) ok rfl rfl rfl hi689 rfl ty_sz_80 rfl rfl (fun ok => ?_)
     refine S_nil ?_
     refine C_seq ?_
     refine C_reg (mdl []) ?_
     refine S_frzP 0 8 ok rfl rfl hi689 (fun ok => ?_)
     refine S_a (v := .int _ _) rfl ?_
     refine S_nil ?_
     refine WP_block ?_
     refine C_loop (σ := Int × Int) hF (fun (v : Int × Int) s' => match v with | (a692, a693) => OK h [] ∧ WS s' ⟨mkSl 122 [(3, .iptr (c_T_lecternref10_Spot p1)), (6, .int .i64 a692), (8, .iptr (c_T_lecternref10_Stroke x688)), (9, .int .i64 a693), (14, .sl 2 (List.map c_T_lecternref10_Stroke p0) 0), (15, .int .i64 (p0.length : Int)), (16, .int .i64 a456)], Hp h []⟩) ?_ ?_
     ·
      have hwo : WO [(0, .room)] [] := (.drop .nil)
      exact ⟨(hwo.spec ok).1, WS.mk' (.cons (.refl _) (.cons (.refl _) (.cons (.refl _) (.cons (.refl _) (.cons (.refl _) (.cons (.refl _) (.cons (.refl _) .nil))))))) ok hwo⟩
     ·
      rintro G694 hG695 rec696 ⟨a692, a693⟩ s' ih697 hF ⟨ok, hws⟩
      refine WP_ws hws ?_
      clear hws s'
      rw [F_lecternref10_Around_l1] at hF
      refine C_seq ?_
      refine C_seq ?_
      refine C_reg (mdl []) ?_
      refine S_m (v := .int _ _) rfl ?_
      refine S_faQ rfl ty_fd_80_0 ty_sz_78 rfl ?_
      refine S_ldQ rfl (p_one ty_ag_78 ty_sz_78 rfl) ?_
      refine S_lenL rfl ty_sl_78 ?_
      refine S_bin rfl rfl (ev_lss ..) ?_
      refine S_m (v := .bool _) rfl ?_
      refine S_two (b := (decide (a693 < (x688.Spots.length : Int)))) 3 28 (.bool ((decide (a693 < (x688.Spots.length : Int))) && x688.Closed)) (fun hb698 => ?_) (fun hb698 => ?_) ?_
      ·
       refine S_on rfl rfl hb698 ?_
       refine S_in ?_
       refine S_faQ rfl ty_fd_80_1 ty_sz_4 rfl ?_
       refine S_nil ?_
       refine S_on rfl rfl hb698 ?_
       refine S_in ?_
       refine S_ldQ rfl (p_one ty_ag_4 ty_sz_4 rfl) ?_
       refine S_nil ?_
       refine S_pickT (v := .bool _) rfl hb698 rfl ?_
       refine S_nil ?_
       refine .hd (and_t hb698) ?_
       repeat (first | with_reducible exact WS.refl _ | refine WS.add ?_ rfl)
      ·
       refine S_off rfl rfl hb698 ?_
       refine S_offD ?_
       refine S_off rfl rfl hb698 ?_
       refine S_offD ?_
       refine S_pickF (v := .bool _) rfl hb698 rfl ?_
       refine S_nil ?_
       refine .hd (and_f hb698) ?_
       repeat (first | with_reducible exact WS.refl _ | refine WS.add ?_ rfl)
      refine S_nil ?_
      refine C_if (b := ((decide (a693 < (x688.Spots.length : Int))) && x688.Closed)) rfl hF (fun hb699 hF => ?_) (fun hb699 hF => ?_)
      ·
       refine WP_skip ?_
       refine C_seq ?_
       refine WP_block ?_
       refine C_seq ?_
       refine C_fork (mdl [(10, 1), (11, 1), (32, 3), (35, 3), (37, 3), (41, 3), (45, 3)]) [0, 1, 2, 3, 4, 5, 6, 7, 8, 9, 10, 11, 12, 13, 14] [15, 16, 17, 18] [16, 15, 17, 18] [_, _, _, _, _, _, _, _, _, _, _, _, _, _, _] [_, _, _, _] [_, _, _, _] (by kernel_rfl) rfl rfl rfl rfl (by kernel_rfl) ?_
       refine S_faQ rfl ty_fd_80_0 ty_sz_78 rfl ?_
       refine S_ldQ rfl (p_one ty_ag_78 ty_sz_78 rfl) ?_
       refine S_m (v := .int _ _) rfl ?_
       refine S_ix rfl rfl ty_sl_78 ty_sz_52 hF (fun x700 _ hF => ?_)
       refine S_ldQ rfl (p_agg (vs := c_T_lecternref10_Spot x700) ty_ag_52 ty_sz_52 rfl rfl) ?_
       refine S_faQ rfl ty_fd_80_0 ty_sz_78 rfl ?_
       refine S_ldQ rfl (p_one ty_ag_78 ty_sz_78 rfl) ?_
       refine S_m (v := .int _ _) rfl ?_
       refine S_bin rfl rfl (ev_add ..) ?_
       refine S_faQ rfl ty_fd_80_0 ty_sz_78 rfl ?_
       refine S_ldQ rfl (p_one ty_ag_78 ty_sz_78 rfl) ?_
       refine S_lenL rfl ty_sl_78 ?_
       refine S_rem rfl rfl hF (fun hF => ?_)
       refine S_ix rfl rfl ty_sl_78 ty_sz_52 hF (fun x701 _ hF => ?_)
       refine S_ldQ rfl (p_agg (vs := c_T_lecternref10_Spot x701) ty_ag_52 ty_sz_52 rfl rfl) ?_
       refine S_nil ?_
       refine ⟨?_, ?_⟩
       ·
        refine S_all1 ok rfl ty_zc_52 ?_
        intro i702 hi702 ok
        refine S_all1 ok rfl ty_zc_52 ?_
        intro i703 hi703 ok
        refine S_st (j := 1) (cs' := [.int .i64 x700.X, .int .i64 x700.Y]) ok rfl rfl rfl hi702 rfl ty_sz_52 rfl rfl (fun ok => ?_)
        refine S_st (j := 0) (cs' := [.int .i64 x701.X, .int .i64 x701.Y]) ok rfl rfl rfl hi703 rfl ty_sz_52 rfl rfl (fun ok => ?_)
        refine S_nil ?_
        refine C_seq ?_
        refine WP_any N0 (mdl [(49, 3), (54, 3), (60, 3), (65, 3)]) (gamma0 _) (by kernel_rfl) ?_
        refine A_seq [0, 1, 2, 3, 4, 5, 6, 7, 8, 9, 10, 11, 13, 14, 16, 18, 19] [_, _, _, _, _, _, _, _, _, _, _, _, _, _, _, _, _] 7 #[true, true, true, true, true, true, true, true, true, true, true, true, false, true, true, false, true, false, true, true, false, false, false, false] rfl rfl (by kernel_rfl) (by kernel_rfl) ?_
        refine S_faP rfl ty_fd_52_0 ty_sz_3 ?_
        refine S_ldP (j := 1) ok rfl rfl rfl hi702 (p_one (v := .int .i64 x700.X) ty_ag_3 ty_sz_3 rfl) ?_
        refine S_faQ rfl ty_fd_52_0 ty_sz_3 rfl ?_
        refine S_ldQ rfl (p_one ty_ag_3 ty_sz_3 rfl) ?_
        refine S_bin rfl rfl (ev_sub ..) ?_
        refine S_faP rfl ty_fd_52_1 ty_sz_3 ?_
        refine S_ldP (j := 1) ok rfl rfl rfl hi702 (p_one (v := .int .i64 x700.Y) ty_ag_3 ty_sz_3 rfl) ?_
        refine S_faQ rfl ty_fd_52_1 ty_sz_3 rfl ?_
        refine S_ldQ rfl (p_one ty_ag_3 ty_sz_3 rfl) ?_
        refine S_bin rfl rfl (ev_sub ..) ?_
        refine S_bld (v := .agg (c_T_lecternref10_Spot (⟨(IntKind.wrap .i64 (x700.X - p1.X)), (IntKind.wrap .i64 (x700.Y - p1.Y))⟩ : T_lecternref10_Spot))) (b_st ty_zc_52 ty_pl_52 rfl) ?_
        refine S_faP rfl ty_fd_52_0 ty_sz_3 ?_
        refine S_faQ rfl ty_fd_52_0 ty_sz_3 rfl ?_
        refine S_ldQ rfl (p_one ty_ag_3 ty_sz_3 rfl) ?_
        refine S_faP rfl ty_fd_52_1 ty_sz_3 ?_
        refine S_faQ rfl ty_fd_52_1 ty_sz_3 rfl ?_
        refine S_ldQ rfl (p_one ty_ag_3 ty_sz_3 rfl) ?_
        refine S_nil ?_
        refine A_three 12 17 22 _ _ _ #[true, true, true, true, true, true, true, true, true, true, true, true, true, true, true, false, true, false, true, true, false, false, false, false] #[true, true, true, true, true, true, true, true, true, true, true, true, false, true, true, false, true, true, true, true, false, false, false, false] #[true, true, true, true, true, true, true, true, true, true, true, true, false, true, true, false, true, false, true, true, false, false, true, false] (by kernel_rfl) rfl rfl rfl (by kernel_rfl) (by kernel_rfl) (by kernel_rfl) ?_ ?_ ?_
        ·
         refine S_ldP (j := 0) ok rfl rfl rfl hi703 (p_one (v := .int .i64 x701.X) ty_ag_3 ty_sz_3 rfl) ?_
         refine S_nil ?_
         refine A_seq [15] [_] 5 #[true, true, true, true, true, true, true, true, true, true, true, true, true, true, true, true, true, false, true, true, false, false, false, false] rfl rfl (by kernel_rfl) (by kernel_rfl) ?_
         refine S_bin rfl rfl (ev_sub ..) ?_
         refine S_nil ?_
         refine A_two 17 22 _ _ #[true, true, true, true, true, true, true, true, true, true, true, true, true, true, true, true, true, true, true, true, false, false, false, false] #[true, true, true, true, true, true, true, true, true, true, true, true, true, true, true, true, true, false, true, true, false, false, true, false] (by kernel_rfl) rfl rfl (by kernel_rfl) (by kernel_rfl) ?_ ?_
         ·
          refine S_ldP (j := 0) ok rfl rfl rfl hi703 (p_one (v := .int .i64 x701.Y) ty_ag_3 ty_sz_3 rfl) ?_
          refine S_nil ?_
          refine A_seq [20, 21, 22, 23] [_, _, _, _] 0 #[true, true, true, true, true, true, true, true, true, true, true, true, true, true, true, true, true, true, true, true, true, true, true, true] rfl rfl (by kernel_rfl) (by kernel_rfl) ?_
          refine S_bin rfl rfl (ev_sub ..) ?_
          refine S_bld (v := .agg (c_T_lecternref10_Spot (⟨(IntKind.wrap .i64 (x701.X - p1.X)), (IntKind.wrap .i64 (x701.Y - p1.Y))⟩ : T_lecternref10_Spot))) (b_st ty_zc_52 ty_pl_52 rfl) ?_
          refine S_st (j := 1) (cs' := [.int .i64 (⟨(IntKind.wrap .i64 (x700.X - p1.X)), (IntKind.wrap .i64 (x700.Y - p1.Y))⟩ : T_lecternref10_Spot).X, .int .i64 (⟨(IntKind.wrap .i64 (x700.X - p1.X)), (IntKind.wrap .i64 (x700.Y - p1.Y))⟩ : T_lecternref10_Spot).Y]) ok rfl rfl rfl hi702 rfl ty_sz_52 rfl rfl (fun ok => ?_)
          refine S_st (j := 0) (cs' := [.int .i64 (⟨(IntKind.wrap .i64 (x701.X - p1.X)), (IntKind.wrap .i64 (x701.Y - p1.Y))⟩ : T_lecternref10_Spot).X, .int .i64 (⟨(IntKind.wrap .i64 (x701.X - p1.X)), (IntKind.wrap .i64 (x701.Y - p1.Y))⟩ : T_lecternref10_Spot).Y]) ok rfl rfl rfl hi703 rfl ty_sz_52 rfl rfl (fun ok => ?_)
          refine S_nil ?_
          refine A_end (by kernel_rfl) ?_
          refine C_seq ?_
          refine C_reg (mdl []) ?_
          refine S_frzP 1 10 ok rfl rfl hi702 (fun ok => ?_)
          refine S_frzP 0 11 ok rfl rfl hi703 (fun ok => ?_)
          refine S_ldQ rfl (p_agg (vs := c_T_lecternref10_Spot (⟨(IntKind.wrap .i64 (x700.X - p1.X)), (IntKind.wrap .i64 (x700.Y - p1.Y))⟩ : T_lecternref10_Spot)) ty_ag_52 ty_sz_52 rfl rfl) ?_
          refine S_ldQ rfl (p_agg (vs := c_T_lecternref10_Spot (⟨(IntKind.wrap .i64 (x701.X - p1.X)), (IntKind.wrap .i64 (x701.Y - p1.Y))⟩ : T_lecternref10_Spot)) ty_ag_52 ty_sz_52 rfl rfl) ?_
          refine S_call (F_lecternref10_Cross_ok _ hF fun x708 _ hF => ?_) (.cons (.refl _) (.cons (.refl _) (.nil)))
          refine S_a (v := .int _ _) rfl ?_
          refine S_nil ?_
          refine C_seq ?_
          refine C_seq ?_
          refine C_reg (mdl []) ?_
          refine S_ldQ rfl (p_agg (vs := c_T_lecternref10_Spot (⟨(IntKind.wrap .i64 (x700.X - p1.X)), (IntKind.wrap .i64 (x700.Y - p1.Y))⟩ : T_lecternref10_Spot)) ty_ag_52 ty_sz_52 rfl rfl) ?_
          refine S_bld (v := .agg (c_T_lecternref10_Spot (⟨(0 : Int), (0 : Int)⟩ : T_lecternref10_Spot))) (b_st ty_zc_52 ty_pl_52 rfl) ?_
          refine S_bin rfl rfl (e_agg (b := (((⟨(IntKind.wrap .i64 (x700.X - p1.X)), (IntKind.wrap .i64 (x700.Y - p1.Y))⟩ : T_lecternref10_Spot).X == (⟨(0 : Int), (0 : Int)⟩ : T_lecternref10_Spot).X) && (((⟨(IntKind.wrap .i64 (x700.X - p1.X)), (IntKind.wrap .i64 (x700.Y - p1.Y))⟩ : T_lecternref10_Spot).Y == (⟨(0 : Int), (0 : Int)⟩ : T_lecternref10_Spot).Y) && true))) ty_qg_52 ty_sf_52 (by simp only [c_T_lecternref10_Spot, ev_eqF_cons, ev_eqF_nil, ev_part, ty_sf_52, ty_qg_52, ty_ag_3, ty_sz_3, ty_ki_3, ty_ag_3, ty_sz_3, ty_ki_3, ev_eq_int, ev_eq_str, ev_eq_bool, ev_eq_agg, ev_eq_int2, ev_eq_str2, ev_eq_bool2, List.drop_zero, List.drop_succ_cons, List.length_cons, List.length_nil, List.take_succ_cons, List.take_zero, Option.isSome_some, if_true, Option.bind_some, Option.map_some, Nat.reduceAdd, Nat.reduceLeDiff])) ?_
          refine S_m (v := .bool _) rfl ?_
          refine S_two (b := (((⟨(IntKind.wrap .i64 (x700.X - p1.X)), (IntKind.wrap .i64 (x700.Y - p1.Y))⟩ : T_lecternref10_Spot).X == (⟨(0 : Int), (0 : Int)⟩ : T_lecternref10_Spot).X) && (((⟨(IntKind.wrap .i64 (x700.X - p1.X)), (IntKind.wrap .i64 (x700.Y - p1.Y))⟩ : T_lecternref10_Spot).Y == (⟨(0 : Int), (0 : Int)⟩ : T_lecternref10_Spot).Y) && true))) 4 78 (.bool ((((⟨(IntKind.wrap .i64 (x700.X - p1.X)), (IntKind.wrap .i64 (x700.Y - p1.Y))⟩ : T_lecternref10_Spot).X == (⟨(0 : Int), (0 : Int)⟩ : T_lecternref10_Spot).X) && (((⟨(IntKind.wrap .i64 (x700.X - p1.X)), (IntKind.wrap .i64 (x700.Y - p1.Y))⟩ : T_lecternref10_Spot).Y == (⟨(0 : Int), (0 : Int)⟩ : T_lecternref10_Spot).Y) && true)) || (((⟨(IntKind.wrap .i64 (x701.X - p1.X)), (IntKind.wrap .i64 (x701.Y - p1.Y))⟩ : T_lecternref10_Spot).X == (⟨(0 : Int), (0 : Int)⟩ : T_lecternref10_Spot).X) && (((⟨(IntKind.wrap .i64 (x701.X - p1.X)), (IntKind.wrap .i64 (x701.Y - p1.Y))⟩ : T_lecternref10_Spot).Y == (⟨(0 : Int), (0 : Int)⟩ : T_lecternref10_Spot).Y) && true)))) (fun hb709 => ?_) (fun hb709 => ?_) ?_
          ·
           refine S_off rfl rfl hb709 ?_
           refine S_offD ?_
           refine S_off rfl rfl hb709 ?_
           refine S_offD ?_
           refine S_off rfl rfl hb709 ?_
           refine S_offD ?_
           refine S_pickT (v := .bool _) rfl hb709 rfl ?_
           refine S_nil ?_
           refine .hd (or_t hb709) ?_
           repeat (first | with_reducible exact WS.refl _ | refine WS.add ?_ rfl)
          ·
           refine S_on rfl rfl hb709 ?_
           refine S_in ?_
           refine S_ldQ rfl (p_agg (vs := c_T_lecternref10_Spot (⟨(IntKind.wrap .i64 (x701.X - p1.X)), (IntKind.wrap .i64 (x701.Y - p1.Y))⟩ : T_lecternref10_Spot)) ty_ag_52 ty_sz_52 rfl rfl) ?_
           refine S_nil ?_
           refine S_on rfl rfl hb709 ?_
           refine S_in ?_
           refine S_bld (v := .agg (c_T_lecternref10_Spot (⟨(0 : Int), (0 : Int)⟩ : T_lecternref10_Spot))) (b_st ty_zc_52 ty_pl_52 rfl) ?_
           refine S_nil ?_
           refine S_on rfl rfl hb709 ?_
           refine S_in ?_
           refine S_bin rfl rfl (e_agg (b := (((⟨(IntKind.wrap .i64 (x701.X - p1.X)), (IntKind.wrap .i64 (x701.Y - p1.Y))⟩ : T_lecternref10_Spot).X == (⟨(0 : Int), (0 : Int)⟩ : T_lecternref10_Spot).X) && (((⟨(IntKind.wrap .i64 (x701.X - p1.X)), (IntKind.wrap .i64 (x701.Y - p1.Y))⟩ : T_lecternref10_Spot).Y == (⟨(0 : Int), (0 : Int)⟩ : T_lecternref10_Spot).Y) && true))) ty_qg_52 ty_sf_52 (by simp only [c_T_lecternref10_Spot, ev_eqF_cons, ev_eqF_nil, ev_part, ty_sf_52, ty_qg_52, ty_ag_3, ty_sz_3, ty_ki_3, ty_ag_3, ty_sz_3, ty_ki_3, ev_eq_int, ev_eq_str, ev_eq_bool, ev_eq_agg, ev_eq_int2, ev_eq_str2, ev_eq_bool2, List.drop_zero, List.drop_succ_cons, List.length_cons, List.length_nil, List.take_succ_cons, List.take_zero, Option.isSome_some, if_true, Option.bind_some, Option.map_some, Nat.reduceAdd, Nat.reduceLeDiff])) ?_
           refine S_nil ?_
           refine S_pickF (v := .bool _) rfl hb709 rfl ?_
           refine S_nil ?_
           refine .hd (or_f hb709) ?_
           repeat (first | with_reducible exact WS.refl _ | refine WS.add ?_ rfl)
          refine S_m (v := .bool _) rfl ?_
          refine S_two (b := ((((⟨(IntKind.wrap .i64 (x700.X - p1.X)), (IntKind.wrap .i64 (x700.Y - p1.Y))⟩ : T_lecternref10_Spot).X == (⟨(0 : Int), (0 : Int)⟩ : T_lecternref10_Spot).X) && (((⟨(IntKind.wrap .i64 (x700.X - p1.X)), (IntKind.wrap .i64 (x700.Y - p1.Y))⟩ : T_lecternref10_Spot).Y == (⟨(0 : Int), (0 : Int)⟩ : T_lecternref10_Spot).Y) && true)) || (((⟨(IntKind.wrap .i64 (x701.X - p1.X)), (IntKind.wrap .i64 (x701.Y - p1.Y))⟩ : T_lecternref10_Spot).X == (⟨(0 : Int), (0 : Int)⟩ : T_lecternref10_Spot).X) && (((⟨(IntKind.wrap .i64 (x701.X - p1.X)), (IntKind.wrap .i64 (x701.Y - p1.Y))⟩ : T_lecternref10_Spot).Y == (⟨(0 : Int), (0 : Int)⟩ : T_lecternref10_Spot).Y) && true)))) 17 96 (.bool (((((⟨(IntKind.wrap .i64 (x700.X - p1.X)), (IntKind.wrap .i64 (x700.Y - p1.Y))⟩ : T_lecternref10_Spot).X == (⟨(0 : Int), (0 : Int)⟩ : T_lecternref10_Spot).X) && (((⟨(IntKind.wrap .i64 (x700.X - p1.X)), (IntKind.wrap .i64 (x700.Y - p1.Y))⟩ : T_lecternref10_Spot).Y == (⟨(0 : Int), (0 : Int)⟩ : T_lecternref10_Spot).Y) && true)) || (((⟨(IntKind.wrap .i64 (x701.X - p1.X)), (IntKind.wrap .i64 (x701.Y - p1.Y))⟩ : T_lecternref10_Spot).X == (⟨(0 : Int), (0 : Int)⟩ : T_lecternref10_Spot).X) && (((⟨(IntKind.wrap .i64 (x701.X - p1.X)), (IntKind.wrap .i64 (x701.Y - p1.Y))⟩ : T_lecternref10_Spot).Y == (⟨(0 : Int), (0 : Int)⟩ : T_lecternref10_Spot).Y) && true))) || ((x708 == (0 : Int)) && (decide ((IntKind.wrap .i64 ((IntKind.wrap .i64 ((⟨(IntKind.wrap .i64 (x700.X - p1.X)), (IntKind.wrap .i64 (x700.Y - p1.Y))⟩ : T_lecternref10_Spot).X * (⟨(IntKind.wrap .i64 (x701.X - p1.X)), (IntKind.wrap .i64 (x701.Y - p1.Y))⟩ : T_lecternref10_Spot).X)) + (IntKind.wrap .i64 ((⟨(IntKind.wrap .i64 (x700.X - p1.X)), (IntKind.wrap .i64 (x700.Y - p1.Y))⟩ : T_lecternref10_Spot).Y * (⟨(IntKind.wrap .i64 (x701.X - p1.X)), (IntKind.wrap .i64 (x701.Y - p1.Y))⟩ : T_lecternref10_Spot).Y)))) < (0 : Int)))))) (fun hb710 => ?_) (fun hb710 => ?_) ?_
          ·
           refine S_off rfl rfl hb710 ?_
           refine S_offD ?_
           refine S_off rfl rfl hb710 ?_
           refine S_offD ?_
           refine S_off rfl rfl hb710 ?_
           refine S_offD ?_
           refine S_off2 rfl rfl ?_
           refine S_offD ?_
           refine S_off2 rfl rfl ?_
           refine S_offD ?_
           refine S_off2 rfl rfl ?_
           refine S_offD ?_
           refine S_off2 rfl rfl ?_
           refine S_offD ?_
           refine S_off2 rfl rfl ?_
           refine S_offD ?_
           refine S_off2 rfl rfl ?_
           refine S_offD ?_
           refine S_off2 rfl rfl ?_
           refine S_offD ?_
           refine S_off2 rfl rfl ?_
           refine S_offD ?_
           refine S_off2 rfl rfl ?_
           refine S_offD ?_
           refine S_off2 rfl rfl ?_
           refine S_offD ?_
           refine S_off2 rfl rfl ?_
           refine S_offD ?_
           refine S_off2 rfl rfl ?_
           refine S_offD ?_
           refine S_off rfl rfl hb710 ?_
           refine S_offD ?_
           refine S_pickT (v := .bool _) rfl hb710 rfl ?_
           refine S_nil ?_
           refine .hd (or_t hb710) ?_
           repeat (first | with_reducible exact WS.refl _ | refine WS.add ?_ rfl)
          ·
           refine S_on rfl rfl hb710 ?_
           refine S_in ?_
           refine S_m (v := .int _ _) rfl ?_
           refine S_nil ?_
           refine S_on rfl rfl hb710 ?_
           refine S_in ?_
           refine S_bin rfl rfl (ev_eql ..) ?_
           refine S_nil ?_
           refine S_on rfl rfl hb710 ?_
           refine S_in ?_
           refine S_m (v := .bool _) rfl ?_
           refine S_nil ?_
           refine S_two (b := (x708 == (0 : Int))) 13 95 (.bool ((x708 == (0 : Int)) && (decide ((IntKind.wrap .i64 ((IntKind.wrap .i64 ((⟨(IntKind.wrap .i64 (x700.X - p1.X)), (IntKind.wrap .i64 (x700.Y - p1.Y))⟩ : T_lecternref10_Spot).X * (⟨(IntKind.wrap .i64 (x701.X - p1.X)), (IntKind.wrap .i64 (x701.Y - p1.Y))⟩ : T_lecternref10_Spot).X)) + (IntKind.wrap .i64 ((⟨(IntKind.wrap .i64 (x700.X - p1.X)), (IntKind.wrap .i64 (x700.Y - p1.Y))⟩ : T_lecternref10_Spot).Y * (⟨(IntKind.wrap .i64 (x701.X - p1.X)), (IntKind.wrap .i64 (x701.Y - p1.Y))⟩ : T_lecternref10_Spot).Y)))) < (0 : Int))))) (fun hb712 => ?_) (fun hb712 => ?_) ?_
           ·
            refine S_on rfl rfl hb712 ?_
            refine S_in ?_
            refine S_faQ rfl ty_fd_52_0 ty_sz_3 rfl ?_
            refine S_nil ?_
            refine S_on rfl rfl hb712 ?_
            refine S_in ?_
            refine S_ldQ rfl (p_one ty_ag_3 ty_sz_3 rfl) ?_
            refine S_nil ?_
            refine S_on rfl rfl hb712 ?_
            refine S_in ?_
            refine S_faQ rfl ty_fd_52_0 ty_sz_3 rfl ?_
            refine S_nil ?_
            refine S_on rfl rfl hb712 ?_
            refine S_in ?_
            refine S_ldQ rfl (p_one ty_ag_3 ty_sz_3 rfl) ?_
            refine S_nil ?_
            refine S_on rfl rfl hb712 ?_
            refine S_in ?_
            refine S_bin rfl rfl (ev_mul ..) ?_
            refine S_nil ?_
            refine S_on rfl rfl hb712 ?_
            refine S_in ?_
            refine S_faQ rfl ty_fd_52_1 ty_sz_3 rfl ?_
            refine S_nil ?_
            refine S_on rfl rfl hb712 ?_
            refine S_in ?_
            refine S_ldQ rfl (p_one ty_ag_3 ty_sz_3 rfl) ?_
            refine S_nil ?_
            refine S_on rfl rfl hb712 ?_
            refine S_in ?_
            refine S_faQ rfl ty_fd_52_1 ty_sz_3 rfl ?_
            refine S_nil ?_
            refine S_on rfl rfl hb712 ?_
            refine S_in ?_
            refine S_ldQ rfl (p_one ty_ag_3 ty_sz_3 rfl) ?_
            refine S_nil ?_
            refine S_on rfl rfl hb712 ?_
            refine S_in ?_
            refine S_bin rfl rfl (ev_mul ..) ?_
            refine S_nil ?_
            refine S_on rfl rfl hb712 ?_
            refine S_in ?_
            refine S_bin rfl rfl (ev_add ..) ?_
            refine S_nil ?_
            refine S_on rfl rfl hb712 ?_
            refine S_in ?_
            refine S_bin rfl rfl (ev_lss ..) ?_
            refine S_nil ?_
            refine S_on rfl rfl hb710 ?_
            refine S_in ?_
            refine S_pickT (v := .bool _) rfl hb712 rfl ?_
            refine S_nil ?_
            refine S_nil ?_
            refine .hd (and_t hb712) ?_
            repeat (first | with_reducible exact WS.refl _ | refine WS.add ?_ rfl)
           ·
            refine S_off rfl rfl hb712 ?_
            refine S_offD ?_
            refine S_off rfl rfl hb712 ?_
            refine S_offD ?_
            refine S_off rfl rfl hb712 ?_
            refine S_offD ?_
            refine S_off rfl rfl hb712 ?_
            refine S_offD ?_
            refine S_off rfl rfl hb712 ?_
            refine S_offD ?_
            refine S_off rfl rfl hb712 ?_
            refine S_offD ?_
            refine S_off rfl rfl hb712 ?_
            refine S_offD ?_
            refine S_off rfl rfl hb712 ?_
            refine S_offD ?_
            refine S_off rfl rfl hb712 ?_
            refine S_offD ?_
            refine S_off rfl rfl hb712 ?_
            refine S_offD ?_
            refine S_off rfl rfl hb712 ?_
            refine S_offD ?_
            refine S_off rfl rfl hb712 ?_
            refine S_offD ?_
            refine S_on rfl rfl hb710 ?_
            refine S_in ?_
            refine S_pickF (v := .bool _) rfl hb712 rfl ?_
            refine S_nil ?_
            refine S_nil ?_
            refine .hd (and_f hb712) ?_
            repeat (first | with_reducible exact WS.refl _ | refine WS.add ?_ rfl)
           refine S_pickF (v := .bool _) rfl hb710 rfl ?_
           refine S_nil ?_
           refine .hd (or_f hb710) ?_
           repeat (first | with_reducible exact WS.refl _ | refine WS.add ?_ rfl)
          refine S_nil ?_
          refine C_if (b := (((((⟨(IntKind.wrap .i64 (x700.X - p1.X)), (IntKind.wrap .i64 (x700.Y - p1.Y))⟩ : T_lecternref10_Spot).X == (⟨(0 : Int), (0 : Int)⟩ : T_lecternref10_Spot).X) && (((⟨(IntKind.wrap .i64 (x700.X - p1.X)), (IntKind.wrap .i64 (x700.Y - p1.Y))⟩ : T_lecternref10_Spot).Y == (⟨(0 : Int), (0 : Int)⟩ : T_lecternref10_Spot).Y) && true)) || (((⟨(IntKind.wrap .i64 (x701.X - p1.X)), (IntKind.wrap .i64 (x701.Y - p1.Y))⟩ : T_lecternref10_Spot).X == (⟨(0 : Int), (0 : Int)⟩ : T_lecternref10_Spot).X) && (((⟨(IntKind.wrap .i64 (x701.X - p1.X)), (IntKind.wrap .i64 (x701.Y - p1.Y))⟩ : T_lecternref10_Spot).Y == (⟨(0 : Int), (0 : Int)⟩ : T_lecternref10_Spot).Y) && true))) || ((x708 == (0 : Int)) && (decide ((IntKind.wrap .i64 ((IntKind.wrap .i64 ((⟨(IntKind.wrap .i64 (x700.X - p1.X)), (IntKind.wrap .i64 (x700.Y - p1.Y))⟩ : T_lecternref10_Spot).X * (⟨(IntKind.wrap .i64 (x701.X - p1.X)), (IntKind.wrap .i64 (x701.Y - p1.Y))⟩ : T_lecternref10_Spot).X)) + (IntKind.wrap .i64 ((⟨(IntKind.wrap .i64 (x700.X - p1.X)), (IntKind.wrap .i64 (x700.Y - p1.Y))⟩ : T_lecternref10_Spot).Y * (⟨(IntKind.wrap .i64 (x701.X - p1.X)), (IntKind.wrap .i64 (x701.Y - p1.Y))⟩ : T_lecternref10_Spot).Y)))) < (0 : Int)))))) rfl hF (fun hb713 hF => ?_) (fun hb713 hF => ?_)
          ·
           refine C_seq ?_
           refine C_reg (mdl []) ?_
           refine S_a (v := .int _ _) rfl ?_
           refine S_a (v := .bool _) rfl ?_
           refine S_nil ?_
           refine WP_ret ?_
           replace hF := hG695 _ (F_some hF)
           replace hF := hG458 _ (F_some hF)
           repeat (first | with_reducible refine Exit.sel_ret ?_ | with_reducible refine Exit.blk_ret ?_ | with_reducible refine Exit.jmp_ret ?_)
           refine C_ret (fn := Tryd.f23) rfl (.tmp (v := .int .i64 (0 : Int)) rfl (.tmp (v := .bool true) rfl .nil)) ?_
           exact ⟨_, _, (.tupC (.cons (.refl _) (.cons (.refl _) (.nil)))), ok.wh, _, F_some hF, rfl, rfl⟩
          ·
           refine WP_skip ?_
           refine C_seq ?_
           refine C_plan (mdl [(97, 3), (99, 3)]) [0, 2, 1, 3, 4, 5, 6, 7] [_, _, _, _, _, _, _, _] (by kernel_rfl) rfl rfl (by kernel_rfl) ?_
           refine S_ldQ rfl (p_agg (vs := c_T_lecternref10_Spot (⟨(IntKind.wrap .i64 (x701.X - p1.X)), (IntKind.wrap .i64 (x701.Y - p1.Y))⟩ : T_lecternref10_Spot)) ty_ag_52 ty_sz_52 rfl rfl) ?_
           refine S_ldQ rfl (p_agg (vs := c_T_lecternref10_Spot (⟨(IntKind.wrap .i64 (x700.X - p1.X)), (IntKind.wrap .i64 (x700.Y - p1.Y))⟩ : T_lecternref10_Spot)) ty_ag_52 ty_sz_52 rfl rfl) ?_
           refine S_call (F_lecternref10_quarter_ok _ hF fun x714 _ hF => ?_) (.cons (.refl _) (.nil))
           refine S_call (F_lecternref10_quarter_ok _ hF fun x715 _ hF => ?_) (.cons (.refl _) (.nil))
           refine S_bin rfl rfl (ev_sub ..) ?_
           refine S_bin rfl rfl (ev_add ..) ?_
           refine S_bin rfl rfl (e_rem rfl) ?_
           refine S_a (v := .int _ _) rfl ?_
           refine S_nil ?_
           refine C_join hF (fun (a720 : Int) s' => OK h [] ∧ WS s' ⟨mkSl 122 [(3, .iptr (c_T_lecternref10_Spot p1)), (6, .int .i64 a692), (8, .iptr (c_T_lecternref10_Stroke x688)), (9, .int .i64 a693), (13, .int .i64 a720), (14, .sl 2 (List.map c_T_lecternref10_Stroke p0) 0), (15, .int .i64 (p0.length : Int)), (16, .int .i64 a456)], Hp h []⟩) (fun J721 hF => ?_) ?_
           ·
            refine C_seq ?_
            refine C_reg (mdl []) ?_
            refine S_m (v := .int _ _) rfl ?_
            refine S_bin rfl rfl (ev_eql ..) ?_
            refine S_m (v := .bool _) rfl ?_
            refine S_two (b := ((Int.tmod (IntKind.wrap .i64 ((IntKind.wrap .i64 (x714 - x715)) + (4 : Int))) (4 : Int)) == (3 : Int))) 7 113 (.bool (((Int.tmod (IntKind.wrap .i64 ((IntKind.wrap .i64 (x714 - x715)) + (4 : Int))) (4 : Int)) == (3 : Int)) || (((Int.tmod (IntKind.wrap .i64 ((IntKind.wrap .i64 (x714 - x715)) + (4 : Int))) (4 : Int)) == (2 : Int)) && (decide (x708 < (0 : Int)))))) (fun hb722 => ?_) (fun hb722 => ?_) ?_
            ·
             refine S_off rfl rfl hb722 ?_
             refine S_offD ?_
             refine S_off rfl rfl hb722 ?_
             refine S_offD ?_
             refine S_off rfl rfl hb722 ?_
             refine S_offD ?_
             refine S_off2 rfl rfl ?_
             refine S_offD ?_
             refine S_off2 rfl rfl ?_
             refine S_offD ?_
             refine S_off rfl rfl hb722 ?_
             refine S_offD ?_
             refine S_pickT (v := .bool _) rfl hb722 rfl ?_
             refine S_nil ?_
             refine .hd (or_t hb722) ?_
             repeat (first | with_reducible exact WS.refl _ | refine WS.add ?_ rfl)
            ·
             refine S_on rfl rfl hb722 ?_
             refine S_in ?_
             refine S_m (v := .int _ _) rfl ?_
             refine S_nil ?_
             refine S_on rfl rfl hb722 ?_
             refine S_in ?_
             refine S_bin rfl rfl (ev_eql ..) ?_
             refine S_nil ?_
             refine S_on rfl rfl hb722 ?_
             refine S_in ?_
             refine S_m (v := .bool _) rfl ?_
             refine S_nil ?_
             refine S_two (b := ((Int.tmod (IntKind.wrap .i64 ((IntKind.wrap .i64 (x714 - x715)) + (4 : Int))) (4 : Int)) == (2 : Int))) 3 112 (.bool (((Int.tmod (IntKind.wrap .i64 ((IntKind.wrap .i64 (x714 - x715)) + (4 : Int))) (4 : Int)) == (2 : Int)) && (decide (x708 < (0 : Int))))) (fun hb724 => ?_) (fun hb724 => ?_) ?_
             ·
              refine S_on rfl rfl hb724 ?_
              refine S_in ?_
              refine S_m (v := .int _ _) rfl ?_
              refine S_nil ?_
              refine S_on rfl rfl hb724 ?_
              refine S_in ?_
              refine S_bin rfl rfl (ev_lss ..) ?_
              refine S_nil ?_
              refine S_on rfl rfl hb722 ?_
              refine S_in ?_
              refine S_pickT (v := .bool _) rfl hb724 rfl ?_
              refine S_nil ?_
              refine S_nil ?_
              refine .hd (and_t hb724) ?_
              repeat (first | with_reducible exact WS.refl _ | refine WS.add ?_ rfl)
             ·
              refine S_off rfl rfl hb724 ?_
              refine S_offD ?_
              refine S_off rfl rfl hb724 ?_
              refine S_offD ?_
              refine S_on rfl rfl hb722 ?_
              refine S_in ?_
              refine S_pickF (v := .bool _) rfl hb724 rfl ?_
              refine S_nil ?_
              refine S_nil ?_
              refine .hd (and_f hb724) ?_
              repeat (first | with_reducible exact WS.refl _ | refine WS.add ?_ rfl)
             refine S_pickF (v := .bool _) rfl hb722 rfl ?_
             refine S_nil ?_
             refine .hd (or_f hb722) ?_
             repeat (first | with_reducible exact WS.refl _ | refine WS.add ?_ rfl)
            refine S_nil ?_
            refine C_if (b := (((Int.tmod (IntKind.wrap .i64 ((IntKind.wrap .i64 (x714 - x715)) + (4 : Int))) (4 : Int)) == (3 : Int)) || (((Int.tmod (IntKind.wrap .i64 ((IntKind.wrap .i64 (x714 - x715)) + (4 : Int))) (4 : Int)) == (2 : Int)) && (decide (x708 < (0 : Int)))))) rfl hF (fun hb725 hF => ?_) (fun hb725 hF => ?_)
            ·
             refine C_reg (mdl []) ?_
             refine S_m (v := .int _ _) rfl ?_
             refine S_bin rfl rfl (ev_sub ..) ?_
             refine S_a (v := .int _ _) rfl ?_
             refine S_nil ?_
             have hwo : WO [(0, .room), (0, .room)] [] := (.drop (.drop .nil))
             exact ⟨(IntKind.wrap .i64 ((Int.tmod (IntKind.wrap .i64 ((IntKind.wrap .i64 (x714 - x715)) + (4 : Int))) (4 : Int)) - (4 : Int))), hF, (hwo.spec ok).1, WS.mk' (.cons (.refl _) (.cons (.refl _) (.cons (.refl _) (.cons (.refl _) (.cons (.refl _) (.cons (.refl _) (.cons (.refl _) (.cons (.refl _) .nil)))))))) ok hwo⟩
            ·
             refine WP_skip ?_
             have hwo : WO [(0, .room), (0, .room)] [] := (.drop (.drop .nil))
             exact ⟨(Int.tmod (IntKind.wrap .i64 ((IntKind.wrap .i64 (x714 - x715)) + (4 : Int))) (4 : Int)), hF, (hwo.spec ok).1, WS.mk' (.cons (.refl _) (.cons (.refl _) (.cons (.refl _) (.cons (.refl _) (.cons (.refl _) (.cons (.refl _) (.cons (.refl _) (.cons (.refl _) .nil)))))))) ok hwo⟩
           ·
            rintro a720 s' hF ⟨ok, hws⟩
            refine WP_ws hws ?_
            clear hws s'
            refine C_reg (mdl []) ?_
            refine S_m (v := .int _ _) rfl ?_
            refine S_m (v := .int _ _) rfl ?_
            refine S_bin rfl rfl (ev_add ..) ?_
            refine S_a (v := .int _ _) rfl ?_
            refine S_nil ?_
            refine C_reg (mdl []) ?_
            refine S_m (v := .int _ _) rfl ?_
            refine S_bin rfl rfl (ev_add ..) ?_
            refine S_a (v := .int _ _) rfl ?_
            refine S_nil ?_
            refine ih697 ((IntKind.wrap .i64 (a692 + a720)), (IntKind.wrap .i64 (a693 + (1 : Int)))) _ hF ?_
            have hwo : WO [] [] := .nil
            exact ⟨(hwo.spec ok).1, WS.mk' (.cons (.refl _) (.cons (.refl _) (.cons (.refl _) (.cons (.refl _) (.cons (.refl _) (.cons (.refl _) (.cons (.refl _) .nil))))))) ok hwo⟩
         ·
          refine S_st (j := 1) (cs' := [.int .i64 (⟨(IntKind.wrap .i64 (x700.X - p1.X)), (IntKind.wrap .i64 (x700.Y - p1.Y))⟩ : T_lecternref10_Spot).X, .int .i64 (⟨(IntKind.wrap .i64 (x700.X - p1.X)), (IntKind.wrap .i64 (x700.Y - p1.Y))⟩ : T_lecternref10_Spot).Y]) ok rfl rfl rfl hi702 rfl ty_sz_52 rfl rfl (fun ok => ?_)
          refine S_nil ?_
          refine A_seq [17, 20, 21, 23] [_, _, _, _] 0 #[true, true, true, true, true, true, true, true, true, true, true, true, true, true, true, true, true, true, true, true, true, true, true, true] rfl rfl (by kernel_rfl) (by kernel_rfl) ?_
          refine S_ldP (j := 0) ok rfl rfl rfl hi703 (p_one (v := .int .i64 x701.Y) ty_ag_3 ty_sz_3 rfl) ?_
          refine S_bin rfl rfl (ev_sub ..) ?_
          refine S_bld (v := .agg (c_T_lecternref10_Spot (⟨(IntKind.wrap .i64 (x701.X - p1.X)), (IntKind.wrap .i64 (x701.Y - p1.Y))⟩ : T_lecternref10_Spot))) (b_st ty_zc_52 ty_pl_52 rfl) ?_
          refine S_st (j := 0) (cs' := [.int .i64 (⟨(IntKind.wrap .i64 (x701.X - p1.X)), (IntKind.wrap .i64 (x701.Y - p1.Y))⟩ : T_lecternref10_Spot).X, .int .i64 (⟨(IntKind.wrap .i64 (x701.X - p1.X)), (IntKind.wrap .i64 (x701.Y - p1.Y))⟩ : T_lecternref10_Spot).Y]) ok rfl rfl rfl hi703 rfl ty_sz_52 rfl rfl (fun ok => ?_)
          refine S_nil ?_
          refine A_end (by kernel_rfl) ?_
          refine C_seq ?_
          refine C_reg (mdl []) ?_
          refine S_frzP 1 10 ok rfl rfl hi702 (fun ok => ?_)
          refine S_frzP 0 11 ok rfl rfl hi703 (fun ok => ?_)
          refine S_ldQ rfl (p_agg (vs := c_T_lecternref10_Spot (⟨(IntKind.wrap .i64 (x700.X - p1.X)), (IntKind.wrap .i64 (x700.Y - p1.Y))⟩ : T_lecternref10_Spot)) ty_ag_52 ty_sz_52 rfl rfl) ?_
          refine S_ldQ rfl (p_agg (vs := c_T_lecternref10_Spot (⟨(IntKind.wrap .i64 (x701.X - p1.X)), (IntKind.wrap .i64 (x701.Y - p1.Y))⟩ : T_lecternref10_Spot)) ty_ag_52 ty_sz_52 rfl rfl) ?_
          refine S_call (F_lecternref10_Cross_ok _ hF fun x730 _ hF => ?_) (.cons (.refl _) (.cons (.refl _) (.nil)))
          refine S_a (v := .int _ _) rfl ?_
          refine S_nil ?_
          refine C_seq ?_
          refine C_seq ?_
          refine C_reg (mdl []) ?_
          refine S_ldQ rfl (p_agg (vs := c_T_lecternref10_Spot (⟨(IntKind.wrap .i64 (x700.X - p1.X)), (IntKind.wrap .i64 (x700.Y - p1.Y))⟩ : T_lecternref10_Spot)) ty_ag_52 ty_sz_52 rfl rfl) ?_
          refine S_bld (v := .agg (c_T_lecternref10_Spot (⟨(0 : Int), (0 : Int)⟩ : T_lecternref10_Spot))) (b_st ty_zc_52 ty_pl_52 rfl) ?_
          refine S_bin rfl rfl (e_agg (b := (((⟨(IntKind.wrap .i64 (x700.X - p1.X)), (IntKind.wrap .i64 (x700.Y - p1.Y))⟩ : T_lecternref10_Spot).X == (⟨(0 : Int), (0 : Int)⟩ : T_lecternref10_Spot).X) && (((⟨(IntKind.wrap .i64 (x700.X - p1.X)), (IntKind.wrap .i64 (x700.Y - p1.Y))⟩ : T_lecternref10_Spot).Y == (⟨(0 : Int), (0 : Int)⟩ : T_lecternref10_Spot).Y) && true))) ty_qg_52 ty_sf_52 (by simp only [c_T_lecternref10_Spot, ev_eqF_cons, ev_eqF_nil, ev_part, ty_sf_52, ty_qg_52, ty_ag_3, ty_sz_3, ty_ki_3, ty_ag_3, ty_sz_3, ty_ki_3, ev_eq_int, ev_eq_str, ev_eq_bool, ev_eq_agg, ev_eq_int2, ev_eq_str2, ev_eq_bool2, List.drop_zero, List.drop_succ_cons, List.length_cons, List.length_nil, List.take_succ_cons, List.take_zero, Option.isSome_some, if_true, Option.bind_some, Option.map_some, Nat.reduceAdd, Nat.reduceLeDiff])) ?_
          refine S_m (v := .bool _) rfl ?_
          refine S_two (b := (((⟨(IntKind.wrap .i64 (x700.X - p1.X)), (IntKind.wrap .i64 (x700.Y - p1.Y))⟩ : T_lecternref10_Spot).X == (⟨(0 : Int), (0 : Int)⟩ : T_lecternref10_Spot).X) && (((⟨(IntKind.wrap .i64 (x700.X - p1.X)), (IntKind.wrap .i64 (x700.Y - p1.Y))⟩ : T_lecternref10_Spot).Y == (⟨(0 : Int), (0 : Int)⟩ : T_lecternref10_Spot).Y) && true))) 4 78 (.bool ((((⟨(IntKind.wrap .i64 (x700.X - p1.X)), (IntKind.wrap .i64 (x700.Y - p1.Y))⟩ : T_lecternref10_Spot).X == (⟨(0 : Int), (0 : Int)⟩ : T_lecternref10_Spot).X) && (((⟨(IntKind.wrap .i64 (x700.X - p1.X)), (IntKind.wrap .i64 (x700.Y - p1.Y))⟩ : T_lecternref10_Spot).Y == (⟨(0 : Int), (0 : Int)⟩ : T_lecternref10_Spot).Y) && true)) || (((⟨(IntKind.wrap .i64 (x701.X - p1.X)), (IntKind.wrap .i64 (x701.Y - p1.Y))⟩ : T_lecternref10_Spot).X == (⟨(0 : Int), (0 : Int)⟩ : T_lecternref10_Spot).X) && (((⟨(IntKind.wrap .i64 (x701.X - p1.X)), (IntKind.wrap .i64 (x701.Y - p1.Y))⟩ : T_lecternref10_Spot).Y == (⟨(0 : Int), (0 : Int)⟩ : T_lecternref10_Spot).Y) && true)))) (fun hb731 => ?_) (fun hb731 => ?_) ?_
          ·
           refine S_off rfl rfl hb731 ?_
           refine S_offD ?_
           refine S_off rfl rfl hb731 ?_
           refine S_offD ?_
           refine S_off rfl rfl hb731 ?_
           refine S_offD ?_
           refine S_pickT (v := .bool _) rfl hb731 rfl ?_
           refine S_nil ?_
           refine .hd (or_t hb731) ?_
           repeat (first | with_reducible exact WS.refl _ | refine WS.add ?_ rfl)
          ·
           refine S_on rfl rfl hb731 ?_
           refine S_in ?_
           refine S_ldQ rfl (p_agg (vs := c_T_lecternref10_Spot (⟨(IntKind.wrap .i64 (x701.X - p1.X)), (IntKind.wrap .i64 (x701.Y - p1.Y))⟩ : T_lecternref10_Spot)) ty_ag_52 ty_sz_52 rfl rfl) ?_
           refine S_nil ?_
           refine S_on rfl rfl hb731 ?_
           refine S_in ?_
           refine S_bld (v := .agg (c_T_lecternref10_Spot (⟨(0 : Int), (0 : Int)⟩ : T_lecternref10_Spot))) (b_st ty_zc_52 ty_pl_52 rfl) ?_
           refine S_nil ?_
           refine S_on rfl rfl hb731 ?_
           refine S_in ?_
           refine S_bin rfl rfl (e_agg (b := (((⟨(IntKind.wrap .i64 (x701.X - p1.X)), (IntKind.wrap .i64 (x701.Y - p1.Y))⟩ : T_lecternref10_Spot).X == (⟨(0 : Int), (0 : Int)⟩ : T_lecternref10_Spot).X) && (((⟨(IntKind.wrap .i64 (x701.X - p1.X)), (IntKind.wrap .i64 (x701.Y - p1.Y))⟩ : T_lecternref10_Spot).Y == (⟨(0 : Int), (0 : Int)⟩ : T_lecternref10_Spot).Y) && true))) ty_qg_52 ty_sf_52 (by simp only [c_T_lecternref10_Spot, ev_eqF_cons, ev_eqF_nil, ev_part, ty_sf_52, ty_qg_52, ty_ag_3, ty_sz_3, ty_ki_3, ty_ag_3, ty_sz_3, ty_ki_3, ev_eq_int, ev_eq_str, ev_eq_bool, ev_eq_agg, ev_eq_int2, ev_eq_str2, ev_eq_bool2, List.drop_zero, List.drop_succ_cons, List.length_cons, List.length_nil, List.take_succ_cons, List.take_zero, Option.isSome_some, if_true, Option.bind_some, Option.map_some, Nat.reduceAdd, Nat.reduceLeDiff])) ?_
           refine S_nil ?_
           refine S_pickF (v := .bool _) rfl hb731 rfl ?_
           refine S_nil ?_
           refine .hd (or_f hb731) ?_
           repeat (first | with_reducible exact WS.refl _ | refine WS.add ?_ rfl)
          refine S_m (v := .bool _) rfl ?_
          refine S_two (b := ((((⟨(IntKind.wrap .i64 (x700.X - p1.X)), (IntKind.wrap .i64 (x700.Y - p1.Y))⟩ : T_lecternref10_Spot).X == (⟨(0 : Int), (0 : Int)⟩ : T_lecternref10_Spot).X) && (((⟨(IntKind.wrap .i64 (x700.X - p1.X)), (IntKind.wrap .i64 (x700.Y - p1.Y))⟩ : T_lecternref10_Spot).Y == (⟨(0 : Int), (0 : Int)⟩ : T_lecternref10_Spot).Y) && true)) || (((⟨(IntKind.wrap .i64 (x701.X - p1.X)), (IntKind.wrap .i64 (x701.Y - p1.Y))⟩ : T_lecternref10_Spot).X == (⟨(0 : Int), (0 : Int)⟩ : T_lecternref10_Spot).X) && (((⟨(IntKind.wrap .i64 (x701.X - p1.X)), (IntKind.wrap .i64 (x701.Y - p1.Y))⟩ : T_lecternref10_Spot).Y == (⟨(0 : Int), (0 : Int)⟩ : T_lecternref10_Spot).Y) && true)))) 17 96 (.bool (((((⟨(IntKind.wrap .i64 (x700.X - p1.X)), (IntKind.wrap .i64 (x700.Y - p1.Y))⟩ : T_lecternref10_Spot).X == (⟨(0 : Int), (0 : Int)⟩ : T_lecternref10_Spot).X) && (((⟨(IntKind.wrap .i64 (x700.X - p1.X)), (IntKind.wrap .i64 (x700.Y - p1.Y))⟩ : T_lecternref10_Spot).Y == (⟨(0 : Int), (0 : Int)⟩ : T_lecternref10_Spot).Y) && true)) || (((⟨(IntKind.wrap .i64 (x701.X - p1.X)), (IntKind.wrap .i64 (x701.Y - p1.Y))⟩ : T_lecternref10_Spot).X == (⟨(0 : Int), (0 : Int)⟩ : T_lecternref10_Spot).X) && (((⟨(IntKind.wrap .i64 (x701.X - p1.X)), (IntKind.wrap .i64 (x701.Y - p1.Y))⟩ : T_lecternref10_Spot).Y == (⟨(0 : Int), (0 : Int)⟩ : T_lecternref10_Spot).Y) && true))) || ((x730 == (0 : Int)) && (decide ((IntKind.wrap .i64 ((IntKind.wrap .i64 ((⟨(IntKind.wrap .i64 (x700.X - p1.X)), (IntKind.wrap .i64 (x700.Y - p1.Y))⟩ : T_lecternref10_Spot).X * (⟨(IntKind.wrap .i64 (x701.X - p1.X)), (IntKind.wrap .i64 (x701.Y - p1.Y))⟩ : T_lecternref10_Spot).X)) + (IntKind.wrap .i64 ((⟨(IntKind.wrap .i64 (x700.X - p1.X)), (IntKind.wrap .i64 (x700.Y - p1.Y))⟩ : T_lecternref10_Spot).Y * (⟨(IntKind.wrap .i64 (x701.X - p1.X)), (IntKind.wrap .i64 (x701.Y - p1.Y))⟩ : T_lecternref10_Spot).Y)))) < (0 : Int)))))) (fun hb732 => ?_) (fun hb732 => ?_) ?_
          ·
           refine S_off rfl rfl hb732 ?_
           refine S_offD ?_
           refine S_off rfl rfl hb732 ?_
           refine S_offD ?_
           refine S_off rfl rfl hb732 ?_
           refine S_offD ?_
           refine S_off2 rfl rfl ?_
           refine S_offD ?_
           refine S_off2 rfl rfl ?_
           refine S_offD ?_
           refine S_off2 rfl rfl ?_
           refine S_offD ?_
           refine S_off2 rfl rfl ?_
           refine S_offD ?_
           refine S_off2 rfl rfl ?_
           refine S_offD ?_
           refine S_off2 rfl rfl ?_
           refine S_offD ?_
           refine S_off2 rfl rfl ?_
           refine S_offD ?_
           refine S_off2 rfl rfl ?_
           refine S_offD ?_
           refine S_off2 rfl rfl ?_
           refine S_offD ?_
           refine S_off2 rfl rfl ?_
           refine S_offD ?_
           refine S_off2 rfl rfl ?_
           refine S_offD ?_
           refine S_off2 rfl rfl ?_
           refine S_offD ?_
           refine S_off rfl rfl hb732 ?_
           refine S_offD ?_
           refine S_pickT (v := .bool _) rfl hb732 rfl ?_
           refine S_nil ?_
           refine .hd (or_t hb732) ?_
           repeat (first | with_reducible exact WS.refl _ | refine WS.add ?_ rfl)
          ·
           refine S_on rfl rfl hb732 ?_
           refine S_in ?_
           refine S_m (v := .int _ _) rfl ?_
           refine S_nil ?_
           refine S_on rfl rfl hb732 ?_
           refine S_in ?_
           refine S_bin rfl rfl (ev_eql ..) ?_
           refine S_nil ?_
           refine S_on rfl rfl hb732 ?_
           refine S_in ?_
           refine S_m (v := .bool _) rfl ?_
           refine S_nil ?_
           refine S_two (b := (x730 == (0 : Int))) 13 95 (.bool ((x730 == (0 : Int)) && (decide ((IntKind.wrap .i64 ((IntKind.wrap .i64 ((⟨(IntKind.wrap .i64 (x700.X - p1.X)), (IntKind.wrap .i64 (x700.Y - p1.Y))⟩ : T_lecternref10_Spot).X * (⟨(IntKind.wrap .i64 (x701.X - p1.X)), (IntKind.wrap .i64 (x701.Y - p1.Y))⟩ : T_lecternref10_Spot).X)) + (IntKind.wrap .i64 ((⟨(IntKind.wrap .i64 (x700.X - p1.X)), (IntKind.wrap .i64 (x700.Y - p1.Y))⟩ : T_lecternref10_Spot).Y * (⟨(IntKind.wrap .i64 (x701.X - p1.X)), (IntKind.wrap .i64 (x701.Y - p1.Y))⟩ : T_lecternref10_Spot).Y)))) < (0 : Int))))) (fun hb734 => ?_) (fun hb734 => ?_) ?_
           ·
            refine S_on rfl rfl hb734 ?_
            refine S_in ?_
            refine S_faQ rfl ty_fd_52_0 ty_sz_3 rfl ?_
            refine S_nil ?_
            refine S_on rfl rfl hb734 ?_
            refine S_in ?_
            refine S_ldQ rfl (p_one ty_ag_3 ty_sz_3 rfl) ?_
            refine S_nil ?_
            refine S_on rfl rfl hb734 ?_
            refine S_in ?_
            refine S_faQ rfl ty_fd_52_0 ty_sz_3 rfl ?_
            refine S_nil ?_
            refine S_on rfl rfl hb734 ?_
            refine S_in ?_
            refine S_ldQ rfl (p_one ty_ag_3 ty_sz_3 rfl) ?_
            refine S_nil ?_
            refine S_on rfl rfl hb734 ?_
            refine S_in ?_
            refine S_bin rfl rfl (ev_mul ..) ?_
            refine S_nil ?_
            refine S_on rfl rfl hb734 ?_
            refine S_in ?_
            refine S_faQ rfl ty_fd_52_1 ty_sz_3 rfl ?_
            refine S_nil ?_
            refine S_on rfl rfl hb734 ?_
            refine S_in ?_
            refine S_ldQ rfl (p_one ty_ag_3 ty_sz_3 rfl) ?_
            refine S_nil ?_
            refine S_on rfl rfl hb734 ?_
            refine S_in ?_
            refine S_faQ rfl ty_fd_52_1 ty_sz_3 rfl ?_
            refine S_nil ?_
            refine S_on rfl rfl hb734 ?_
            refine S_in ?_
            refine S_ldQ rfl (p_one ty_ag_3 ty_sz_3 rfl) ?_
            refine S_nil ?_
            refine S_on rfl rfl hb734 ?_
            refine S_in ?_
            refine S_bin rfl rfl (ev_mul ..) ?_
            refine S_nil ?_
            refine S_on rfl rfl hb734 ?_
            refine S_in ?_
            refine S_bin rfl rfl (ev_add ..) ?_
            refine S_nil ?_
            refine S_on rfl rfl hb734 ?_
            refine S_in ?_
            refine S_bin rfl rfl (ev_lss ..) ?_
            refine S_nil ?_
            refine S_on rfl rfl hb732 ?_
            refine S_in ?_
            refine S_pickT (v := .bool _) rfl hb734 rfl ?_
            refine S_nil ?_
            refine S_nil ?_
            refine .hd (and_t hb734) ?_
            repeat (first | with_reducible exact WS.refl _ | refine WS.add ?_ rfl)
           ·
            refine S_off rfl rfl hb734 ?_
            refine S_offD ?_
            refine S_off rfl rfl hb734 ?_
            refine S_offD ?_
            refine S_off rfl rfl hb734 ?_
            refine S_offD ?_
            refine S_off rfl rfl hb734 ?_
            refine S_offD ?_
            refine S_off rfl rfl hb734 ?_
            refine S_offD ?_
            refine S_off rfl rfl hb734 ?_
            refine S_offD ?_
            refine S_off rfl rfl hb734 ?_
            refine S_offD ?_
            refine S_off rfl rfl hb734 ?_
            refine S_offD ?_
            refine S_off rfl rfl hb734 ?_
            refine S_offD ?_
            refine S_off rfl rfl hb734 ?_
            refine S_offD ?_
            refine S_off rfl rfl hb734 ?_
            refine S_offD ?_
            refine S_off rfl rfl hb734 ?_
            refine S_offD ?_
            refine S_on rfl rfl hb732 ?_
            refine S_in ?_
            refine S_pickF (v := .bool _) rfl hb734 rfl ?_
            refine S_nil ?_
            refine S_nil ?_
            refine .hd (and_f hb734) ?_
            repeat (first | with_reducible exact WS.refl _ | refine WS.add ?_ rfl)
           refine S_pickF (v := .bool _) rfl hb732 rfl ?_
           refine S_nil ?_
           refine .hd (or_f hb732) ?_
           repeat (first | with_reducible exact WS.refl _ | refine WS.add ?_ rfl)
          refine S_nil ?_
          refine C_if (b := (((((⟨(IntKind.wrap .i64 (x700.X - p1.X)), (IntKind.wrap .i64 (x700.Y - p1.Y))⟩ : T_lecternref10_Spot).X == (⟨(0 : Int), (0 : Int)⟩ : T_lecternref10_Spot).X) && (((⟨(IntKind.wrap .i64 (x700.X - p1.X)), (IntKind.wrap .i64 (x700.Y - p1.Y))⟩ : T_lecternref10_Spot).Y == (⟨(0 : Int), (0 : Int)⟩ : T_lecternref10_Spot).Y) && true)) || (((⟨(IntKind.wrap .i64 (x701.X - p1.X)), (IntKind.wrap .i64 (x701.Y - p1.Y))⟩ : T_lecternref10_Spot).X == (⟨(0 : Int), (0 : Int)⟩ : T_lecternref10_Spot).X) && (((⟨(IntKind.wrap .i64 (x701.X - p1.X)), (IntKind.wrap .i64 (x701.Y - p1.Y))⟩ : T_lecternref10_Spot).Y == (⟨(0 : Int), (0 : Int)⟩ : T_lecternref10_Spot).Y) && true))) || ((x730 == (0 : Int)) && (decide ((IntKind.wrap .i64 ((IntKind.wrap .i64 ((⟨(IntKind.wrap .i64 (x700.X - p1.X)), (IntKind.wrap .i64 (x700.Y - p1.Y))⟩ : T_lecternref10_Spot).X * (⟨(IntKind.wrap .i64 (x701.X - p1.X)), (IntKind.wrap .i64 (x701.Y - p1.Y))⟩ : T_lecternref10_Spot).X)) + (IntKind.wrap .i64 ((⟨(IntKind.wrap .i64 (x700.X - p1.X)), (IntKind.wrap .i64 (x700.Y - p1.Y))⟩ : T_lecternref10_Spot).Y * (⟨(IntKind.wrap .i64 (x701.X - p1.X)), (IntKind.wrap .i64 (x701.Y - p1.Y))⟩ : T_lecternref10_Spot).Y)))) < (0 : Int)))))) rfl hF (fun hb735 hF => ?_) (fun hb735 hF => ?_)
          ·
           refine C_seq ?_
           refine C_reg (mdl []) ?_
           refine S_a (v := .int _ _) rfl ?_
           refine S_a (v := .bool _) rfl ?_
           refine S_nil ?_
           refine WP_ret ?_
           replace hF := hG695 _ (F_some hF)
           replace hF := hG458 _ (F_some hF)
           repeat (first | with_reducible refine Exit.sel_ret ?_ | with_reducible refine Exit.blk_ret ?_ | with_reducible refine Exit.jmp_ret ?_)
           refine C_ret (fn := Tryd.f23) rfl (.tmp (v := .int .i64 (0 : Int)) rfl (.tmp (v := .bool true) rfl .nil)) ?_
           exact ⟨_, _, (.tupC (.cons (.refl _) (.cons (.refl _) (.nil)))), ok.wh, _, F_some hF, rfl, rfl⟩
          ·
           refine WP_skip ?_
           refine C_seq ?_
           refine C_plan (mdl [(97, 3), (99, 3)]) [0, 2, 1, 3, 4, 5, 6, 7] [_, _, _, _, _, _, _, _] (by kernel_rfl) rfl rfl (by kernel_rfl) ?_
           refine S_ldQ rfl (p_agg (vs := c_T_lecternref10_Spot (⟨(IntKind.wrap .i64 (x701.X - p1.X)), (IntKind.wrap .i64 (x701.Y - p1.Y))⟩ : T_lecternref10_Spot)) ty_ag_52 ty_sz_52 rfl rfl) ?_
           refine S_ldQ rfl (p_agg (vs := c_T_lecternref10_Spot (⟨(IntKind.wrap .i64 (x700.X - p1.X)), (IntKind.wrap .i64 (x700.Y - p1.Y))⟩ : T_lecternref10_Spot)) ty_ag_52 ty_sz_52 rfl rfl) ?_
           refine S_call (F_lecternref10_quarter_ok _ hF fun x736 _ hF => ?_) (.cons (.refl _) (.nil))
           refine S_call (F_lecternref10_quarter_ok _ hF fun x737 _ hF => ?_) (.cons (.refl _) (.nil))
           refine S_bin rfl rfl (ev_sub ..) ?_
           refine S_bin rfl rfl (ev_add ..) ?_
           refine S_bin rfl rfl (e_rem rfl) ?_
           refine S_a (v := .int _ _) rfl ?_
           refine S_nil ?_
           refine C_join hF (fun (a742 : Int) s' => OK h [] ∧ WS s' ⟨mkSl 122 [(3, .iptr (c_T_lecternref10_Spot p1)), (6, .int .i64 a692), (8, .iptr (c_T_lecternref10_Stroke x688)), (9, .int .i64 a693), (13, .int .i64 a742), (14, .sl 2 (List.map c_T_lecternref10_Stroke p0) 0), (15, .int .i64 (p0.length : Int)), (16, .int .i64 a456)], Hp h []⟩) (fun J743 hF => ?_) ?_
           ·
            refine C_seq ?_
            refine C_reg (mdl []) ?_
            refine S_m (v := .int _ _) rfl ?_
            refine S_bin rfl rfl (ev_eql ..) ?_
            refine S_m (v := .bool _) rfl ?_
            refine S_two (b := ((Int.tmod (IntKind.wrap .i64 ((IntKind.wrap .i64 (x736 - x737)) + (4 : Int))) (4 : Int)) == (3 : Int))) 7 113 (.bool (((Int.tmod (IntKind.wrap .i64 ((IntKind.wrap .i64 (x736 - x737)) + (4 : Int))) (4 : Int)) == (3 : Int)) || (((Int.tmod (IntKind.wrap .i64 ((IntKind.wrap .i64 (x736 - x737)) + (4 : Int))) (4 : Int)) == (2 : Int)) && (decide (x730 < (0 : Int)))))) (fun hb744 => ?_) (fun hb744 => ?_) ?_
            ·
             refine S_off rfl rfl hb744 ?_
             refine S_offD ?_
             refine S_off rfl rfl hb744 ?_
             refine S_offD ?_
             refine S_off rfl rfl hb744 ?_
             refine S_offD ?_
             refine S_off2 rfl rfl ?_
             refine S_offD ?_
             refine S_off2 rfl rfl ?_
             refine S_offD ?_
             refine S_off rfl rfl hb744 ?_
             refine S_offD ?_
             refine S_pickT (v := .bool _) rfl hb744 rfl ?_
             refine S_nil ?_
             refine .hd (or_t hb744) ?_
             repeat (first | with_reducible exact WS.refl _ | refine WS.add ?_ rfl)
            ·
             refine S_on rfl rfl hb744 ?_
             refine S_in ?_
             refine S_m (v := .int _ _) rfl ?_
             refine S_nil ?_
             refine S_on rfl rfl hb744 ?_
             refine S_in ?_
             refine S_bin rfl rfl (ev_eql ..) ?_
             refine S_nil ?_
             refine S_on rfl rfl hb744 ?_
             refine S_in ?_
             refine S_m (v := .bool _) rfl ?_
             refine S_nil ?_
             refine S_two (b := ((Int.tmod (IntKind.wrap .i64 ((IntKind.wrap .i64 (x736 - x737)) + (4 : Int))) (4 : Int)) == (2 : Int))) 3 112 (.bool (((Int.tmod (IntKind.wrap .i64 ((IntKind.wrap .i64 (x736 - x737)) + (4 : Int))) (4 : Int)) == (2 : Int)) && (decide (x730 < (0 : Int))))) (fun hb746 => ?_) (fun hb746 => ?_) ?_
             ·
              refine S_on rfl rfl hb746 ?_
              refine S_in ?_
              refine S_m (v := .int _ _) rfl ?_
              refine S_nil ?_
              refine S_on rfl rfl hb746 ?_
              refine S_in ?_
              refine S_bin rfl rfl (ev_lss ..) ?_
              refine S_nil ?_
              refine S_on rfl rfl hb744 ?_
              refine S_in ?_
              refine S_pickT (v := .bool _) rfl hb746 rfl ?_
              refine S_nil ?_
              refine S_nil ?_
              refine .hd (and_t hb746) ?_
              repeat (first | with_reducible exact WS.refl _ | refine WS.add ?_ rfl)
             ·
              refine S_off rfl rfl hb746 ?_
              refine S_offD ?_
              refine S_off rfl rfl hb746 ?_
              refine S_offD ?_
              refine S_on rfl rfl hb744 ?_
              refine S_in ?_
              refine S_pickF (v := .bool _) rfl hb746 rfl ?_
              refine S_nil ?_
              refine S_nil ?_
              refine .hd (and_f hb746) ?_
              repeat (first | with_reducible exact WS.refl _ | refine WS.add ?_ rfl)
             refine S_pickF (v := .bool _) rfl hb744 rfl ?_
             refine S_nil ?_
             refine .hd (or_f hb744) ?_
             repeat (first | with_reducible exact WS.refl _ | refine WS.add ?_ rfl)
            refine S_nil ?_
            refine C_if (b := (((Int.tmod (IntKind.wrap .i64 ((IntKind.wrap .i64 (x736 - x737)) + (4 : Int))) (4 : Int)) == (3 : Int)) || (((Int.tmod (IntKind.wrap .i64 ((IntKind.wrap .i64 (x736 - x737)) + (4 : Int))) (4 : Int)) == (2 : Int)) && (decide (x730 < (0 : Int)))))) rfl hF (fun hb747 hF => ?_) (fun hb747 hF => ?_)
            ·
             refine C_reg (mdl []) ?_
             refine S_m (v := .int _ _) rfl ?_
             refine S_bin rfl rfl (ev_sub ..) ?_
             refine S_a (v := .int _ _) rfl ?_
             refine S_nil ?_
             have hwo : WO [(0, .room), (0, .room)] [] := (.drop (.drop .nil))
             exact ⟨(IntKind.wrap .i64 ((Int.tmod (IntKind.wrap .i64 ((IntKind.wrap .i64 (x736 - x737)) + (4 : Int))) (4 : Int)) - (4 : Int))), hF, (hwo.spec ok).1, WS.mk' (.cons (.refl _) (.cons (.refl _) (.cons (.refl _) (.cons (.refl _) (.cons (.refl _) (.cons (.refl _) (.cons (.refl _) (.cons (.refl _) .nil)))))))) ok hwo⟩
            ·
             refine WP_skip ?_
             have hwo : WO [(0, .room), (0, .room)] [] := (.drop (.drop .nil))
             exact ⟨(Int.tmod (IntKind.wrap .i64 ((IntKind.wrap .i64 (x736 - x737)) + (4 : Int))) (4 : Int)), hF, (hwo.spec ok).1, WS.mk' (.cons (.refl _) (.cons (.refl _) (.cons (.refl _) (.cons (.refl _) (.cons (.refl _) (.cons (.refl _) (.cons (.refl _) (.cons (.refl _) .nil)))))))) ok hwo⟩
           ·
            rintro a742 s' hF ⟨ok, hws⟩
            refine WP_ws hws ?_
            clear hws s'
            refine C_reg (mdl []) ?_
            refine S_m (v := .int _ _) rfl ?_
            refine S_m (v := .int _ _) rfl ?_
            refine S_bin rfl rfl (ev_add ..) ?_
            refine S_a (v := .int _ _) rfl ?_
            refine S_nil ?_
            refine C_reg (mdl []) ?_
            refine S_m (v := .int _ _) rfl ?_
            refine S_bin rfl rfl (ev_add ..) ?_
            refine S_a (v := .int _ _) rfl ?_
            refine S_nil ?_
            refine ih697 ((IntKind.wrap .i64 (a692 + a742)), (IntKind.wrap .i64 (a693 + (1 : Int)))) _ hF ?_
            have hwo : WO [] [] := .nil
            exact ⟨(hwo.spec ok).1, WS.mk' (.cons (.refl _) (.cons (.refl _) (.cons (.refl _) (.cons (.refl _) (.cons (.refl _) (.cons (.refl _) (.cons (.refl _) .nil))))))) ok hwo⟩
        ·
         refine S_ldP (j := 0) ok rfl rfl rfl hi703 (p_one (v := .int .i64 x701.Y) ty_ag_3 ty_sz_3 rfl) ?_
         refine S_nil ?_
         refine A_seq [20] [_] 5 #[true, true, true, true, true, true, true, true, true, true, true, true, false, true, true, false, true, true, true, true, true, false, false, false] rfl rfl (by kernel_rfl) (by kernel_rfl) ?_
         refine S_bin rfl rfl (ev_sub ..) ?_
         refine S_nil ?_
         refine A_two 12 22 _ _ #[true, true, true, true, true, true, true, true, true, true, true, true, true, true, true, false, true, true, true, true, true, false, false, false] #[true, true, true, true, true, true, true, true, true, true, true, true, false, true, true, false, true, true, true, true, true, false, true, false] (by kernel_rfl) rfl rfl (by kernel_rfl) (by kernel_rfl) ?_ ?_
         ·
          refine S_ldP (j := 0) ok rfl rfl rfl hi703 (p_one (v := .int .i64 x701.X) ty_ag_3 ty_sz_3 rfl) ?_
          refine S_nil ?_
          refine A_seq [15, 21, 22, 23] [_, _, _, _] 0 #[true, true, true, true, true, true, true, true, true, true, true, true, true, true, true, true, true, true, true, true, true, true, true, true] rfl rfl (by kernel_rfl) (by kernel_rfl) ?_
          refine S_bin rfl rfl (ev_sub ..) ?_
          refine S_bld (v := .agg (c_T_lecternref10_Spot (⟨(IntKind.wrap .i64 (x701.X - p1.X)), (IntKind.wrap .i64 (x701.Y - p1.Y))⟩ : T_lecternref10_Spot))) (b_st ty_zc_52 ty_pl_52 rfl) ?_
          refine S_st (j := 1) (cs' := [.int .i64 (⟨(IntKind.wrap .i64 (x700.X - p1.X)), (IntKind.wrap .i64 (x700.Y - p1.Y))⟩ : T_lecternref10_Spot).X, .int .i64 (⟨(IntKind.wrap .i64 (x700.X - p1.X)), (IntKind.wrap .i64 (x700.Y - p1.Y))⟩ : T_lecternref10_Spot).Y]) ok rfl rfl rfl hi702 rfl ty_sz_52 rfl rfl (fun ok => ?_)
          refine S_st (j := 0) (cs' := [.int .i64 (⟨(IntKind.wrap .i64 (x701.X - p1.X)), (IntKind.wrap .i64 (x701.Y - p1.Y))⟩ : T_lecternref10_Spot).X, .int .i64 (⟨(IntKind.wrap .i64 (x701.X - p1.X)), (IntKind.wrap .i64 (x701.Y - p1.Y))⟩ : T_lecternref10_Spot).Y]) ok rfl rfl rfl hi703 rfl ty_sz_52 rfl rfl (fun ok => ?_)
          refine S_nil ?_
          refine A_end (by kernel_rfl) ?_
          refine C_seq ?_
          refine C_reg (mdl []) ?_
          refine S_frzP 1 10 ok rfl rfl hi702 (fun ok => ?_)
          refine S_frzP 0 11 ok rfl rfl hi703 (fun ok => ?_)
          refine S_ldQ rfl (p_agg (vs := c_T_lecternref10_Spot (⟨(IntKind.wrap .i64 (x700.X - p1.X)), (IntKind.wrap .i64 (x700.Y - p1.Y))⟩ : T_lecternref10_Spot)) ty_ag_52 ty_sz_52 rfl rfl) ?_
          refine S_ldQ rfl (p_agg (vs := c_T_lecternref10_Spot (⟨(IntKind.wrap .i64 (x701.X - p1.X)), (IntKind.wrap .i64 (x701.Y - p1.Y))⟩ : T_lecternref10_Spot)) ty_ag_52 ty_sz_52 rfl rfl) ?_
          refine S_call (F_lecternref10_Cross_ok _ hF fun x752 _ hF => ?_) (.cons (.refl _) (.cons (.refl _) (.nil)))
          refine S_a (v := .int _ _) rfl ?_
          refine S_nil ?_
          refine C_seq ?_
          refine C_seq ?_
          refine C_reg (mdl []) ?_
          refine S_ldQ rfl (p_agg (vs := c_T_lecternref10_Spot (⟨(IntKind.wrap .i64 (x700.X - p1.X)), (IntKind.wrap .i64 (x700.Y - p1.Y))⟩ : T_lecternref10_Spot)) ty_ag_52 ty_sz_52 rfl rfl) ?_
          refine S_bld (v := .agg (c_T_lecternref10_Spot (⟨(0 : Int), (0 : Int)⟩ : T_lecternref10_Spot))) (b_st ty_zc_52 ty_pl_52 rfl) ?_
          refine S_bin rfl rfl (e_agg (b := (((⟨(IntKind.wrap .i64 (x700.X - p1.X)), (IntKind.wrap .i64 (x700.Y - p1.Y))⟩ : T_lecternref10_Spot).X == (⟨(0 : Int), (0 : Int)⟩ : T_lecternref10_Spot).X) && (((⟨(IntKind.wrap .i64 (x700.X - p1.X)), (IntKind.wrap .i64 (x700.Y - p1.Y))⟩ : T_lecternref10_Spot).Y == (⟨(0 : Int), (0 : Int)⟩ : T_lecternref10_Spot).Y) && true))) ty_qg_52 ty_sf_52 (by simp only [c_T_lecternref10_Spot, ev_eqF_cons, ev_eqF_nil, ev_part, ty_sf_52, ty_qg_52, ty_ag_3, ty_sz_3, ty_ki_3, ty_ag_3, ty_sz_3, ty_ki_3, ev_eq_int, ev_eq_str, ev_eq_bool, ev_eq_agg, ev_eq_int2, ev_eq_str2, ev_eq_bool2, List.drop_zero, List.drop_succ_cons, List.length_cons, List.length_nil, List.take_succ_cons, List.take_zero, Option.isSome_some, if_true, Option.bind_some, Option.map_some, Nat.reduceAdd, Nat.reduceLeDiff])) ?_
          refine S_m (v := .bool _) rfl ?_
          refine S_two (b := (((⟨(IntKind.wrap .i64 (x700.X - p1.X)), (IntKind.wrap .i64 (x700.Y - p1.Y))⟩ : T_lecternref10_Spot).X == (⟨(0 : Int), (0 : Int)⟩ : T_lecternref10_Spot).X) && (((⟨(IntKind.wrap .i64 (x700.X - p1.X)), (IntKind.wrap .i64 (x700.Y - p1.Y))⟩ : T_lecternref10_Spot).Y == (⟨(0 : Int), (0 : Int)⟩ : T_lecternref10_Spot).Y) && true))) 4 78 (.bool ((((⟨(IntKind.wrap .i64 (x700.X - p1.X)), (IntKind.wrap .i64 (x700.Y - p1.Y))⟩ : T_lecternref10_Spot).X == (⟨(0 : Int), (0 : Int)⟩ : T_lecternref10_Spot).X) && (((⟨(IntKind.wrap .i64 (x700.X - p1.X)), (IntKind.wrap .i64 (x700.Y - p1.Y))⟩ : T_lecternref10_Spot).Y == (⟨(0 : Int), (0 : Int)⟩ : T_lecternref10_Spot).Y) && true)) || (((⟨(IntKind.wrap .i64 (x701.X - p1.X)), (IntKind.wrap .i64 (x701.Y - p1.Y))⟩ : T_lecternref10_Spot).X == (⟨(0 : Int), (0 : Int)⟩ : T_lecternref10_Spot).X) && (((⟨(IntKind.wrap .i64 (x701.X - p1.X)), (IntKind.wrap .i64 (x701.Y - p1.Y))⟩ : T_lecternref10_Spot).Y == (⟨(0 : Int), (0 : Int)⟩ : T_lecternref10_Spot).Y) && true)))) (fun hb753 => ?_) (fun hb753 => ?_) ?_
          ·
           refine S_off rfl rfl hb753 ?_
           refine S_offD ?_
           refine S_off rfl rfl hb753 ?_
           refine S_offD ?_
           refine S_off rfl rfl hb753 ?_
           refine S_offD ?_
           refine S_pickT (v := .bool _) rfl hb753 rfl ?_
           refine S_nil ?_
           refine .hd (or_t hb753) ?_
           repeat (first | with_reducible exact WS.refl _ | refine WS.add ?_ rfl)
          ·
           refine S_on rfl rfl hb753 ?_
           refine S_in ?_
           refine S_ldQ rfl (p_agg (vs := c_T_lecternref10_Spot (⟨(IntKind.wrap .i64 (x701.X - p1.X)), (IntKind.wrap .i64 (x701.Y - p1.Y))⟩ : T_lecternref10_Spot)) ty_ag_52 ty_sz_52 rfl rfl) ?_
           refine S_nil ?_
           refine S_on rfl rfl hb753 ?_
           refine S_in ?_
           refine S_bld (v := .agg (c_T_lecternref10_Spot (⟨(0 : Int), (0 : Int)⟩ : T_lecternref10_Spot))) (b_st ty_zc_52 ty_pl_52 rfl) ?_
           refine S_nil ?_
           refine S_on rfl rfl hb753 ?_
           refine S_in ?_
           refine S_bin rfl rfl (e_agg (b := (((⟨(IntKind.wrap .i64 (x701.X - p1.X)), (IntKind.wrap .i64 (x701.Y - p1.Y))⟩ : T_lecternref10_Spot).X == (⟨(0 : Int), (0 : Int)⟩ : T_lecternref10_Spot).X) && (((⟨(IntKind.wrap .i64 (x701.X - p1.X)), (IntKind.wrap .i64 (x701.Y - p1.Y))⟩ : T_lecternref10_Spot).Y == (⟨(0 : Int), (0 : Int)⟩ : T_lecternref10_Spot).Y) && true))) ty_qg_52 ty_sf_52 (by simp only [c_T_lecternref10_Spot, ev_eqF_cons, ev_eqF_nil, ev_part, ty_sf_52, ty_qg_52, ty_ag_3, ty_sz_3, ty_ki_3, ty_ag_3, ty_sz_3, ty_ki_3, ev_eq_int, ev_eq_str, ev_eq_bool, ev_eq_agg, ev_eq_int2, ev_eq_str2, ev_eq_bool2, List.drop_zero, List.drop_succ_cons, List.length_cons, List.length_nil, List.take_succ_cons, List.take_zero, Option.isSome_some, if_true, Option.bind_some, Option.map_some, Nat.reduceAdd, Nat.reduceLeDiff])) ?_
           refine S_nil ?_
           refine S_pickF (v := .bool _) rfl hb753 rfl ?_
           refine S_nil ?_
           refine .hd (or_f hb753) ?_
           repeat (first | with_reducible exact WS.refl _ | refine WS.add ?_ rfl)
          refine S_m (v := .bool _) rfl ?_
          refine S_two (b := ((((⟨(IntKind.wrap .i64 (x700.X - p1.X)), (IntKind.wrap .i64 (x700.Y - p1.Y))⟩ : T_lecternref10_Spot).X == (⟨(0 : Int), (0 : Int)⟩ : T_lecternref10_Spot).X) && (((⟨(IntKind.wrap .i64 (x700.X - p1.X)), (IntKind.wrap .i64 (x700.Y - p1.Y))⟩ : T_lecternref10_Spot).Y == (⟨(0 : Int), (0 : Int)⟩ : T_lecternref10_Spot).Y) && true)) || (((⟨(IntKind.wrap .i64 (x701.X - p1.X)), (IntKind.wrap .i64 (x701.Y - p1.Y))⟩ : T_lecternref10_Spot).X == (⟨(0 : Int), (0 : Int)⟩ : T_lecternref10_Spot).X) && (((⟨(IntKind.wrap .i64 (x701.X - p1.X)), (IntKind.wrap .i64 (x701.Y - p1.Y))⟩ : T_lecternref10_Spot).Y == (⟨(0 : Int), (0 : Int)⟩ : T_lecternref10_Spot).Y) && true)))) 17 96 (.bool (((((⟨(IntKind.wrap .i64 (x700.X - p1.X)), (IntKind.wrap .i64 (x700.Y - p1.Y))⟩ : T_lecternref10_Spot).X == (⟨(0 : Int), (0 : Int)⟩ : T_lecternref10_Spot).X) && (((⟨(IntKind.wrap .i64 (x700.X - p1.X)), (IntKind.wrap .i64 (x700.Y - p1.Y))⟩ : T_lecternref10_Spot).Y == (⟨(0 : Int), (0 : Int)⟩ : T_lecternref10_Spot).Y) && true)) || (((⟨(IntKind.wrap .i64 (x701.X - p1.X)), (IntKind.wrap .i64 (x701.Y - p1.Y))⟩ : T_lecternref10_Spot).X == (⟨(0 : Int), (0 : Int)⟩ : T_lecternref10_Spot).X) && (((⟨(IntKind.wrap .i64 (x701.X - p1.X)), (IntKind.wrap .i64 (x701.Y - p1.Y))⟩ : T_lecternref10_Spot).Y == (⟨(0 : Int), (0 : Int)⟩ : T_lecternref10_Spot).Y) && true))) || ((x752 == (0 : Int)) && (decide ((IntKind.wrap .i64 ((IntKind.wrap .i64 ((⟨(IntKind.wrap .i64 (x700.X - p1.X)), (IntKind.wrap .i64 (x700.Y - p1.Y))⟩ : T_lecternref10_Spot).X * (⟨(IntKind.wrap .i64 (x701.X - p1.X)), (IntKind.wrap .i64 (x701.Y - p1.Y))⟩ : T_lecternref10_Spot).X)) + (IntKind.wrap .i64 ((⟨(IntKind.wrap .i64 (x700.X - p1.X)), (IntKind.wrap .i64 (x700.Y - p1.Y))⟩ : T_lecternref10_Spot).Y * (⟨(IntKind.wrap .i64 (x701.X - p1.X)), (IntKind.wrap .i64 (x701.Y - p1.Y))⟩ : T_lecternref10_Spot).Y)))) < (0 : Int)))))) (fun hb754 => ?_) (fun hb754 => ?_) ?_
          ·
           refine S_off rfl rfl hb754 ?_
           refine S_offD ?_
           refine S_off rfl rfl hb754 ?_
           refine S_offD ?_
           refine S_off rfl rfl hb754 ?_
           refine S_offD ?_
           refine S_off2 rfl rfl ?_
           refine S_offD ?_
           refine S_off2 rfl rfl ?_
           refine S_offD ?_
           refine S_off2 rfl rfl ?_
           refine S_offD ?_
           refine S_off2 rfl rfl ?_
           refine S_offD ?_
           refine S_off2 rfl rfl ?_
           refine S_offD ?_
           refine S_off2 rfl rfl ?_
           refine S_offD ?_
           refine S_off2 rfl rfl ?_
           refine S_offD ?_
           refine S_off2 rfl rfl ?_
           refine S_offD ?_
           refine S_off2 rfl rfl ?_
           refine S_offD ?_
           refine S_off2 rfl rfl ?_
           refine S_offD ?_
           refine S_off2 rfl rfl ?_
           refine S_offD ?_
           refine S_off2 rfl rfl ?_
           refine S_offD ?_
           refine S_off rfl rfl hb754 ?_
           refine S_offD ?_
           refine S_pickT (v := .bool _) rfl hb754 rfl ?_
           refine S_nil ?_
           refine .hd (or_t hb754) ?_
           repeat (first | with_reducible exact WS.refl _ | refine WS.add ?_ rfl)
          ·
           refine S_on rfl rfl hb754 ?_
           refine S_in ?_
           refine S_m (v := .int _ _) rfl ?_
           refine S_nil ?_
           refine S_on rfl rfl hb754 ?_
           refine S_in ?_
           refine S_bin rfl rfl (ev_eql ..) ?_
           refine S_nil ?_
           refine S_on rfl rfl hb754 ?_
           refine S_in ?_
           refine S_m (v := .bool _) rfl ?_
           refine S_nil ?_
           refine S_two (b := (x752 == (0 : Int))) 13 95 (.bool ((x752 == (0 : Int)) && (decide ((IntKind.wrap .i64 ((IntKind.wrap .i64 ((⟨(IntKind.wrap .i64 (x700.X - p1.X)), (IntKind.wrap .i64 (x700.Y - p1.Y))⟩ : T_lecternref10_Spot).X * (⟨(IntKind.wrap .i64 (x701.X - p1.X)), (IntKind.wrap .i64 (x701.Y - p1.Y))⟩ : T_lecternref10_Spot).X)) + (IntKind.wrap .i64 ((⟨(IntKind.wrap .i64 (x700.X - p1.X)), (IntKind.wrap .i64 (x700.Y - p1.Y))⟩ : T_lecternref10_Spot).Y * (⟨(IntKind.wrap .i64 (x701.X - p1.X)), (IntKind.wrap .i64 (x701.Y - p1.Y))⟩ : T_lecternref10_Spot).Y)))) < (0 : Int))))) (fun hb756 => ?_) (fun hb756 => ?_) ?_
           ·
            refine S_on rfl rfl hb756 ?_
            refine S_in ?_
            refine S_faQ rfl ty_fd_52_0 ty_sz_3 rfl ?_
            refine S_nil ?_
            refine S_on rfl rfl hb756 ?_
            refine S_in ?_
            refine S_ldQ rfl (p_one ty_ag_3 ty_sz_3 rfl) ?_
            refine S_nil ?_
            refine S_on rfl rfl hb756 ?_
            refine S_in ?_
            refine S_faQ rfl ty_fd_52_0 ty_sz_3 rfl ?_
            refine S_nil ?_
            refine S_on rfl rfl hb756 ?_
            refine S_in ?_
            refine S_ldQ rfl (p_one ty_ag_3 ty_sz_3 rfl) ?_
            refine S_nil ?_
            refine S_on rfl rfl hb756 ?_
            refine S_in ?_
            refine S_bin rfl rfl (ev_mul ..) ?_
            refine S_nil ?_
            refine S_on rfl rfl hb756 ?_
            refine S_in ?_
            refine S_faQ rfl ty_fd_52_1 ty_sz_3 rfl ?_
            refine S_nil ?_
            refine S_on rfl rfl hb756 ?_
            refine S_in ?_
            refine S_ldQ rfl (p_one ty_ag_3 ty_sz_3 rfl) ?_
            refine S_nil ?_
            refine S_on rfl rfl hb756 ?_
            refine S_in ?_
            refine S_faQ rfl ty_fd_52_1 ty_sz_3 rfl ?_
            refine S_nil ?_
            refine S_on rfl rfl hb756 ?_
            refine S_in ?_
            refine S_ldQ rfl (p_one ty_ag_3 ty_sz_3 rfl) ?_
            refine S_nil ?_
            refine S_on rfl rfl hb756 ?_
            refine S_in ?_
            refine S_bin rfl rfl (ev_mul ..) ?_
            refine S_nil ?_
            refine S_on rfl rfl hb756 ?_
            refine S_in ?_
            refine S_bin rfl rfl (ev_add ..) ?_
            refine S_nil ?_
            refine S_on rfl rfl hb756 ?_
            refine S_in ?_
            refine S_bin rfl rfl (ev_lss ..) ?_
            refine S_nil ?_
            refine S_on rfl rfl hb754 ?_
            refine S_in ?_
            refine S_pickT (v := .bool _) rfl hb756 rfl ?_
            refine S_nil ?_
            refine S_nil ?_
            refine .hd (and_t hb756) ?_
            repeat (first | with_reducible exact WS.refl _ | refine WS.add ?_ rfl)
           ·
            refine S_off rfl rfl hb756 ?_
            refine S_offD ?_
            refine S_off rfl rfl hb756 ?_
            refine S_offD ?_
            refine S_off rfl rfl hb756 ?_
            refine S_offD ?_
            refine S_off rfl rfl hb756 ?_
            refine S_offD ?_
            refine S_off rfl rfl hb756 ?_
            refine S_offD ?_
            refine S_off rfl rfl hb756 ?_
            refine S_offD ?_
            refine S_off rfl rfl hb756 ?_
            refine S_offD ?_
            refine S_off rfl rfl hb756 ?_
            refine S_offD ?_
            refine S_off rfl rfl hb756 ?_
            refine S_offD ?_
            refine S_off rfl rfl hb756 ?_
            refine S_offD ?_
            refine S_off rfl rfl hb756 ?_
            refine S_offD ?_
            refine S_off rfl rfl hb756 ?_
            refine S_offD ?_
            refine S_on rfl rfl hb754 ?_
            refine S_in ?_
            refine S_pickF (v := .bool _) rfl hb756 rfl ?_
            refine S_nil ?_
            refine S_nil ?_
            refine .hd (and_f hb756) ?_
            repeat (first | with_reducible exact WS.refl _ | refine WS.add ?_ rfl)
           refine S_pickF (v := .bool _) rfl hb754 rfl ?_
           refine S_nil ?_
           refine .hd (or_f hb754) ?_
           repeat (first | with_reducible exact WS.refl _ | refine WS.add ?_ rfl)
          refine S_nil ?_
          refine C_if (b := (((((⟨(IntKind.wrap .i64 (x700.X - p1.X)), (IntKind.wrap .i64 (x700.Y - p1.Y))⟩ : T_lecternref10_Spot).X == (⟨(0 : Int), (0 : Int)⟩ : T_lecternref10_Spot).X) && (((⟨(IntKind.wrap .i64 (x700.X - p1.X)), (IntKind.wrap .i64 (x700.Y - p1.Y))⟩ : T_lecternref10_Spot).Y == (⟨(0 : Int), (0 : Int)⟩ : T_lecternref10_Spot).Y) && true)) || (((⟨(IntKind.wrap .i64 (x701.X - p1.X)), (IntKind.wrap .i64 (x701.Y - p1.Y))⟩ : T_lecternref10_Spot).X == (⟨(0 : Int), (0 : Int)⟩ : T_lecternref10_Spot).X) && (((⟨(IntKind.wrap .i64 (x701.X - p1.X)), (IntKind.wrap .i64 (x701.Y - p1.Y))⟩ : T_lecternref10_Spot).Y == (⟨(0 : Int), (0 : Int)⟩ : T_lecternref10_Spot).Y) && true))) || ((x752 == (0 : Int)) && (decide ((IntKind.wrap .i64 ((IntKind.wrap .i64 ((⟨(IntKind.wrap .i64 (x700.X - p1.X)), (IntKind.wrap .i64 (x700.Y - p1.Y))⟩ : T_lecternref10_Spot).X * (⟨(IntKind.wrap .i64 (x701.X - p1.X)), (IntKind.wrap .i64 (x701.Y - p1.Y))⟩ : T_lecternref10_Spot).X)) + (IntKind.wrap .i64 ((⟨(IntKind.wrap .i64 (x700.X - p1.X)), (IntKind.wrap .i64 (x700.Y - p1.Y))⟩ : T_lecternref10_Spot).Y * (⟨(IntKind.wrap .i64 (x701.X - p1.X)), (IntKind.wrap .i64 (x701.Y - p1.Y))⟩ : T_lecternref10_Spot).Y)))) < (0 : Int)))))) rfl hF (fun hb757 hF => ?_) (fun hb757 hF => ?_)
          ·
           refine C_seq ?_
           refine C_reg (mdl []) ?_
           refine S_a (v := .int _ _) rfl ?_
           refine S_a (v := .bool _) rfl ?_
           refine S_nil ?_
           refine WP_ret ?_
           replace hF := hG695 _ (F_some hF)
           replace hF := hG458 _ (F_some hF)
           repeat (first | with_reducible refine Exit.sel_ret ?_ | with_reducible refine Exit.blk_ret ?_ | with_reducible refine Exit.jmp_ret ?_)
           refine C_ret (fn := Tryd.f23) rfl (.tmp (v := .int .i64 (0 : Int)) rfl (.tmp (v := .bool true) rfl .nil)) ?_
           exact ⟨_, _, (.tupC (.cons (.refl _) (.cons (.refl _) (.nil)))), ok.wh, _, F_some hF, rfl, rfl⟩
          ·
           refine WP_skip ?_
           refine C_seq ?_
           refine C_plan (mdl [(97, 3), (99, 3)]) [0, 2, 1, 3, 4, 5, 6, 7] [_, _, _, _, _, _, _, _] (by kernel_rfl) rfl rfl (by kernel_rfl) ?_
           refine S_ldQ rfl (p_agg (vs := c_T_lecternref10_Spot (⟨(IntKind.wrap .i64 (x701.X - p1.X)), (IntKind.wrap .i64 (x701.Y - p1.Y))⟩ : T_lecternref10_Spot)) ty_ag_52 ty_sz_52 rfl rfl) ?_
           refine S_ldQ rfl (p_agg (vs := c_T_lecternref10_Spot (⟨(IntKind.wrap .i64 (x700.X - p1.X)), (IntKind.wrap .i64 (x700.Y - p1.Y))⟩ : T_lecternref10_Spot)) ty_ag_52 ty_sz_52 rfl rfl) ?_
           refine S_call (F_lecternref10_quarter_ok _ hF fun x758 _ hF => ?_) (.cons (.refl _) (.nil))
           refine S_call (F_lecternref10_quarter_ok _ hF fun x759 _ hF => ?_) (.cons (.refl _) (.nil))
           refine S_bin rfl rfl (ev_sub ..) ?_
           refine S_bin rfl rfl (ev_add ..) ?_
           refine S_bin rfl rfl (e_rem rfl) ?_
           refine S_a (v := .int _ _) rfl ?_
           refine S_nil ?_
           refine C_join hF (fun (a764 : Int) s' => OK h [] ∧ WS s' ⟨mkSl 122 [(3, .iptr (c_T_lecternref10_Spot p1)), (6, .int .i64 a692), (8, .iptr (c_T_lecternref10_Stroke x688)), (9, .int .i64 a693), (13, .int .i64 a764), (14, .sl 2 (List.map c_T_lecternref10_Stroke p0) 0), (15, .int .i64 (p0.length : Int)), (16, .int .i64 a456)], Hp h []⟩) (fun J765 hF => ?_) ?_
           ·
            refine C_seq ?_
            refine C_reg (mdl []) ?_
            refine S_m (v := .int _ _) rfl ?_
            refine S_bin rfl rfl (ev_eql ..) ?_
            refine S_m (v := .bool _) rfl ?_
            refine S_two (b := ((Int.tmod (IntKind.wrap .i64 ((IntKind.wrap .i64 (x758 - x759)) + (4 : Int))) (4 : Int)) == (3 : Int))) 7 113 (.bool (((Int.tmod (IntKind.wrap .i64 ((IntKind.wrap .i64 (x758 - x759)) + (4 : Int))) (4 : Int)) == (3 : Int)) || (((Int.tmod (IntKind.wrap .i64 ((IntKind.wrap .i64 (x758 - x759)) + (4 : Int))) (4 : Int)) == (2 : Int)) && (decide (x752 < (0 : Int)))))) (fun hb766 => ?_) (fun hb766 => ?_) ?_
            ·
             refine S_off rfl rfl hb766 ?_
             refine S_offD ?_
             refine S_off rfl rfl hb766 ?_
             refine S_offD ?_
             refine S_off rfl rfl hb766 ?_
             refine S_offD ?_
             refine S_off2 rfl rfl ?_
             refine S_offD ?_
             refine S_off2 rfl rfl ?_
             refine S_offD ?_
             refine S_off rfl rfl hb766 ?_
             refine S_offD ?_
             refine S_pickT (v := .bool _) rfl hb766 rfl ?_
             refine S_nil ?_
             refine .hd (or_t hb766) ?_
             repeat (first | with_reducible exact WS.refl _ | refine WS.add ?_ rfl)
            ·
             refine S_on rfl rfl hb766 ?_
             refine S_in ?_
             refine S_m (v := .int _ _) rfl ?_
             refine S_nil ?_
             refine S_on rfl rfl hb766 ?_
             refine S_in ?_
             refine S_bin rfl rfl (ev_eql ..) ?_
             refine S_nil ?_
             refine S_on rfl rfl hb766 ?_
             refine S_in ?_
             refine S_m (v := .bool _) rfl ?_
             refine S_nil ?_
             refine S_two (b := ((Int.tmod (IntKind.wrap .i64 ((IntKind.wrap .i64 (x758 - x759)) + (4 : Int))) (4 : Int)) == (2 : Int))) 3 112 (.bool (((Int.tmod (IntKind.wrap .i64 ((IntKind.wrap .i64 (x758 - x759)) + (4 : Int))) (4 : Int)) == (2 : Int)) && (decide (x752 < (0 : Int))))) (fun hb768 => ?_) (fun hb768 => ?_) ?_
             ·
              refine S_on rfl rfl hb768 ?_
              refine S_in ?_
              refine S_m (v := .int _ _) rfl ?_
              refine S_nil ?_
              refine S_on rfl rfl hb768 ?_
              refine S_in ?_
              refine S_bin rfl rfl (ev_lss ..) ?_
              refine S_nil ?_
              refine S_on rfl rfl hb766 ?_
              refine S_in ?_
              refine S_pickT (v := .bool _) rfl hb768 rfl ?_
              refine S_nil ?_
              refine S_nil ?_
              refine .hd (and_t hb768) ?_
              repeat (first | with_reducible exact WS.refl _ | refine WS.add ?_ rfl)
             ·
              refine S_off rfl rfl hb768 ?_
              refine S_offD ?_
              refine S_off rfl rfl hb768 ?_
              refine S_offD ?_
              refine S_on rfl rfl hb766 ?_
              refine S_in ?_
              refine S_pickF (v := .bool _) rfl hb768 rfl ?_
              refine S_nil ?_
              refine S_nil ?_
              refine .hd (and_f hb768) ?_
              repeat (first | with_reducible exact WS.refl _ | refine WS.add ?_ rfl)
             refine S_pickF (v := .bool _) rfl hb766 rfl ?_
             refine S_nil ?_
             refine .hd (or_f hb766) ?_
             repeat (first | with_reducible exact WS.refl _ | refine WS.add ?_ rfl)
            refine S_nil ?_
            refine C_if (b := (((Int.tmod (IntKind.wrap .i64 ((IntKind.wrap .i64 (x758 - x759)) + (4 : Int))) (4 : Int)) == (3 : Int)) || (((Int.tmod (IntKind.wrap .i64 ((IntKind.wrap .i64 (x758 - x759)) + (4 : Int))) (4 : Int)) == (2 : Int)) && (decide (x752 < (0 : Int)))))) rfl hF (fun hb769 hF => ?_) (fun hb769 hF => ?_)
            ·
             refine C_reg (mdl []) ?_
             refine S_m (v := .int _ _) rfl ?_
             refine S_bin rfl rfl (ev_sub ..) ?_
             refine S_a (v := .int _ _) rfl ?_
             refine S_nil ?_
             have hwo : WO [(0, .room), (0, .room)] [] := (.drop (.drop .nil))
             exact ⟨(IntKind.wrap .i64 ((Int.tmod (IntKind.wrap .i64 ((IntKind.wrap .i64 (x758 - x759)) + (4 : Int))) (4 : Int)) - (4 : Int))), hF, (hwo.spec ok).1, WS.mk' (.cons (.refl _) (.cons (.refl _) (.cons (.refl _) (.cons (.refl _) (.cons (.refl _) (.cons (.refl _) (.cons (.refl _) (.cons (.refl _) .nil)))))))) ok hwo⟩
            ·
             refine WP_skip ?_
             have hwo : WO [(0, .room), (0, .room)] [] := (.drop (.drop .nil))
             exact ⟨(Int.tmod (IntKind.wrap .i64 ((IntKind.wrap .i64 (x758 - x759)) + (4 : Int))) (4 : Int)), hF, (hwo.spec ok).1, WS.mk' (.cons (.refl _) (.cons (.refl _) (.cons (.refl _) (.cons (.refl _) (.cons (.refl _) (.cons (.refl _) (.cons (.refl _) (.cons (.refl _) .nil)))))))) ok hwo⟩
           ·
            rintro a764 s' hF ⟨ok, hws⟩
            refine WP_ws hws ?_
            clear hws s'
            refine C_reg (mdl []) ?_
            refine S_m (v := .int _ _) rfl ?_
            refine S_m (v := .int _ _) rfl ?_
            refine S_bin rfl rfl (ev_add ..) ?_
            refine S_a (v := .int _ _) rfl ?_
            refine S_nil ?_
            refine C_reg (mdl []) ?_
            refine S_m (v := .int _ _) rfl ?_
            refine S_bin rfl rfl (ev_add ..) ?_
            refine S_a (v := .int _ _) rfl ?_
            refine S_nil ?_
            refine ih697 ((IntKind.wrap .i64 (a692 + a764)), (IntKind.wrap .i64 (a693 + (1 : Int)))) _ hF ?_
            have hwo : WO [] [] := .nil
            exact ⟨(hwo.spec ok).1, WS.mk' (.cons (.refl _) (.cons (.refl _) (.cons (.refl _) (.cons (.refl _) (.cons (.refl _) (.cons (.refl _) (.cons (.refl _) .nil))))))) ok hwo⟩
         ·
          refine S_st (j := 1) (cs' := [.int .i64 (⟨(IntKind.wrap .i64 (x700.X - p1.X)), (IntKind.wrap .i64 (x700.Y - p1.Y))⟩ : T_lecternref10_Spot).X, .int .i64 (⟨(IntKind.wrap .i64 (x700.X - p1.X)), (IntKind.wrap .i64 (x700.Y - p1.Y))⟩ : T_lecternref10_Spot).Y]) ok rfl rfl rfl hi702 rfl ty_sz_52 rfl rfl (fun ok => ?_)
          refine S_nil ?_
          refine A_seq [12, 15, 21, 23] [_, _, _, _] 0 #[true, true, true, true, true, true, true, true, true, true, true, true, true, true, true, true, true, true, true, true, true, true, true, true] rfl rfl (by kernel_rfl) (by kernel_rfl) ?_
          refine S_ldP (j := 0) ok rfl rfl rfl hi703 (p_one (v := .int .i64 x701.X) ty_ag_3 ty_sz_3 rfl) ?_
          refine S_bin rfl rfl (ev_sub ..) ?_
          refine S_bld (v := .agg (c_T_lecternref10_Spot (⟨(IntKind.wrap .i64 (x701.X - p1.X)), (IntKind.wrap .i64 (x701.Y - p1.Y))⟩ : T_lecternref10_Spot))) (b_st ty_zc_52 ty_pl_52 rfl) ?_
          refine S_st (j := 0) (cs' := [.int .i64 (⟨(IntKind.wrap .i64 (x701.X - p1.X)), (IntKind.wrap .i64 (x701.Y - p1.Y))⟩ : T_lecternref10_Spot).X, .int .i64 (⟨(IntKind.wrap .i64 (x701.X - p1.X)), (IntKind.wrap .i64 (x701.Y - p1.Y))⟩ : T_lecternref10_Spot).Y]) ok rfl rfl rfl hi703 rfl ty_sz_52 rfl rfl (fun ok => ?_)
          refine S_nil ?_
          refine A_end (by kernel_rfl) ?_
          refine C_seq ?_
          refine C_reg (mdl []) ?_
          refine S_frzP 1 10 ok rfl rfl hi702 (fun ok => ?_)
          refine S_frzP 0 11 ok rfl rfl hi703 (fun ok => ?_)
          refine S_ldQ rfl (p_agg (vs := c_T_lecternref10_Spot (⟨(IntKind.wrap .i64 (x700.X - p1.X)), (IntKind.wrap .i64 (x700.Y - p1.Y))⟩ : T_lecternref10_Spot)) ty_ag_52 ty_sz_52 rfl rfl) ?_
          refine S_ldQ rfl (p_agg (vs := c_T_lecternref10_Spot (⟨(IntKind.wrap .i64 (x701.X - p1.X)), (IntKind.wrap .i64 (x701.Y - p1.Y))⟩ : T_lecternref10_Spot)) ty_ag_52 ty_sz_52 rfl rfl) ?_
          refine S_call (F_lecternref10_Cross_ok _ hF fun x774 _ hF => ?_) (.cons (.refl _) (.cons (.refl _) (.nil)))
          refine S_a (v := .int _ _) rfl ?_
          refine S_nil ?_
          refine C_seq ?_
          refine C_seq ?_
          refine C_reg (mdl []) ?_
          refine S_ldQ rfl (p_agg (vs := c_T_lecternref10_Spot (⟨(IntKind.wrap .i64 (x700.X - p1.X)), (IntKind.wrap .i64 (x700.Y - p1.Y))⟩ : T_lecternref10_Spot)) ty_ag_52 ty_sz_52 rfl rfl) ?_
          refine S_bld (v := .agg (c_T_lecternref10_Spot (⟨(0 : Int), (0 : Int)⟩ : T_lecternref10_Spot))) (b_st ty_zc_52 ty_pl_52 rfl) ?_
          refine S_bin rfl rfl (e_agg (b := (((⟨(IntKind.wrap .i64 (x700.X - p1.X)), (IntKind.wrap .i64 (x700.Y - p1.Y))⟩ : T_lecternref10_Spot).X == (⟨(0 : Int), (0 : Int)⟩ : T_lecternref10_Spot).X) && (((⟨(IntKind.wrap .i64 (x700.X - p1.X)), (IntKind.wrap .i64 (x700.Y - p1.Y))⟩ : T_lecternref10_Spot).Y == (⟨(0 : Int), (0 : Int)⟩ : T_lecternref10_Spot).Y) && true))) ty_qg_52 ty_sf_52 (by simp only [c_T_lecternref10_Spot, ev_eqF_cons, ev_eqF_nil, ev_part, ty_sf_52, ty_qg_52, ty_ag_3, ty_sz_3, ty_ki_3, ty_ag_3, ty_sz_3, ty_ki_3, ev_eq_int, ev_eq_str, ev_eq_bool, ev_eq_agg, ev_eq_int2, ev_eq_str2, ev_eq_bool2, List.drop_zero, List.drop_succ_cons, List.length_cons, List.length_nil, List.take_succ_cons, List.take_zero, Option.isSome_some, if_true, Option.bind_some, Option.map_some, Nat.reduceAdd, Nat.reduceLeDiff])) ?_
          refine S_m (v := .bool _) rfl ?_
          refine S_two (b := (((⟨(IntKind.wrap .i64 (x700.X - p1.X)), (IntKind.wrap .i64 (x700.Y - p1.Y))⟩ : T_lecternref10_Spot).X == (⟨(0 : Int), (0 : Int)⟩ : T_lecternref10_Spot).X) && (((⟨(IntKind.wrap .i64 (x700.X - p1.X)), (IntKind.wrap .i64 (x700.Y - p1.Y))⟩ : T_lecternref10_Spot).Y == (⟨(0 : Int), (0 : Int)⟩ : T_lecternref10_Spot).Y) && true))) 4 78 (.bool ((((⟨(IntKind.wrap .i64 (x700.X - p1.X)), (IntKind.wrap .i64 (x700.Y - p1.Y))⟩ : T_lecternref10_Spot).X == (⟨(0 : Int), (0 : Int)⟩ : T_lecternref10_Spot).X) && (((⟨(IntKind.wrap .i64 (x700.X - p1.X)), (IntKind.wrap .i64 (x700.Y - p1.Y))⟩ : T_lecternref10_Spot).Y == (⟨(0 : Int), (0 : Int)⟩ : T_lecternref10_Spot).Y) && true)) || (((⟨(IntKind.wrap .i64 (x701.X - p1.X)), (IntKind.wrap .i64 (x701.Y - p1.Y))⟩ : T_lecternref10_Spot).X == (⟨(0 : Int), (0 : Int)⟩ : T_lecternref10_Spot).X) && (((⟨(IntKind.wrap .i64 (x701.X - p1.X)), (IntKind.wrap .i64 (x701.Y - p1.Y))⟩ : T_lecternref10_Spot).Y == (⟨(0 : Int), (0 : Int)⟩ : T_lecternref10_Spot).Y) && true)))) (fun hb775 => ?_) (fun hb775 => ?_) ?_
          ·
           refine S_off rfl rfl hb775 ?_
           refine S_offD ?_
           refine S_off rfl rfl hb775 ?_
           refine S_offD ?_
           refine S_off rfl rfl hb775 ?_
           refine S_offD ?_
           refine S_pickT (v := .bool _) rfl hb775 rfl ?_
           refine S_nil ?_
           refine .hd (or_t hb775) ?_
           repeat (first | with_reducible exact WS.refl _ | refine WS.add ?_ rfl)
          ·
           refine S_on rfl rfl hb775 ?_
           refine S_in ?_
           refine S_ldQ rfl (p_agg (vs := c_T_lecternref10_Spot (⟨(IntKind.wrap .i64 (x701.X - p1.X)), (IntKind.wrap .i64 (x701.Y - p1.Y))⟩ : T_lecternref10_Spot)) ty_ag_52 ty_sz_52 rfl rfl) ?_
           refine S_nil ?_
           refine S_on rfl rfl hb775 ?_
           refine S_in ?_
           refine S_bld (v := .agg (c_T_lecternref10_Spot (⟨(0 : Int), (0 : Int)⟩ : T_lecternref10_Spot))) (b_st ty_zc_52 ty_pl_52 rfl) ?_
           refine S_nil ?_
           refine S_on rfl rfl hb775 ?_
           refine S_in ?_
           refine S_bin rfl rfl (e_agg (b := (((⟨(IntKind.wrap .i64 (x701.X - p1.X)), (IntKind.wrap .i64 (x701.Y - p1.Y))⟩ : T_lecternref10_Spot).X == (⟨(0 : Int), (0 : Int)⟩ : T_lecternref10_Spot).X) && (((⟨(IntKind.wrap .i64 (x701.X - p1.X)), (IntKind.wrap .i64 (x701.Y - p1.Y))⟩ : T_lecternref10_Spot).Y == (⟨(0 : Int), (0 : Int)⟩ : T_lecternref10_Spot).Y) && true))) ty_qg_52 ty_sf_52 (by simp only [c_T_lecternref10_Spot, ev_eqF_cons, ev_eqF_nil, ev_part, ty_sf_52, ty_qg_52, ty_ag_3, ty_sz_3, ty_ki_3, ty_ag_3, ty_sz_3, ty_ki_3, ev_eq_int, ev_eq_str, ev_eq_bool, ev_eq_agg, ev_eq_int2, ev_eq_str2, ev_eq_bool2, List.drop_zero, List.drop_succ_cons, List.length_cons, List.length_nil, List.take_succ_cons, List.take_zero, Option.isSome_some, if_true, Option.bind_some, Option.map_some, Nat.reduceAdd, Nat.reduceLeDiff])) ?_
           refine S_nil ?_
           refine S_pickF (v := .bool _) rfl hb775 rfl ?_
           refine S_nil ?_
           refine .hd (or_f hb775) ?_
           repeat (first | with_reducible exact WS.refl _ | refine WS.add ?_ rfl)
          refine S_m (v := .bool _) rfl ?_
          refine S_two (b := ((((⟨(IntKind.wrap .i64 (x700.X - p1.X)), (IntKind.wrap .i64 (x700.Y - p1.Y))⟩ : T_lecternref10_Spot).X == (⟨(0 : Int), (0 : Int)⟩ : T_lecternref10_Spot).X) && (((⟨(IntKind.wrap .i64 (x700.X - p1.X)), (IntKind.wrap .i64 (x700.Y - p1.Y))⟩ : T_lecternref10_Spot).Y == (⟨(0 : Int), (0 : Int)⟩ : T_lecternref10_Spot).Y) && true)) || (((⟨(IntKind.wrap .i64 (x701.X - p1.X)), (IntKind.wrap .i64 (x701.Y - p1.Y))⟩ : T_lecternref10_Spot).X == (⟨(0 : Int), (0 : Int)⟩ : T_lecternref10_Spot).X) && (((⟨(IntKind.wrap .i64 (x701.X - p1.X)), (IntKind.wrap .i64 (x701.Y - p1.Y))⟩ : T_lecternref10_Spot).Y == (⟨(0 : Int), (0 : Int)⟩ : T_lecternref10_Spot).Y) && true)))) 17 96 (.bool (((((⟨(IntKind.wrap .i64 (x700.X - p1.X)), (IntKind.wrap .i64 (x700.Y - p1.Y))⟩ : T_lecternref10_Spot).X == (⟨(0 : Int), (0 : Int)⟩ : T_lecternref10_Spot).X) && (((⟨(IntKind.wrap .i64 (x700.X - p1.X)), (IntKind.wrap .i64 (x700.Y - p1.Y))⟩ : T_lecternref10_Spot).Y == (⟨(0 : Int), (0 : Int)⟩ : T_lecternref10_Spot).Y) && true)) || (((⟨(IntKind.wrap .i64 (x701.X - p1.X)), (IntKind.wrap .i64 (x701.Y - p1.Y))⟩ : T_lecternref10_Spot).X == (⟨(0 : Int), (0 : Int)⟩ : T_lecternref10_Spot).X) && (((⟨(IntKind.wrap .i64 (x701.X - p1.X)), (IntKind.wrap .i64 (x701.Y - p1.Y))⟩ : T_lecternref10_Spot).Y == (⟨(0 : Int), (0 : Int)⟩ : T_lecternref10_Spot).Y) && true))) || ((x774 == (0 : Int)) && (decide ((IntKind.wrap .i64 ((IntKind.wrap .i64 ((⟨(IntKind.wrap .i64 (x700.X - p1.X)), (IntKind.wrap .i64 (x700.Y - p1.Y))⟩ : T_lecternref10_Spot).X * (⟨(IntKind.wrap .i64 (x701.X - p1.X)), (IntKind.wrap .i64 (x701.Y - p1.Y))⟩ : T_lecternref10_Spot).X)) + (IntKind.wrap .i64 ((⟨(IntKind.wrap .i64 (x700.X - p1.X)), (IntKind.wrap .i64 (x700.Y - p1.Y))⟩ : T_lecternref10_Spot).Y * (⟨(IntKind.wrap .i64 (x701.X - p1.X)), (IntKind.wrap .i64 (x701.Y - p1.Y))⟩ : T_lecternref10_Spot).Y)))) < (0 : Int)))))) (fun hb776 => ?_) (fun hb776 => ?_) ?_
          ·
           refine S_off rfl rfl hb776 ?_
           refine S_offD ?_
           refine S_off rfl rfl hb776 ?_
           refine S_offD ?_
           refine S_off rfl rfl hb776 ?_
           refine S_offD ?_
           refine S_off2 rfl rfl ?_
           refine S_offD ?_
           refine S_off2 rfl rfl ?_
           refine S_offD ?_
           refine S_off2 rfl rfl ?_
           refine S_offD ?_
           refine S_off2 rfl rfl ?_
           refine S_offD ?_
           refine S_off2 rfl rfl ?_
           refine S_offD ?_
           refine S_off2 rfl rfl ?_
           refine S_offD ?_
           refine S_off2 rfl rfl ?_
           refine S_offD ?_
           refine S_off2 rfl rfl ?_
           refine S_offD ?_
           refine S_off2 rfl rfl ?_
           refine S_offD ?_
           refine S_off2 rfl rfl ?_
           refine S_offD ?_
           refine S_off2 rfl rfl ?_
           refine S_offD ?_
           refine S_off2 rfl rfl ?_
           refine S_offD ?_
           refine S_off rfl rfl hb776 ?_
           refine S_offD ?_
           refine S_pickT (v := .bool _) rfl hb776 rfl ?_
           refine S_nil ?_
           refine .hd (or_t hb776) ?_
           repeat (first | with_reducible exact WS.refl _ | refine WS.add ?_ rfl)
          ·
           refine S_on rfl rfl hb776 ?_
           refine S_in ?_
           refine S_m (v := .int _ _) rfl ?_
           refine S_nil ?_
           refine S_on rfl rfl hb776 ?_
           refine S_in ?_
           refine S_bin rfl rfl (ev_eql ..) ?_
           refine S_nil ?_
           refine S_on rfl rfl hb776 ?_
           refine S_in ?_
           refine S_m (v := .bool _) rfl ?_
           refine S_nil ?_
           refine S_two (b := (x774 == (0 : Int))) 13 95 (.bool ((x774 == (0 : Int)) && (decide ((IntKind.wrap .i64 ((IntKind.wrap .i64 ((⟨(IntKind.wrap .i64 (x700.X - p1.X)), (IntKind.wrap .i64 (x700.Y - p1.Y))⟩ : T_lecternref10_Spot).X * (⟨(IntKind.wrap .i64 (x701.X - p1.X)), (IntKind.wrap .i64 (x701.Y - p1.Y))⟩ : T_lecternref10_Spot).X)) + (IntKind.wrap .i64 ((⟨(IntKind.wrap .i64 (x700.X - p1.X)), (IntKind.wrap .i64 (x700.Y - p1.Y))⟩ : T_lecternref10_Spot).Y * (⟨(IntKind.wrap .i64 (x701.X - p1.X)), (IntKind.wrap .i64 (x701.Y - p1.Y))⟩ : T_lecternref10_Spot).Y)))) < (0 : Int))))) (fun hb778 => ?_) (fun hb778 => ?_) ?_
           ·
            refine S_on rfl rfl hb778 ?_
            refine S_in ?_
            refine S_faQ rfl ty_fd_52_0 ty_sz_3 rfl ?_
            refine S_nil ?_
            refine S_on rfl rfl hb778 ?_
            refine S_in ?_
            refine S_ldQ rfl (p_one ty_ag_3 ty_sz_3 rfl) ?_
            refine S_nil ?_
            refine S_on rfl rfl hb778 ?_
            refine S_in ?_
            refine S_faQ rfl ty_fd_52_0 ty_sz_3 rfl ?_
            refine S_nil ?_
            refine S_on rfl rfl hb778 ?_
            refine S_in ?_
            refine S_ldQ rfl (p_one ty_ag_3 ty_sz_3 rfl) ?_
            refine S_nil ?_
            refine S_on rfl rfl hb778 ?_
            refine S_in ?_
            refine S_bin rfl rfl (ev_mul ..) ?_
            refine S_nil ?_
            refine S_on rfl rfl hb778 ?_
            refine S_in ?_
            refine S_faQ rfl ty_fd_52_1 ty_sz_3 rfl ?_
            refine S_nil ?_
            refine S_on rfl rfl hb778 ?_
            refine S_in ?_
            refine S_ldQ rfl (p_one ty_ag_3 ty_sz_3 rfl) ?_
            refine S_nil ?_
            refine S_on rfl rfl hb778 ?_
            refine S_in ?_
            refine S_faQ rfl ty_fd_52_1 ty_sz_3 rfl ?_
            refine S_nil ?_
            refine S_on rfl rfl hb778 ?_
            refine S_in ?_
            refine S_ldQ rfl (p_one ty_ag_3 ty_sz_3 rfl) ?_
            refine S_nil ?_
            refine S_on rfl rfl hb778 ?_
            refine S_in ?_
            refine S_bin rfl rfl (ev_mul ..) ?_
            refine S_nil ?_
            refine S_on rfl rfl hb778 ?_
            refine S_in ?_
            refine S_bin rfl rfl (ev_add ..) ?_
            refine S_nil ?_
            refine S_on rfl rfl hb778 ?_
            refine S_in ?_
            refine S_bin rfl rfl (ev_lss ..) ?_
            refine S_nil ?_
            refine S_on rfl rfl hb776 ?_
            refine S_in ?_
            refine S_pickT (v := .bool _) rfl hb778 rfl ?_
            refine S_nil ?_
            refine S_nil ?_
            refine .hd (and_t hb778) ?_
            repeat (first | with_reducible exact WS.refl _ | refine WS.add ?_ rfl)
           ·
            refine S_off rfl rfl hb778 ?_
            refine S_offD ?_
            refine S_off rfl rfl hb778 ?_
            refine S_offD ?_
            refine S_off rfl rfl hb778 ?_
            refine S_offD ?_
            refine S_off rfl rfl hb778 ?_
            refine S_offD ?_
            refine S_off rfl rfl hb778 ?_
            refine S_offD ?_
            refine S_off rfl rfl hb778 ?_
            refine S_offD ?_
            refine S_off rfl rfl hb778 ?_
            refine S_offD ?_
            refine S_off rfl rfl hb778 ?_
            refine S_offD ?_
            refine S_off rfl rfl hb778 ?_
            refine S_offD ?_
            refine S_off rfl rfl hb778 ?_
            refine S_offD ?_
            refine S_off rfl rfl hb778 ?_
            refine S_offD ?_
            refine S_off rfl rfl hb778 ?_
            refine S_offD ?_
            refine S_on rfl rfl hb776 ?_
            refine S_in ?_
            refine S_pickF (v := .bool _) rfl hb778 rfl ?_
            refine S_nil ?_
            refine S_nil ?_
            refine .hd (and_f hb778) ?_
            repeat (first | with_reducible exact WS.refl _ | refine WS.add ?_ rfl)
           refine S_pickF (v := .bool _) rfl hb776 rfl ?_
           refine S_nil ?_
           refine .hd (or_f hb776) ?_
           repeat (first | with_reducible exact WS.refl _ | refine WS.add ?_ rfl)
          refine S_nil ?_
          refine C_if (b := (((((⟨(IntKind.wrap .i64 (x700.X - p1.X)), (IntKind.wrap .i64 (x700.Y - p1.Y))⟩ : T_lecternref10_Spot).X == (⟨(0 : Int), (0 : Int)⟩ : T_lecternref10_Spot).X) && (((⟨(IntKind.wrap .i64 (x700.X - p1.X)), (IntKind.wrap .i64 (x700.Y - p1.Y))⟩ : T_lecternref10_Spot).Y == (⟨(0 : Int), (0 : Int)⟩ : T_lecternref10_Spot).Y) && true)) || (((⟨(IntKind.wrap .i64 (x701.X - p1.X)), (IntKind.wrap .i64 (x701.Y - p1.Y))⟩ : T_lecternref10_Spot).X == (⟨(0 : Int), (0 : Int)⟩ : T_lecternref10_Spot).X) && (((⟨(IntKind.wrap .i64 (x701.X - p1.X)), (IntKind.wrap .i64 (x701.Y - p1.Y))⟩ : T_lecternref10_Spot).Y == (⟨(0 : Int), (0 : Int)⟩ : T_lecternref10_Spot).Y) && true))) || ((x774 == (0 : Int)) && (decide ((IntKind.wrap .i64 ((IntKind.wrap .i64 ((⟨(IntKind.wrap .i64 (x700.X - p1.X)), (IntKind.wrap .i64 (x700.Y - p1.Y))⟩ : T_lecternref10_Spot).X * (⟨(IntKind.wrap .i64 (x701.X - p1.X)), (IntKind.wrap .i64 (x701.Y - p1.Y))⟩ : T_lecternref10_Spot).X)) + (IntKind.wrap .i64 ((⟨(IntKind.wrap .i64 (x700.X - p1.X)), (IntKind.wrap .i64 (x700.Y - p1.Y))⟩ : T_lecternref10_Spot).Y * (⟨(IntKind.wrap .i64 (x701.X - p1.X)), (IntKind.wrap .i64 (x701.Y - p1.Y))⟩ : T_lecternref10_Spot).Y)))) < (0 : Int)))))) rfl hF (fun hb779 hF => ?_) (fun hb779 hF => ?_)
          ·
           refine C_seq ?_
           refine C_reg (mdl []) ?_
           refine S_a (v := .int _ _) rfl ?_
           refine S_a (v := .bool _) rfl ?_
           refine S_nil ?_
           refine WP_ret ?_
           replace hF := hG695 _ (F_some hF)
           replace hF := hG458 _ (F_some hF)
           repeat (first | with_reducible refine Exit.sel_ret ?_ | with_reducible refine Exit.blk_ret ?_ | with_reducible refine Exit.jmp_ret ?_)
           refine C_ret (fn := Tryd.f23) rfl (.tmp (v := .int .i64 (0 : Int)) rfl (.tmp (v := .bool true) rfl .nil)) ?_
           exact ⟨_, _, (.tupC (.cons (.refl _) (.cons (.refl _) (.nil)))), ok.wh, _, F_some hF, rfl, rfl⟩
          ·
           refine WP_skip ?_
           refine C_seq ?_
           refine C_plan (mdl [(97, 3), (99, 3)]) [0, 2, 1, 3, 4, 5, 6, 7] [_, _, _, _, _, _, _, _] (by kernel_rfl) rfl rfl (by kernel_rfl) ?_
           refine S_ldQ rfl (p_agg (vs := c_T_lecternref10_Spot (⟨(IntKind.wrap .i64 (x701.X - p1.X)), (IntKind.wrap .i64 (x701.Y - p1.Y))⟩ : T_lecternref10_Spot)) ty_ag_52 ty_sz_52 rfl rfl) ?_
           refine S_ldQ rfl (p_agg (vs := c_T_lecternref10_Spot (⟨(IntKind.wrap .i64 (x700.X - p1.X)), (IntKind.wrap .i64 (x700.Y - p1.Y))⟩ : T_lecternref10_Spot)) ty_ag_52 ty_sz_52 rfl rfl) ?_
           refine S_call (F_lecternref10_quarter_ok _ hF fun x780 _ hF => ?_) (.cons (.refl _) (.nil))
           refine S_call (F_lecternref10_quarter_ok _ hF fun x781 _ hF => ?_) (.cons (.refl _) (.nil))
           refine S_bin rfl rfl (ev_sub ..) ?_
           refine S_bin rfl rfl (ev_add ..) ?_
           refine S_bin rfl rfl (e_rem rfl) ?_
           refine S_a (v := .int _ _) rfl ?_
           refine S_nil ?_
           refine C_join hF (fun (a786 : Int) s' => OK h [] ∧ WS s' ⟨mkSl 122 [(3, .iptr (c_T_lecternref10_Spot p1)), (6, .int .i64 a692), (8, .iptr (c_T_lecternref10_Stroke x688)), (9, .int .i64 a693), (13, .int .i64 a786), (14, .sl 2 (List.map c_T_lecternref10_Stroke p0) 0), (15, .int .i64 (p0.length : Int)), (16, .int .i64 a456)], Hp h []⟩) (fun J787 hF => ?_) ?_
           ·
            refine C_seq ?_
            refine C_reg (mdl []) ?_
            refine S_m (v := .int _ _) rfl ?_
            refine S_bin rfl rfl (ev_eql ..) ?_
            refine S_m (v := .bool _) rfl ?_
            refine S_two (b := ((Int.tmod (IntKind.wrap .i64 ((IntKind.wrap .i64 (x780 - x781)) + (4 : Int))) (4 : Int)) == (3 : Int))) 7 113 (.bool (((Int.tmod (IntKind.wrap .i64 ((IntKind.wrap .i64 (x780 - x781)) + (4 : Int))) (4 : Int)) == (3 : Int)) || (((Int.tmod (IntKind.wrap .i64 ((IntKind.wrap .i64 (x780 - x781)) + (4 : Int))) (4 : Int)) == (2 : Int)) && (decide (x774 < (0 : Int)))))) (fun hb788 => ?_) (fun hb788 => ?_) ?_
            ·
             refine S_off rfl rfl hb788 ?_
             refine S_offD ?_
             refine S_off rfl rfl hb788 ?_
             refine S_offD ?_
             refine S_off rfl rfl hb788 ?_
             refine S_offD ?_
             refine S_off2 rfl rfl ?_
             refine S_offD ?_
             refine S_off2 rfl rfl ?_
             refine S_offD ?_
             refine S_off rfl rfl hb788 ?_
             refine S_offD ?_
             refine S_pickT (v := .bool _) rfl hb788 rfl ?_
             refine S_nil ?_
             refine .hd (or_t hb788) ?_
             repeat (first | with_reducible exact WS.refl _ | refine WS.add ?_ rfl)
            ·
             refine S_on rfl rfl hb788 ?_
             refine S_in ?_
             refine S_m (v := .int _ _) rfl ?_
             refine S_nil ?_
             refine S_on rfl rfl hb788 ?_
             refine S_in ?_
             refine S_bin rfl rfl (ev_eql ..) ?_
             refine S_nil ?_
             refine S_on rfl rfl hb788 ?_
             refine S_in ?_
             refine S_m (v := .bool _) rfl ?_
             refine S_nil ?_
             refine S_two (b := ((Int.tmod (IntKind.wrap .i64 ((IntKind.wrap .i64 (x780 - x781)) + (4 : Int))) (4 : Int)) == (2 : Int))) 3 112 (.bool (((Int.tmod (IntKind.wrap .i64 ((IntKind.wrap .i64 (x780 - x781)) + (4 : Int))) (4 : Int)) == (2 : Int)) && (decide (x774 < (0 : Int))))) (fun hb790 => ?_) (fun hb790 => ?_) ?_
             ·
              refine S_on rfl rfl hb790 ?_
              refine S_in ?_
              refine S_m (v := .int _ _) rfl ?_
              refine S_nil ?_
              refine S_on rfl rfl hb790 ?_
              refine S_in ?_
              refine S_bin rfl rfl (ev_lss ..) ?_
              refine S_nil ?_
              refine S_on rfl rfl hb788 ?_
              refine S_in ?_
              refine S_pickT (v := .bool _) rfl hb790 rfl ?_
              refine S_nil ?_
              refine S_nil ?_
              refine .hd (and_t hb790) ?_
              repeat (first | with_reducible exact WS.refl _ | refine WS.add ?_ rfl)
             ·
              refine S_off rfl rfl hb790 ?_
              refine S_offD ?_
              refine S_off rfl rfl hb790 ?_
              refine S_offD ?_
              refine S_on rfl rfl hb788 ?_
              refine S_in ?_
              refine S_pickF (v := .bool _) rfl hb790 rfl ?_
              refine S_nil ?_
              refine S_nil ?_
              refine .hd (and_f hb790) ?_
              repeat (first | with_reducible exact WS.refl _ | refine WS.add ?_ rfl)
             refine S_pickF (v := .bool _) rfl hb788 rfl ?_
             refine S_nil ?_
             refine .hd (or_f hb788) ?_
             repeat (first | with_reducible exact WS.refl _ | refine WS.add ?_ rfl)
            refine S_nil ?_
            refine C_if (b := (((Int.tmod (IntKind.wrap .i64 ((IntKind.wrap .i64 (x780 - x781)) + (4 : Int))) (4 : Int)) == (3 : Int)) || (((Int.tmod (IntKind.wrap .i64 ((IntKind.wrap .i64 (x780 - x781)) + (4 : Int))) (4 : Int)) == (2 : Int)) && (decide (x774 < (0 : Int)))))) rfl hF (fun hb791 hF => ?_) (fun hb791 hF => ?_)
            ·
             refine C_reg (mdl []) ?_
             refine S_m (v := .int _ _) rfl ?_
             refine S_bin rfl rfl (ev_sub ..) ?_
             refine S_a (v := .int _ _) rfl ?_
             refine S_nil ?_
             have hwo : WO [(0, .room), (0, .room)] [] := (.drop (.drop .nil))
             exact ⟨(IntKind.wrap .i64 ((Int.tmod (IntKind.wrap .i64 ((IntKind.wrap .i64 (x780 - x781)) + (4 : Int))) (4 : Int)) - (4 : Int))), hF, (hwo.spec ok).1, WS.mk' (.cons (.refl _) (.cons (.refl _) (.cons (.refl _) (.cons (.refl _) (.cons (.refl _) (.cons (.refl _) (.cons (.refl _) (.cons (.refl _) .nil)))))))) ok hwo⟩
            ·
             refine WP_skip ?_
             have hwo : WO [(0, .room), (0, .room)] [] := (.drop (.drop .nil))
             exact ⟨(Int.tmod (IntKind.wrap .i64 ((IntKind.wrap .i64 (x780 - x781)) + (4 : Int))) (4 : Int)), hF, (hwo.spec ok).1, WS.mk' (.cons (.refl _) (.cons (.refl _) (.cons (.refl _) (.cons (.refl _) (.cons (.refl _) (.cons (.refl _) (.cons (.refl _) (.cons (.refl _) .nil)))))))) ok hwo⟩
           ·
            rintro a786 s' hF ⟨ok, hws⟩
            refine WP_ws hws ?_
            clear hws s'
            refine C_reg (mdl []) ?_
            refine S_m (v := .int _ _) rfl ?_
            refine S_m (v := .int _ _) rfl ?_
            refine S_bin rfl rfl (ev_add ..) ?_
            refine S_a (v := .int _ _) rfl ?_
            refine S_nil ?_
            refine C_reg (mdl []) ?_
            refine S_m (v := .int _ _) rfl ?_
            refine S_bin rfl rfl (ev_add ..) ?_
            refine S_a (v := .int _ _) rfl ?_
            refine S_nil ?_
            refine ih697 ((IntKind.wrap .i64 (a692 + a786)), (IntKind.wrap .i64 (a693 + (1 : Int)))) _ hF ?_
            have hwo : WO [] [] := .nil
            exact ⟨(hwo.spec ok).1, WS.mk' (.cons (.refl _) (.cons (.refl _) (.cons (.refl _) (.cons (.refl _) (.cons (.refl _) (.cons (.refl _) (.cons (.refl _) .nil))))))) ok hwo⟩
        ·
         refine S_st (j := 1) (cs' := [.int .i64 (⟨(IntKind.wrap .i64 (x700.X - p1.X)), (IntKind.wrap .i64 (x700.Y - p1.Y))⟩ : T_lecternref10_Spot).X, .int .i64 (⟨(IntKind.wrap .i64 (x700.X - p1.X)), (IntKind.wrap .i64 (x700.Y - p1.Y))⟩ : T_lecternref10_Spot).Y]) ok rfl rfl rfl hi702 rfl ty_sz_52 rfl rfl (fun ok => ?_)
         refine S_nil ?_
         refine A_seq [12, 15, 17, 20, 21, 23] [_, _, _, _, _, _] 0 #[true, true, true, true, true, true, true, true, true, true, true, true, true, true, true, true, true, true, true, true, true, true, true, true] rfl rfl (by kernel_rfl) (by kernel_rfl) ?_
         refine S_ldP (j := 0) ok rfl rfl rfl hi703 (p_one (v := .int .i64 x701.X) ty_ag_3 ty_sz_3 rfl) ?_
         refine S_bin rfl rfl (ev_sub ..) ?_
         refine S_ldP (j := 0) ok rfl rfl rfl hi703 (p_one (v := .int .i64 x701.Y) ty_ag_3 ty_sz_3 rfl) ?_
         refine S_bin rfl rfl (ev_sub ..) ?_
         refine S_bld (v := .agg (c_T_lecternref10_Spot (⟨(IntKind.wrap .i64 (x701.X - p1.X)), (IntKind.wrap .i64 (x701.Y - p1.Y))⟩ : T_lecternref10_Spot))) (b_st ty_zc_52 ty_pl_52 rfl) ?_
         refine S_st (j := 0) (cs' := [.int .i64 (⟨(IntKind.wrap .i64 (x701.X - p1.X)), (IntKind.wrap .i64 (x701.Y - p1.Y))⟩ : T_lecternref10_Spot).X, .int .i64 (⟨(IntKind.wrap .i64 (x701.X - p1.X)), (IntKind.wrap .i64 (x701.Y - p1.Y))⟩ : T_lecternref10_Spot).Y]) ok rfl rfl rfl hi703 rfl ty_sz_52 rfl rfl (fun ok => ?_)
         refine S_nil ?_
         refine A_end (by kernel_rfl) ?_
         refine C_seq ?_
         refine C_reg (mdl []) ?_
         refine S_frzP 1 10 ok rfl rfl hi702 (fun ok => ?_)
         refine S_frzP 0 11 ok rfl rfl hi703 (fun ok => ?_)
         refine S_ldQ rfl (p_agg (vs := c_T_lecternref10_Spot (⟨(IntKind.wrap .i64 (x700.X - p1.X)), (IntKind.wrap .i64 (x700.Y - p1.Y))⟩ : T_lecternref10_Spot)) ty_ag_52 ty_sz_52 rfl rfl) ?_
         refine S_ldQ rfl (p_agg (vs := c_T_lecternref10_Spot (⟨(IntKind.wrap .i64 (x701.X - p1.X)), (IntKind.wrap .i64 (x701.Y - p1.Y))⟩ : T_lecternref10_Spot)) ty_ag_52 ty_sz_52 rfl rfl) ?_
         refine S_call (F_lecternref10_Cross_ok _ hF fun x796 _ hF => ?_) (.cons (.refl _) (.cons (.refl _) (.nil)))
         refine S_a (v := .int _ _) rfl ?_
         refine S_nil ?_
         refine C_seq ?_
         refine C_seq ?_
         refine C_reg (mdl []) ?_
         refine S_ldQ rfl (p_agg (vs := c_T_lecternref10_Spot (⟨(IntKind.wrap .i64 (x700.X - p1.X)), (IntKind.wrap .i64 (x700.Y - p1.Y))⟩ : T_lecternref10_Spot)) ty_ag_52 ty_sz_52 rfl rfl) ?_
         refine S_bld (v := .agg (c_T_lecternref10_Spot (⟨(0 : Int), (0 : Int)⟩ : T_lecternref10_Spot))) (b_st ty_zc_52 ty_pl_52 rfl) ?_
         refine S_bin rfl rfl (e_agg (b := (((⟨(IntKind.wrap .i64 (x700.X - p1.X)), (IntKind.wrap .i64 (x700.Y - p1.Y))⟩ : T_lecternref10_Spot).X == (⟨(0 : Int), (0 : Int)⟩ : T_lecternref10_Spot).X) && (((⟨(IntKind.wrap .i64 (x700.X - p1.X)), (IntKind.wrap .i64 (x700.Y - p1.Y))⟩ : T_lecternref10_Spot).Y == (⟨(0 : Int), (0 : Int)⟩ : T_lecternref10_Spot).Y) && true))) ty_qg_52 ty_sf_52 (by simp only [c_T_lecternref10_Spot, ev_eqF_cons, ev_eqF_nil, ev_part, ty_sf_52, ty_qg_52, ty_ag_3, ty_sz_3, ty_ki_3, ty_ag_3, ty_sz_3, ty_ki_3, ev_eq_int, ev_eq_str, ev_eq_bool, ev_eq_agg, ev_eq_int2, ev_eq_str2, ev_eq_bool2, List.drop_zero, List.drop_succ_cons, List.length_cons, List.length_nil, List.take_succ_cons, List.take_zero, Option.isSome_some, if_true, Option.bind_some, Option.map_some, Nat.reduceAdd, Nat.reduceLeDiff])) ?_
         refine S_m (v := .bool _) rfl ?_
         refine S_two (b := (((⟨(IntKind.wrap .i64 (x700.X - p1.X)), (IntKind.wrap .i64 (x700.Y - p1.Y))⟩ : T_lecternref10_Spot).X == (⟨(0 : Int), (0 : Int)⟩ : T_lecternref10_Spot).X) && (((⟨(IntKind.wrap .i64 (x700.X - p1.X)), (IntKind.wrap .i64 (x700.Y - p1.Y))⟩ : T_lecternref10_Spot).Y == (⟨(0 : Int), (0 : Int)⟩ : T_lecternref10_Spot).Y) && true))) 4 78 (.bool ((((⟨(IntKind.wrap .i64 (x700.X - p1.X)), (IntKind.wrap .i64 (x700.Y - p1.Y))⟩ : T_lecternref10_Spot).X == (⟨(0 : Int), (0 : Int)⟩ : T_lecternref10_Spot).X) && (((⟨(IntKind.wrap .i64 (x700.X - p1.X)), (IntKind.wrap .i64 (x700.Y - p1.Y))⟩ : T_lecternref10_Spot).Y == (⟨(0 : Int), (0 : Int)⟩ : T_lecternref10_Spot).Y) && true)) || (((⟨(IntKind.wrap .i64 (x701.X - p1.X)), (IntKind.wrap .i64 (x701.Y - p1.Y))⟩ : T_lecternref10_Spot).X == (⟨(0 : Int), (0 : Int)⟩ : T_lecternref10_Spot).X) && (((⟨(IntKind.wrap .i64 (x701.X - p1.X)), (IntKind.wrap .i64 (x701.Y - p1.Y))⟩ : T_lecternref10_Spot).Y == (⟨(0 : Int), (0 : Int)⟩ : T_lecternref10_Spot).Y) && true)))) (fun hb797 => ?_) (fun hb797 => ?_) ?_
         ·
          refine S_off rfl rfl hb797 ?_
          refine S_offD ?_
          refine S_off rfl rfl hb797 ?_
          refine S_offD ?_
          refine S_off rfl rfl hb797 ?_
          refine S_offD ?_
          refine S_pickT (v := .bool _) rfl hb797 rfl ?_
          refine S_nil ?_
          refine .hd (or_t hb797) ?_
          repeat (first | with_reducible exact WS.refl _ | refine WS.add ?_ rfl)
         ·
          refine S_on rfl rfl hb797 ?_
          refine S_in ?_
          refine S_ldQ rfl (p_agg (vs := c_T_lecternref10_Spot (⟨(IntKind.wrap .i64 (x701.X - p1.X)), (IntKind.wrap .i64 (x701.Y - p1.Y))⟩ : T_lecternref10_Spot)) ty_ag_52 ty_sz_52 rfl rfl) ?_
          refine S_nil ?_
          refine S_on rfl rfl hb797 ?_
          refine S_in ?_
          refine S_bld (v := .agg (c_T_lecternref10_Spot (⟨(0 : Int), (0 : Int)⟩ : T_lecternref10_Spot))) (b_st ty_zc_52 ty_pl_52 rfl) ?_
          refine S_nil ?_
          refine S_on rfl rfl hb797 ?_
          refine S_in ?_
          refine S_bin rfl rfl (e_agg (b := (((⟨(IntKind.wrap .i64 (x701.X - p1.X)), (IntKind.wrap .i64 (x701.Y - p1.Y))⟩ : T_lecternref10_Spot).X == (⟨(0 : Int), (0 : Int)⟩ : T_lecternref10_Spot).X) && (((⟨(IntKind.wrap .i64 (x701.X - p1.X)), (IntKind.wrap .i64 (x701.Y - p1.Y))⟩ : T_lecternref10_Spot).Y == (⟨(0 : Int), (0 : Int)⟩ : T_lecternref10_Spot).Y) && true))) ty_qg_52 ty_sf_52 (by simp only [c_T_lecternref10_Spot, ev_eqF_cons, ev_eqF_nil, ev_part, ty_sf_52, ty_qg_52, ty_ag_3, ty_sz_3, ty_ki_3, ty_ag_3, ty_sz_3, ty_ki_3, ev_eq_int, ev_eq_str, ev_eq_bool, ev_eq_agg, ev_eq_int2, ev_eq_str2, ev_eq_bool2, List.drop_zero, List.drop_succ_cons, List.length_cons, List.length_nil, List.take_succ_cons, List.take_zero, Option.isSome_some, if_true, Option.bind_some, Option.map_some, Nat.reduceAdd, Nat.reduceLeDiff])) ?_
          refine S_nil ?_
          refine S_pickF (v := .bool _) rfl hb797 rfl ?_
          refine S_nil ?_
          refine .hd (or_f hb797) ?_
          repeat (first | with_reducible exact WS.refl _ | refine WS.add ?_ rfl)
         refine S_m (v := .bool _) rfl ?_
         refine S_two (b := ((((⟨(IntKind.wrap .i64 (x700.X - p1.X)), (IntKind.wrap .i64 (x700.Y - p1.Y))⟩ : T_lecternref10_Spot).X == (⟨(0 : Int), (0 : Int)⟩ : T_lecternref10_Spot).X) && (((⟨(IntKind.wrap .i64 (x700.X - p1.X)), (IntKind.wrap .i64 (x700.Y - p1.Y))⟩ : T_lecternref10_Spot).Y == (⟨(0 : Int), (0 : Int)⟩ : T_lecternref10_Spot).Y) && true)) || (((⟨(IntKind.wrap .i64 (x701.X - p1.X)), (IntKind.wrap .i64 (x701.Y - p1.Y))⟩ : T_lecternref10_Spot).X == (⟨(0 : Int), (0 : Int)⟩ : T_lecternref10_Spot).X) && (((⟨(IntKind.wrap .i64 (x701.X - p1.X)), (IntKind.wrap .i64 (x701.Y - p1.Y))⟩ : T_lecternref10_Spot).Y == (⟨(0 : Int), (0 : Int)⟩ : T_lecternref10_Spot).Y) && true)))) 17 96 (.bool (((((⟨(IntKind.wrap .i64 (x700.X - p1.X)), (IntKind.wrap .i64 (x700.Y - p1.Y))⟩ : T_lecternref10_Spot).X == (⟨(0 : Int), (0 : Int)⟩ : T_lecternref10_Spot).X) && (((⟨(IntKind.wrap .i64 (x700.X - p1.X)), (IntKind.wrap .i64 (x700.Y - p1.Y))⟩ : T_lecternref10_Spot).Y == (⟨(0 : Int), (0 : Int)⟩ : T_lecternref10_Spot).Y) && true)) || (((⟨(IntKind.wrap .i64 (x701.X - p1.X)), (IntKind.wrap .i64 (x701.Y - p1.Y))⟩ : T_lecternref10_Spot).X == (⟨(0 : Int), (0 : Int)⟩ : T_lecternref10_Spot).X) && (((⟨(IntKind.wrap .i64 (x701.X - p1.X)), (IntKind.wrap .i64 (x701.Y - p1.Y))⟩ : T_lecternref10_Spot).Y == (⟨(0 : Int), (0 : Int)⟩ : T_lecternref10_Spot).Y) && true))) || ((x796 == (0 : Int)) && (decide ((IntKind.wrap .i64 ((IntKind.wrap .i64 ((⟨(IntKind.wrap .i64 (x700.X - p1.X)), (IntKind.wrap .i64 (x700.Y - p1.Y))⟩ : T_lecternref10_Spot).X * (⟨(IntKind.wrap .i64 (x701.X - p1.X)), (IntKind.wrap .i64 (x701.Y - p1.Y))⟩ : T_lecternref10_Spot).X)) + (IntKind.wrap .i64 ((⟨(IntKind.wrap .i64 (x700.X - p1.X)), (IntKind.wrap .i64 (x700.Y - p1.Y))⟩ : T_lecternref10_Spot).Y * (⟨(IntKind.wrap .i64 (x701.X - p1.X)), (IntKind.wrap .i64 (x701.Y - p1.Y))⟩ : T_lecternref10_Spot).Y)))) < (0 : Int)))))) (fun hb798 => ?_) (fun hb798 => ?_) ?_
         ·
          refine S_off rfl rfl hb798 ?_
          refine S_offD ?_
          refine S_off rfl rfl hb798 ?_
          refine S_offD ?_
          refine S_off rfl rfl hb798 ?_
          refine S_offD ?_
          refine S_off2 rfl rfl ?_
          refine S_offD ?_
          refine S_off2 rfl rfl ?_
          refine S_offD ?_
          refine S_off2 rfl rfl ?_
          refine S_offD ?_
          refine S_off2 rfl rfl ?_
          refine S_offD ?_
          refine S_off2 rfl rfl ?_
          refine S_offD ?_
          refine S_off2 rfl rfl ?_
          refine S_offD ?_
          refine S_off2 rfl rfl ?_
          refine S_offD ?_
          refine S_off2 rfl rfl ?_
          refine S_offD ?_
          refine S_off2 rfl rfl ?_
          refine S_offD ?_
          refine S_off2 rfl rfl ?_
          refine S_offD ?_
          refine S_off2 rfl rfl ?_
          refine S_offD ?_
          refine S_off2 rfl rfl ?_
          refine S_offD ?_
          refine S_off rfl rfl hb798 ?_
          refine S_offD ?_
          refine S_pickT (v := .bool _) rfl hb798 rfl ?_
          refine S_nil ?_
          refine .hd (or_t hb798) ?_
          repeat (first | with_reducible exact WS.refl _ | refine WS.add ?_ rfl)
         ·
          refine S_on rfl rfl hb798 ?_
          refine S_in ?_
          refine S_m (v := .int _ _) rfl ?_
          refine S_nil ?_
          refine S_on rfl rfl hb798 ?_
          refine S_in ?_
          refine S_bin rfl rfl (ev_eql ..) ?_
          refine S_nil ?_
          refine S_on rfl rfl hb798 ?_
          refine S_in ?_
          refine S_m (v := .bool _) rfl ?_
          refine S_nil ?_
          refine S_two (b := (x796 == (0 : Int))) 13 95 (.bool ((x796 == (0 : Int)) && (decide ((IntKind.wrap .i64 ((IntKind.wrap .i64 ((⟨(IntKind.wrap .i64 (x700.X - p1.X)), (IntKind.wrap .i64 (x700.Y - p1.Y))⟩ : T_lecternref10_Spot).X * (⟨(IntKind.wrap .i64 (x701.X - p1.X)), (IntKind.wrap .i64 (x701.Y - p1.Y))⟩ : T_lecternref10_Spot).X)) + (IntKind.wrap .i64 ((⟨(IntKind.wrap .i64 (x700.X - p1.X)), (IntKind.wrap .i64 (x700.Y - p1.Y))⟩ : T_lecternref10_Spot).Y * (⟨(IntKind.wrap .i64 (x701.X - p1.X)), (IntKind.wrap .i64 (x701.Y - p1.Y))⟩ : T_lecternref10_Spot).Y)))) < (0 : Int))))) (fun hb800 => ?_) (fun hb800 => ?_) ?_
          ·
           refine S_on rfl rfl hb800 ?_
           refine S_in ?_
           refine S_faQ rfl ty_fd_52_0 ty_sz_3 rfl ?_
           refine S_nil ?_
           refine S_on rfl rfl hb800 ?_
           refine S_in ?_
           refine S_ldQ rfl (p_one ty_ag_3 ty_sz_3 rfl) ?_
           refine S_nil ?_
           refine S_on rfl rfl hb800 ?_
           refine S_in ?_
           refine S_faQ rfl ty_fd_52_0 ty_sz_3 rfl ?_
           refine S_nil ?_
           refine S_on rfl rfl hb800 ?_
           refine S_in ?_
           refine S_ldQ rfl (p_one ty_ag_3 ty_sz_3 rfl) ?_
           refine S_nil ?_
           refine S_on rfl rfl hb800 ?_
           refine S_in ?_
           refine S_bin rfl rfl (ev_mul ..) ?_
           refine S_nil ?_
           refine S_on rfl rfl hb800 ?_
           refine S_in ?_
           refine S_faQ rfl ty_fd_52_1 ty_sz_3 rfl ?_
           refine S_nil ?_
           refine S_on rfl rfl hb800 ?_
           refine S_in ?_
           refine S_ldQ rfl (p_one ty_ag_3 ty_sz_3 rfl) ?_
           refine S_nil ?_
           refine S_on rfl rfl hb800 ?_
           refine S_in ?_
           refine S_faQ rfl ty_fd_52_1 ty_sz_3 rfl ?_
           refine S_nil ?_
           refine S_on rfl rfl hb800 ?_
           refine S_in ?_
           refine S_ldQ rfl (p_one ty_ag_3 ty_sz_3 rfl) ?_
           refine S_nil ?_
           refine S_on rfl rfl hb800 ?_
           refine S_in ?_
           refine S_bin rfl rfl (ev_mul ..) ?_
           refine S_nil ?_
           refine S_on rfl rfl hb800 ?_
           refine S_in ?_
           refine S_bin rfl rfl (ev_add ..) ?_
           refine S_nil ?_
           refine S_on rfl rfl hb800 ?_
           refine S_in ?_
           refine S_bin rfl rfl (ev_lss ..) ?_
           refine S_nil ?_
           refine S_on rfl rfl hb798 ?_
           refine S_in ?_
           refine S_pickT (v := .bool _) rfl hb800 rfl ?_
           refine S_nil ?_
           refine S_nil ?_
           refine .hd (and_t hb800) ?_
           repeat (first | with_reducible exact WS.refl _ | refine WS.add ?_ rfl)
          ·
           refine S_off rfl rfl hb800 ?_
           refine S_offD ?_
           refine S_off rfl rfl hb800 ?_
           refine S_offD ?_
           refine S_off rfl rfl hb800 ?_
           refine S_offD ?_
           refine S_off rfl rfl hb800 ?_
           refine S_offD ?_
           refine S_off rfl rfl hb800 ?_
           refine S_offD ?_
           refine S_off rfl rfl hb800 ?_
           refine S_offD ?_
           refine S_off rfl rfl hb800 ?_
           refine S_offD ?_
           refine S_off rfl rfl hb800 ?_
           refine S_offD ?_
           refine S_off rfl rfl hb800 ?_
           refine S_offD ?_
           refine S_off rfl rfl hb800 ?_
           refine S_offD ?_
           refine S_off rfl rfl hb800 ?_
           refine S_offD ?_
           refine S_off rfl rfl hb800 ?_
           refine S_offD ?_
           refine S_on rfl rfl hb798 ?_
           refine S_in ?_
           refine S_pickF (v := .bool _) rfl hb800 rfl ?_
           refine S_nil ?_
           refine S_nil ?_
           refine .hd (and_f hb800) ?_
           repeat (first | with_reducible exact WS.refl _ | refine WS.add ?_ rfl)
          refine S_pickF (v := .bool _) rfl hb798 rfl ?_
          refine S_nil ?_
          refine .hd (or_f hb798) ?_
          repeat (first | with_reducible exact WS.refl _ | refine WS.add ?_ rfl)
         refine S_nil ?_
         refine C_if (b := (((((⟨(IntKind.wrap .i64 (x700.X - p1.X)), (IntKind.wrap .i64 (x700.Y - p1.Y))⟩ : T_lecternref10_Spot).X == (⟨(0 : Int), (0 : Int)⟩ : T_lecternref10_Spot).X) && (((⟨(IntKind.wrap .i64 (x700.X - p1.X)), (IntKind.wrap .i64 (x700.Y - p1.Y))⟩ : T_lecternref10_Spot).Y == (⟨(0 : Int), (0 : Int)⟩ : T_lecternref10_Spot).Y) && true)) || (((⟨(IntKind.wrap .i64 (x701.X - p1.X)), (IntKind.wrap .i64 (x701.Y - p1.Y))⟩ : T_lecternref10_Spot).X == (⟨(0 : Int), (0 : Int)⟩ : T_lecternref10_Spot).X) && (((⟨(IntKind.wrap .i64 (x701.X - p1.X)), (IntKind.wrap .i64 (x701.Y - p1.Y))⟩ : T_lecternref10_Spot).Y == (⟨(0 : Int), (0 : Int)⟩ : T_lecternref10_Spot).Y) && true))) || ((x796 == (0 : Int)) && (decide ((IntKind.wrap .i64 ((IntKind.wrap .i64 ((⟨(IntKind.wrap .i64 (x700.X - p1.X)), (IntKind.wrap .i64 (x700.Y - p1.Y))⟩ : T_lecternref10_Spot).X * (⟨(IntKind.wrap .i64 (x701.X - p1.X)), (IntKind.wrap .i64 (x701.Y - p1.Y))⟩ : T_lecternref10_Spot).X)) + (IntKind.wrap .i64 ((⟨(IntKind.wrap .i64 (x700.X - p1.X)), (IntKind.wrap .i64 (x700.Y - p1.Y))⟩ : T_lecternref10_Spot).Y * (⟨(IntKind.wrap .i64 (x701.X - p1.X)), (IntKind.wrap .i64 (x701.Y - p1.Y))⟩ : T_lecternref10_Spot).Y)))) < (0 : Int)))))) rfl hF (fun hb801 hF => ?_) (fun hb801 hF => ?_)
         ·
          refine C_seq ?_
          refine C_reg (mdl []) ?_
          refine S_a (v := .int _ _) rfl ?_
          refine S_a (v := .bool _) rfl ?_
          refine S_nil ?_
          refine WP_ret ?_
          replace hF := hG695 _ (F_some hF)
          replace hF := hG458 _ (F_some hF)
          repeat (first | with_reducible refine Exit.sel_ret ?_ | with_reducible refine Exit.blk_ret ?_ | with_reducible refine Exit.jmp_ret ?_)
          refine C_ret (fn := Tryd.f23) rfl (.tmp (v := .int .i64 (0 : Int)) rfl (.tmp (v := .bool true) rfl .nil)) ?_
          exact ⟨_, _, (.tupC (.cons (.refl _) (.cons (.refl _) (.nil)))), ok.wh, _, F_some hF, rfl, rfl⟩
         ·
          refine WP_skip ?_
          refine C_seq ?_
          refine C_plan (mdl [(97, 3), (99, 3)]) [0, 2, 1, 3, 4, 5, 6, 7] [_, _, _, _, _, _, _, _] (by kernel_rfl) rfl rfl (by kernel_rfl) ?_
          refine S_ldQ rfl (p_agg (vs := c_T_lecternref10_Spot (⟨(IntKind.wrap .i64 (x701.X - p1.X)), (IntKind.wrap .i64 (x701.Y - p1.Y))⟩ : T_lecternref10_Spot)) ty_ag_52 ty_sz_52 rfl rfl) ?_
          refine S_ldQ rfl (p_agg (vs := c_T_lecternref10_Spot (⟨(IntKind.wrap .i64 (x700.X - p1.X)), (IntKind.wrap .i64 (x700.Y - p1.Y))⟩ : T_lecternref10_Spot)) ty_ag_52 ty_sz_52 rfl rfl) ?_
          refine S_call (F_lecternref10_quarter_ok _ hF fun x802 _ hF => ?_) (.cons (.refl _) (.nil))
          refine S_call (F_lecternref10_quarter_ok _ hF fun x803 _ hF => ?_) (.cons (.refl _) (.nil))
          refine S_bin rfl rfl (ev_sub ..) ?_
          refine S_bin rfl rfl (ev_add ..) ?_
          refine S_bin rfl rfl (e_rem rfl) ?_
          refine S_a (v := .int _ _) rfl ?_
          refine S_nil ?_
          refine C_join hF (fun (a808 : Int) s' => OK h [] ∧ WS s' ⟨mkSl 122 [(3, .iptr (c_T_lecternref10_Spot p1)), (6, .int .i64 a692), (8, .iptr (c_T_lecternref10_Stroke x688)), (9, .int .i64 a693), (13, .int .i64 a808), (14, .sl 2 (List.map c_T_lecternref10_Stroke p0) 0), (15, .int .i64 (p0.length : Int)), (16, .int .i64 a456)], Hp h []⟩) (fun J809 hF => ?_) ?_
          ·
           refine C_seq ?_
           refine C_reg (mdl []) ?_
           refine S_m (v := .int _ _) rfl ?_
           refine S_bin rfl rfl (ev_eql ..) ?_
           refine S_m (v := .bool _) rfl ?_
           refine S_two (b := ((Int.tmod (IntKind.wrap .i64 ((IntKind.wrap .i64 (x802 - x803)) + (4 : Int))) (4 : Int)) == (3 : Int))) 7 113 (.bool (((Int.tmod (IntKind.wrap .i64 ((IntKind.wrap .i64 (x802 - x803)) + (4 : Int))) (4 : Int)) == (3 : Int)) || (((Int.tmod (IntKind.wrap .i64 ((IntKind.wrap .i64 (x802 - x803)) + (4 : Int))) (4 : Int)) == (2 : Int)) && (decide (x796 < (0 : Int)))))) (fun hb810 => ?_) (fun hb810 => ?_) ?_
           ·
            refine S_off rfl rfl hb810 ?_
            refine S_offD ?_
            refine S_off rfl rfl hb810 ?_
            refine S_offD ?_
            refine S_off rfl rfl hb810 ?_
            refine S_offD ?_
            refine S_off2 rfl rfl ?_
            refine S_offD ?_
            refine S_off2 rfl rfl ?_
            refine S_offD ?_
            refine S_off rfl rfl hb810 ?_
            refine S_offD ?_
            refine S_pickT (v := .bool _) rfl hb810 rfl ?_
            refine S_nil ?_
            refine .hd (or_t hb810) ?_
            repeat (first | with_reducible exact WS.refl _ | refine WS.add ?_ rfl)
           ·
            refine S_on rfl rfl hb810 ?_
            refine S_in ?_
            refine S_m (v := .int _ _) rfl ?_
            refine S_nil ?_
            refine S_on rfl rfl hb810 ?_
            refine S_in ?_
            refine S_bin rfl rfl (ev_eql ..) ?_
            refine S_nil ?_
            refine S_on rfl rfl hb810 ?_
            refine S_in ?_
            refine S_m (v := .bool _) rfl ?_
            refine S_nil ?_
            refine S_two (b := ((Int.tmod (IntKind.wrap .i64 ((IntKind.wrap .i64 (x802 - x803)) + (4 : Int))) (4 : Int)) == (2 : Int))) 3 112 (.bool (((Int.tmod (IntKind.wrap .i64 ((IntKind.wrap .i64 (x802 - x803)) + (4 : Int))) (4 : Int)) == (2 : Int)) && (decide (x796 < (0 : Int))))) (fun hb812 => ?_) (fun hb812 => ?_) ?_
            ·
             refine S_on rfl rfl hb812 ?_
             refine S_in ?_
             refine S_m (v := .int _ _) rfl ?_
             refine S_nil ?_
             refine S_on rfl rfl hb812 ?_
             refine S_in ?_
             refine S_bin rfl rfl (ev_lss ..) ?_
             refine S_nil ?_
             refine S_on rfl rfl hb810 ?_
             refine S_in ?_
             refine S_pickT (v := .bool _) rfl hb812 rfl ?_
             refine S_nil ?_
             refine S_nil ?_
             refine .hd (and_t hb812) ?_
             repeat (first | with_reducible exact WS.refl _ | refine WS.add ?_ rfl)
            ·
             refine S_off rfl rfl hb812 ?_
             refine S_offD ?_
             refine S_off rfl rfl hb812 ?_
             refine S_offD ?_
             refine S_on rfl rfl hb810 ?_
             refine S_in ?_
             refine S_pickF (v := .bool _) rfl hb812 rfl ?_
             refine S_nil ?_
             refine S_nil ?_
             refine .hd (and_f hb812) ?_
             repeat (first | with_reducible exact WS.refl _ | refine WS.add ?_ rfl)
            refine S_pickF (v := .bool _) rfl hb810 rfl ?_
            refine S_nil ?_
            refine .hd (or_f hb810) ?_
            repeat (first | with_reducible exact WS.refl _ | refine WS.add ?_ rfl)
           refine S_nil ?_
           refine C_if (b := (((Int.tmod (IntKind.wrap .i64 ((IntKind.wrap .i64 (x802 - x803)) + (4 : Int))) (4 : Int)) == (3 : Int)) || (((Int.tmod (IntKind.wrap .i64 ((IntKind.wrap .i64 (x802 - x803)) + (4 : Int))) (4 : Int)) == (2 : Int)) && (decide (x796 < (0 : Int)))))) rfl hF (fun hb813 hF => ?_) (fun hb813 hF => ?_)
           ·
            refine C_reg (mdl []) ?_
            refine S_m (v := .int _ _) rfl ?_
            refine S_bin rfl rfl (ev_sub ..) ?_
            refine S_a (v := .int _ _) rfl ?_
            refine S_nil ?_
            have hwo : WO [(0, .room), (0, .room)] [] := (.drop (.drop .nil))
            exact ⟨(IntKind.wrap .i64 ((Int.tmod (IntKind.wrap .i64 ((IntKind.wrap .i64 (x802 - x803)) + (4 : Int))) (4 : Int)) - (4 : Int))), hF, (hwo.spec ok).1, WS.mk' (.cons (.refl _) (.cons (.refl _) (.cons (.refl _) (.cons (.refl _) (.cons (.refl _) (.cons (.refl _) (.cons (.refl _) (.cons (.refl _) .nil)))))))) ok hwo⟩
           ·
            refine WP_skip ?_
            have hwo : WO [(0, .room), (0, .room)] [] := (.drop (.drop .nil))
            exact ⟨(Int.tmod (IntKind.wrap .i64 ((IntKind.wrap .i64 (x802 - x803)) + (4 : Int))) (4 : Int)), hF, (hwo.spec ok).1, WS.mk' (.cons (.refl _) (.cons (.refl _) (.cons (.refl _) (.cons (.refl _) (.cons (.refl _) (.cons (.refl _) (.cons (.refl _) (.cons (.refl _) .nil)))))))) ok hwo⟩
          ·
           rintro a808 s' hF ⟨ok, hws⟩
           refine WP_ws hws ?_
           clear hws s'
           refine C_reg (mdl []) ?_
           refine S_m (v := .int _ _) rfl ?_
           refine S_m (v := .int _ _) rfl ?_
           refine S_bin rfl rfl (ev_add ..) ?_
           refine S_a (v := .int _ _) rfl ?_
           refine S_nil ?_
           refine C_reg (mdl []) ?_
           refine S_m (v := .int _ _) rfl ?_
           refine S_bin rfl rfl (ev_add ..) ?_
           refine S_a (v := .int _ _) rfl ?_
           refine S_nil ?_
           refine ih697 ((IntKind.wrap .i64 (a692 + a808)), (IntKind.wrap .i64 (a693 + (1 : Int)))) _ hF ?_
           have hwo : WO [] [] := .nil
           exact ⟨(hwo.spec ok).1, WS.mk' (.cons (.refl _) (.cons (.refl _) (.cons (.refl _) (.cons (.refl _) (.cons (.refl _) (.cons (.refl _) (.cons (.refl _) .nil))))))) ok hwo⟩
       ·
        refine S_all1 ok rfl ty_zc_52 ?_
        intro i814 hi814 ok
        refine S_all1 ok rfl ty_zc_52 ?_
        intro i815 hi815 ok
        refine S_st (j := 0) (cs' := [.int .i64 x700.X, .int .i64 x700.Y]) ok rfl rfl rfl hi815 rfl ty_sz_52 rfl rfl (fun ok => ?_)
        refine S_st (j := 1) (cs' := [.int .i64 x701.X, .int .i64 x701.Y]) ok rfl rfl rfl hi814 rfl ty_sz_52 rfl rfl (fun ok => ?_)
        refine S_nil ?_
        refine C_seq ?_
        refine WP_any N0 (mdl [(49, 3), (54, 3), (60, 3), (65, 3)]) (gamma0 _) (by kernel_rfl) ?_
        refine A_seq [0, 1, 2, 3, 4, 5, 6, 7, 8, 9, 10, 11, 13, 14, 16, 18, 19] [_, _, _, _, _, _, _, _, _, _, _, _, _, _, _, _, _] 7 #[true, true, true, true, true, true, true, true, true, true, true, true, false, true, true, false, true, false, true, true, false, false, false, false] rfl rfl (by kernel_rfl) (by kernel_rfl) ?_
        refine S_faP rfl ty_fd_52_0 ty_sz_3 ?_
        refine S_ldP (j := 0) ok rfl rfl rfl hi815 (p_one (v := .int .i64 x700.X) ty_ag_3 ty_sz_3 rfl) ?_
        refine S_faQ rfl ty_fd_52_0 ty_sz_3 rfl ?_
        refine S_ldQ rfl (p_one ty_ag_3 ty_sz_3 rfl) ?_
        refine S_bin rfl rfl (ev_sub ..) ?_
        refine S_faP rfl ty_fd_52_1 ty_sz_3 ?_
        refine S_ldP (j := 0) ok rfl rfl rfl hi815 (p_one (v := .int .i64 x700.Y) ty_ag_3 ty_sz_3 rfl) ?_
        refine S_faQ rfl ty_fd_52_1 ty_sz_3 rfl ?_
        refine S_ldQ rfl (p_one ty_ag_3 ty_sz_3 rfl) ?_
        refine S_bin rfl rfl (ev_sub ..) ?_
        refine S_bld (v := .agg (c_T_lecternref10_Spot (⟨(IntKind.wrap .i64 (x700.X - p1.X)), (IntKind.wrap .i64 (x700.Y - p1.Y))⟩ : T_lecternref10_Spot))) (b_st ty_zc_52 ty_pl_52 rfl) ?_
        refine S_faP rfl ty_fd_52_0 ty_sz_3 ?_
        refine S_faQ rfl ty_fd_52_0 ty_sz_3 rfl ?_
        refine S_ldQ rfl (p_one ty_ag_3 ty_sz_3 rfl) ?_
        refine S_faP rfl ty_fd_52_1 ty_sz_3 ?_
        refine S_faQ rfl ty_fd_52_1 ty_sz_3 rfl ?_
        refine S_ldQ rfl (p_one ty_ag_3 ty_sz_3 rfl) ?_
        refine S_nil ?_
        refine A_three 12 17 22 _ _ _ #[true, true, true, true, true, true, true, true, true, true, true, true, true, true, true, false, true, false, true, true, false, false, false, false] #[true, true, true, true, true, true, true, true, true, true, true, true, false, true, true, false, true, true, true, true, false, false, false, false] #[true, true, true, true, true, true, true, true, true, true, true, true, false, true, true, false, true, false, true, true, false, false, true, false] (by kernel_rfl) rfl rfl rfl (by kernel_rfl) (by kernel_rfl) (by kernel_rfl) ?_ ?_ ?_
        ·
         refine S_ldP (j := 1) ok rfl rfl rfl hi814 (p_one (v := .int .i64 x701.X) ty_ag_3 ty_sz_3 rfl) ?_
         refine S_nil ?_
         refine A_seq [15] [_] 5 #[true, true, true, true, true, true, true, true, true, true, true, true, true, true, true, true, true, false, true, true, false, false, false, false] rfl rfl (by kernel_rfl) (by kernel_rfl) ?_
         refine S_bin rfl rfl (ev_sub ..) ?_
         refine S_nil ?_
         refine A_two 17 22 _ _ #[true, true, true, true, true, true, true, true, true, true, true, true, true, true, true, true, true, true, true, true, false, false, false, false] #[true, true, true, true, true, true, true, true, true, true, true, true, true, true, true, true, true, false, true, true, false, false, true, false] (by kernel_rfl) rfl rfl (by kernel_rfl) (by kernel_rfl) ?_ ?_
         ·
          refine S_ldP (j := 1) ok rfl rfl rfl hi814 (p_one (v := .int .i64 x701.Y) ty_ag_3 ty_sz_3 rfl) ?_
          refine S_nil ?_
          refine A_seq [20, 21, 22, 23] [_, _, _, _] 0 #[true, true, true, true, true, true, true, true, true, true, true, true, true, true, true, true, true, true, true, true, true, true, true, true] rfl rfl (by kernel_rfl) (by kernel_rfl) ?_
          refine S_bin rfl rfl (ev_sub ..) ?_
          refine S_bld (v := .agg (c_T_lecternref10_Spot (⟨(IntKind.wrap .i64 (x701.X - p1.X)), (IntKind.wrap .i64 (x701.Y - p1.Y))⟩ : T_lecternref10_Spot))) (b_st ty_zc_52 ty_pl_52 rfl) ?_
          refine S_st (j := 0) (cs' := [.int .i64 (⟨(IntKind.wrap .i64 (x700.X - p1.X)), (IntKind.wrap .i64 (x700.Y - p1.Y))⟩ : T_lecternref10_Spot).X, .int .i64 (⟨(IntKind.wrap .i64 (x700.X - p1.X)), (IntKind.wrap .i64 (x700.Y - p1.Y))⟩ : T_lecternref10_Spot).Y]) ok rfl rfl rfl hi815 rfl ty_sz_52 rfl rfl (fun ok => ?_)
          refine S_st (j := 1) (cs' := [.int .i64 (⟨(IntKind.wrap .i64 (x701.X - p1.X)), (IntKind.wrap .i64 (x701.Y - p1.Y))⟩ : T_lecternref10_Spot).X, .int .i64 (⟨(IntKind.wrap .i64 (x701.X - p1.X)), (IntKind.wrap .i64 (x701.Y - p1.Y))⟩ : T_lecternref10_Spot).Y]) ok rfl rfl rfl hi814 rfl ty_sz_52 rfl rfl (fun ok => ?_)
          refine S_nil ?_
          refine A_end (by kernel_rfl) ?_
          refine C_seq ?_
          refine C_reg (mdl []) ?_
          refine S_frzP 0 10 ok rfl rfl hi815 (fun ok => ?_)
          refine S_frzP 1 11 ok rfl rfl hi814 (fun ok => ?_)
          refine S_ldQ rfl (p_agg (vs := c_T_lecternref10_Spot (⟨(IntKind.wrap .i64 (x700.X - p1.X)), (IntKind.wrap .i64 (x700.Y - p1.Y))⟩ : T_lecternref10_Spot)) ty_ag_52 ty_sz_52 rfl rfl) ?_
          refine S_ldQ rfl (p_agg (vs := c_T_lecternref10_Spot (⟨(IntKind.wrap .i64 (x701.X - p1.X)), (IntKind.wrap .i64 (x701.Y - p1.Y))⟩ : T_lecternref10_Spot)) ty_ag_52 ty_sz_52 rfl rfl) ?_
          refine S_call (F_lecternref10_Cross_ok _ hF fun x820 _ hF => ?_) (.cons (.refl _) (.cons (.refl _) (.nil)))
          refine S_a (v := .int _ _) rfl ?_
          refine S_nil ?_
          refine C_seq ?_
          refine C_seq ?_
          refine C_reg (mdl []) ?_
          refine S_ldQ rfl (p_agg (vs := c_T_lecternref10_Spot (⟨(IntKind.wrap .i64 (x700.X - p1.X)), (IntKind.wrap .i64 (x700.Y - p1.Y))⟩ : T_lecternref10_Spot)) ty_ag_52 ty_sz_52 rfl rfl) ?_
          refine S_bld (v := .agg (c_T_lecternref10_Spot (⟨(0 : Int), (0 : Int)⟩ : T_lecternref10_Spot))) (b_st ty_zc_52 ty_pl_52 rfl) ?_
          refine S_bin rfl rfl (e_agg (b := (((⟨(IntKind.wrap .i64 (x700.X - p1.X)), (IntKind.wrap .i64 (x700.Y - p1.Y))⟩ : T_lecternref10_Spot).X == (⟨(0 : Int), (0 : Int)⟩ : T_lecternref10_Spot).X) && (((⟨(IntKind.wrap .i64 (x700.X - p1.X)), (IntKind.wrap .i64 (x700.Y - p1.Y))⟩ : T_lecternref10_Spot).Y == (⟨(0 : Int), (0 : Int)⟩ : T_lecternref10_Spot).Y) && true))) ty_qg_52 ty_sf_52 (by simp only [c_T_lecternref10_Spot, ev_eqF_cons, ev_eqF_nil, ev_part, ty_sf_52, ty_qg_52, ty_ag_3, ty_sz_3, ty_ki_3, ty_ag_3, ty_sz_3, ty_ki_3, ev_eq_int, ev_eq_str, ev_eq_bool, ev_eq_agg, ev_eq_int2, ev_eq_str2, ev_eq_bool2, List.drop_zero, List.drop_succ_cons, List.length_cons, List.length_nil, List.take_succ_cons, List.take_zero, Option.isSome_some, if_true, Option.bind_some, Option.map_some, Nat.reduceAdd, Nat.reduceLeDiff])) ?_
          refine S_m (v := .bool _) rfl ?_
          refine S_two (b := (((⟨(IntKind.wrap .i64 (x700.X - p1.X)), (IntKind.wrap .i64 (x700.Y - p1.Y))⟩ : T_lecternref10_Spot).X == (⟨(0 : Int), (0 : Int)⟩ : T_lecternref10_Spot).X) && (((⟨(IntKind.wrap .i64 (x700.X - p1.X)), (IntKind.wrap .i64 (x700.Y - p1.Y))⟩ : T_lecternref10_Spot).Y == (⟨(0 : Int), (0 : Int)⟩ : T_lecternref10_Spot).Y) && true))) 4 78 (.bool ((((⟨(IntKind.wrap .i64 (x700.X - p1.X)), (IntKind.wrap .i64 (x700.Y - p1.Y))⟩ : T_lecternref10_Spot).X == (⟨(0 : Int), (0 : Int)⟩ : T_lecternref10_Spot).X) && (((⟨(IntKind.wrap .i64 (x700.X - p1.X)), (IntKind.wrap .i64 (x700.Y - p1.Y))⟩ : T_lecternref10_Spot).Y == (⟨(0 : Int), (0 : Int)⟩ : T_lecternref10_Spot).Y) && true)) || (((⟨(IntKind.wrap .i64 (x701.X - p1.X)), (IntKind.wrap .i64 (x701.Y - p1.Y))⟩ : T_lecternref10_Spot).X == (⟨(0 : Int), (0 : Int)⟩ : T_lecternref10_Spot).X) && (((⟨(IntKind.wrap .i64 (x701.X - p1.X)), (IntKind.wrap .i64 (x701.Y - p1.Y))⟩ : T_lecternref10_Spot).Y == (⟨(0 : Int), (0 : Int)⟩ : T_lecternref10_Spot).Y) && true)))) (fun hb821 => ?_) (fun hb821 => ?_) ?_
          ·
           refine S_off rfl rfl hb821 ?_
           refine S_offD ?_
           refine S_off rfl rfl hb821 ?_
           refine S_offD ?_
           refine S_off rfl rfl hb821 ?_
           refine S_offD ?_
           refine S_pickT (v := .bool _) rfl hb821 rfl ?_
           refine S_nil ?_
           refine .hd (or_t hb821) ?_
           repeat (first | with_reducible exact WS.refl _ | refine WS.add ?_ rfl)
          ·
           refine S_on rfl rfl hb821 ?_
           refine S_in ?_
           refine S_ldQ rfl (p_agg (vs := c_T_lecternref10_Spot (⟨(IntKind.wrap .i64 (x701.X - p1.X)), (IntKind.wrap .i64 (x701.Y - p1.Y))⟩ : T_lecternref10_Spot)) ty_ag_52 ty_sz_52 rfl rfl) ?_
           refine S_nil ?_
           refine S_on rfl rfl hb821 ?_
           refine S_in ?_
           refine S_bld (v := .agg (c_T_lecternref10_Spot (⟨(0 : Int), (0 : Int)⟩ : T_lecternref10_Spot))) (b_st ty_zc_52 ty_pl_52 rfl) ?_
           refine S_nil ?_
           refine S_on rfl rfl hb821 ?_
           refine S_in ?_
           refine S_bin rfl rfl (e_agg (b := (((⟨(IntKind.wrap .i64 (x701.X - p1.X)), (IntKind.wrap .i64 (x701.Y - p1.Y))⟩ : T_lecternref10_Spot).X == (⟨(0 : Int), (0 : Int)⟩ : T_lecternref10_Spot).X) && (((⟨(IntKind.wrap .i64 (x701.X - p1.X)), (IntKind.wrap .i64 (x701.Y - p1.Y))⟩ : T_lecternref10_Spot).Y == (⟨(0 : Int), (0 : Int)⟩ : T_lecternref10_Spot).Y) && true))) ty_qg_52 ty_sf_52 (by simp only [c_T_lecternref10_Spot, ev_eqF_cons, ev_eqF_nil, ev_part, ty_sf_52, ty_qg_52, ty_ag_3, ty_sz_3, ty_ki_3, ty_ag_3, ty_sz_3, ty_ki_3, ev_eq_int, ev_eq_str, ev_eq_bool, ev_eq_agg, ev_eq_int2, ev_eq_str2, ev_eq_bool2, List.drop_zero, List.drop_succ_cons, List.length_cons, List.length_nil, List.take_succ_cons, List.take_zero, Option.isSome_some, if_true, Option.bind_some, Option.map_some, Nat.reduceAdd, Nat.reduceLeDiff])) ?_
           refine S_nil ?_
           refine S_pickF (v := .bool _) rfl hb821 rfl ?_
           refine S_nil ?_
           refine .hd (or_f hb821) ?_
           repeat (first | with_reducible exact WS.refl _ | refine WS.add ?_ rfl)
          refine S_m (v := .bool _) rfl ?_
          refine S_two (b := ((((⟨(IntKind.wrap .i64 (x700.X - p1.X)), (IntKind.wrap .i64 (x700.Y - p1.Y))⟩ : T_lecternref10_Spot).X == (⟨(0 : Int), (0 : Int)⟩ : T_lecternref10_Spot).X) && (((⟨(IntKind.wrap .i64 (x700.X - p1.X)), (IntKind.wrap .i64 (x700.Y - p1.Y))⟩ : T_lecternref10_Spot).Y == (⟨(0 : Int), (0 : Int)⟩ : T_lecternref10_Spot).Y) && true)) || (((⟨(IntKind.wrap .i64 (x701.X - p1.X)), (IntKind.wrap .i64 (x701.Y - p1.Y))⟩ : T_lecternref10_Spot).X == (⟨(0 : Int), (0 : Int)⟩ : T_lecternref10_Spot).X) && (((⟨(IntKind.wrap .i64 (x701.X - p1.X)), (IntKind.wrap .i64 (x701.Y - p1.Y))⟩ : T_lecternref10_Spot).Y == (⟨(0 : Int), (0 : Int)⟩ : T_lecternref10_Spot).Y) && true)))) 17 96 (.bool (((((⟨(IntKind.wrap .i64 (x700.X - p1.X)), (IntKind.wrap .i64 (x700.Y - p1.Y))⟩ : T_lecternref10_Spot).X == (⟨(0 : Int), (0 : Int)⟩ : T_lecternref10_Spot).X) && (((⟨(IntKind.wrap .i64 (x700.X - p1.X)), (IntKind.wrap .i64 (x700.Y - p1.Y))⟩ : T_lecternref10_Spot).Y == (⟨(0 : Int), (0 : Int)⟩ : T_lecternref10_Spot).Y) && true)) || (((⟨(IntKind.wrap .i64 (x701.X - p1.X)), (IntKind.wrap .i64 (x701.Y - p1.Y))⟩ : T_lecternref10_Spot).X == (⟨(0 : Int), (0 : Int)⟩ : T_lecternref10_Spot).X) && (((⟨(IntKind.wrap .i64 (x701.X - p1.X)), (IntKind.wrap .i64 (x701.Y - p1.Y))⟩ : T_lecternref10_Spot).Y == (⟨(0 : Int), (0 : Int)⟩ : T_lecternref10_Spot).Y) && true))) || ((x820 == (0 : Int)) && (decide ((IntKind.wrap .i64 ((IntKind.wrap .i64 ((⟨(IntKind.wrap .i64 (x700.X - p1.X)), (IntKind.wrap .i64 (x700.Y - p1.Y))⟩ : T_lecternref10_Spot).X * (⟨(IntKind.wrap .i64 (x701.X - p1.X)), (IntKind.wrap .i64 (x701.Y - p1.Y))⟩ : T_lecternref10_Spot).X)) + (IntKind.wrap .i64 ((⟨(IntKind.wrap .i64 (x700.X - p1.X)), (IntKind.wrap .i64 (x700.Y - p1.Y))⟩ : T_lecternref10_Spot).Y * (⟨(IntKind.wrap .i64 (x701.X - p1.X)), (IntKind.wrap .i64 (x701.Y - p1.Y))⟩ : T_lecternref10_Spot).Y)))) < (0 : Int)))))) (fun hb822 => ?_) (fun hb822 => ?_) ?_
          ·
           refine S_off rfl rfl hb822 ?_
           refine S_offD ?_
           refine S_off rfl rfl hb822 ?_
           refine S_offD ?_
           refine S_off rfl rfl hb822 ?_
           refine S_offD ?_
           refine S_off2 rfl rfl ?_
           refine S_offD ?_
           refine S_off2 rfl rfl ?_
           refine S_offD ?_
           refine S_off2 rfl rfl ?_
           refine S_offD ?_
           refine S_off2 rfl rfl ?_
           refine S_offD ?_
           refine S_off2 rfl rfl ?_
           refine S_offD ?_
           refine S_off2 rfl rfl ?_
           refine S_offD ?_
           refine S_off2 rfl rfl ?_
           refine S_offD ?_
           refine S_off2 rfl rfl ?_
           refine S_offD ?_
           refine S_off2 rfl rfl ?_
           refine S_offD ?_
           refine S_off2 rfl rfl ?_
           refine S_offD ?_
           refine S_off2 rfl rfl ?_
           refine S_offD ?_
           refine S_off2 rfl rfl ?_
           refine S_offD ?_
           refine S_off rfl rfl hb822 ?_
           refine S_offD ?_
           refine S_pickT (v := .bool _) rfl hb822 rfl ?_
           refine S_nil ?_
           refine .hd (or_t hb822) ?_
           repeat (first | with_reducible exact WS.refl _ | refine WS.add ?_ rfl)
          ·
           refine S_on rfl rfl hb822 ?_
           refine S_in ?_
           refine S_m (v := .int _ _) rfl ?_
           refine S_nil ?_
           refine S_on rfl rfl hb822 ?_
           refine S_in ?_
           refine S_bin rfl rfl (ev_eql ..) ?_
           refine S_nil ?_
           refine S_on rfl rfl hb822 ?_
           refine S_in ?_
           refine S_m (v := .bool _) rfl ?_
           refine S_nil ?_
           refine S_two (b := (x820 == (0 : Int))) 13 95 (.bool ((x820 == (0 : Int)) && (decide ((IntKind.wrap .i64 ((IntKind.wrap .i64 ((⟨(IntKind.wrap .i64 (x700.X - p1.X)), (IntKind.wrap .i64 (x700.Y - p1.Y))⟩ : T_lecternref10_Spot).X * (⟨(IntKind.wrap .i64 (x701.X - p1.X)), (IntKind.wrap .i64 (x701.Y - p1.Y))⟩ : T_lecternref10_Spot).X)) + (IntKind.wrap .i64 ((⟨(IntKind.wrap .i64 (x700.X - p1.X)), (IntKind.wrap .i64 (x700.Y - p1.Y))⟩ : T_lecternref10_Spot).Y * (⟨(IntKind.wrap .i64 (x701.X - p1.X)), (IntKind.wrap .i64 (x701.Y - p1.Y))⟩ : T_lecternref10_Spot).Y)))) < (0 : Int))))) (fun hb824 => ?_) (fun hb824 => ?_) ?_
           ·
            refine S_on rfl rfl hb824 ?_
            refine S_in ?_
            refine S_faQ rfl ty_fd_52_0 ty_sz_3 rfl ?_
            refine S_nil ?_
            refine S_on rfl rfl hb824 ?_
            refine S_in ?_
            refine S_ldQ rfl (p_one ty_ag_3 ty_sz_3 rfl) ?_
            refine S_nil ?_
            refine S_on rfl rfl hb824 ?_
            refine S_in ?_
            refine S_faQ rfl ty_fd_52_0 ty_sz_3 rfl ?_
            refine S_nil ?_
            refine S_on rfl rfl hb824 ?_
            refine S_in ?_
            refine S_ldQ rfl (p_one ty_ag_3 ty_sz_3 rfl) ?_
            refine S_nil ?_
            refine S_on rfl rfl hb824 ?_
            refine S_in ?_
            refine S_bin rfl rfl (ev_mul ..) ?_
            refine S_nil ?_
            refine S_on rfl rfl hb824 ?_
            refine S_in ?_
            refine S_faQ rfl ty_fd_52_1 ty_sz_3 rfl ?_
            refine S_nil ?_
            refine S_on rfl rfl hb824 ?_
            refine S_in ?_
            refine S_ldQ rfl (p_one ty_ag_3 ty_sz_3 rfl) ?_
            refine S_nil ?_
            refine S_on rfl rfl hb824 ?_
            refine S_in ?_
            refine S_faQ rfl ty_fd_52_1 ty_sz_3 rfl ?_
            refine S_nil ?_
            refine S_on rfl rfl hb824 ?_
            refine S_in ?_
            refine S_ldQ rfl (p_one ty_ag_3 ty_sz_3 rfl) ?_
            refine S_nil ?_
            refine S_on rfl rfl hb824 ?_
            refine S_in ?_
            refine S_bin rfl rfl (ev_mul ..) ?_
            refine S_nil ?_
            refine S_on rfl rfl hb824 ?_
            refine S_in ?_
            refine S_bin rfl rfl (ev_add ..) ?_
            refine S_nil ?_
            refine S_on rfl rfl hb824 ?_
            refine S_in ?_
            refine S_bin rfl rfl (ev_lss ..) ?_
            refine S_nil ?_
            refine S_on rfl rfl hb822 ?_
            refine S_in ?_
            refine S_pickT (v := .bool _) rfl hb824 rfl ?_
            refine S_nil ?_
            refine S_nil ?_
            refine .hd (and_t hb824) ?_
            repeat (first | with_reducible exact WS.refl _ | refine WS.add ?_ rfl)
           ·
            refine S_off rfl rfl hb824 ?_
            refine S_offD ?_
            refine S_off rfl rfl hb824 ?_
            refine S_offD ?_
            refine S_off rfl rfl hb824 ?_
            refine S_offD ?_
            refine S_off rfl rfl hb824 ?_
            refine S_offD ?_
            refine S_off rfl rfl hb824 ?_
            refine S_offD ?_
            refine S_off rfl rfl hb824 ?_
            refine S_offD ?_
            refine S_off rfl rfl hb824 ?_
            refine S_offD ?_
            refine S_off rfl rfl hb824 ?_
            refine S_offD ?_
            refine S_off rfl rfl hb824 ?_
            refine S_offD ?_
            refine S_off rfl rfl hb824 ?_
            refine S_offD ?_
            refine S_off rfl rfl hb824 ?_
            refine S_offD ?_
            refine S_off rfl rfl hb824 ?_
            refine S_offD ?_
            refine S_on rfl rfl hb822 ?_
            refine S_in ?_
            refine S_pickF (v := .bool _) rfl hb824 rfl ?_
            refine S_nil ?_
            refine S_nil ?_
            refine .hd (and_f hb824) ?_
            repeat (first | with_reducible exact WS.refl _ | refine WS.add ?_ rfl)
           refine S_pickF (v := .bool _) rfl hb822 rfl ?_
           refine S_nil ?_
           refine .hd (or_f hb822) ?_
           repeat (first | with_reducible exact WS.refl _ | refine WS.add ?_ rfl)
          refine S_nil ?_
          refine C_if (b := (((((⟨(IntKind.wrap .i64 (x700.X - p1.X)), (IntKind.wrap .i64 (x700.Y - p1.Y))⟩ : T_lecternref10_Spot).X == (⟨(0 : Int), (0 : Int)⟩ : T_lecternref10_Spot).X) && (((⟨(IntKind.wrap .i64 (x700.X - p1.X)), (IntKind.wrap .i64 (x700.Y - p1.Y))⟩ : T_lecternref10_Spot).Y == (⟨(0 : Int), (0 : Int)⟩ : T_lecternref10_Spot).Y) && true)) || (((⟨(IntKind.wrap .i64 (x701.X - p1.X)), (IntKind.wrap .i64 (x701.Y - p1.Y))⟩ : T_lecternref10_Spot).X == (⟨(0 : Int), (0 : Int)⟩ : T_lecternref10_Spot).X) && (((⟨(IntKind.wrap .i64 (x701.X - p1.X)), (IntKind.wrap .i64 (x701.Y - p1.Y))⟩ : T_lecternref10_Spot).Y == (⟨(0 : Int), (0 : Int)⟩ : T_lecternref10_Spot).Y) && true))) || ((x820 == (0 : Int)) && (decide ((IntKind.wrap .i64 ((IntKind.wrap .i64 ((⟨(IntKind.wrap .i64 (x700.X - p1.X)), (IntKind.wrap .i64 (x700.Y - p1.Y))⟩ : T_lecternref10_Spot).X * (⟨(IntKind.wrap .i64 (x701.X - p1.X)), (IntKind.wrap .i64 (x701.Y - p1.Y))⟩ : T_lecternref10_Spot).X)) + (IntKind.wrap .i64 ((⟨(IntKind.wrap .i64 (x700.X - p1.X)), (IntKind.wrap .i64 (x700.Y - p1.Y))⟩ : T_lecternref10_Spot).Y * (⟨(IntKind.wrap .i64 (x701.X - p1.X)), (IntKind.wrap .i64 (x701.Y - p1.Y))⟩ : T_lecternref10_Spot).Y)))) < (0 : Int)))))) rfl hF (fun hb825 hF => ?_) (fun hb825 hF => ?_)
          ·
           refine C_seq ?_
           refine C_reg (mdl []) ?_
           refine S_a (v := .int _ _) rfl ?_
           refine S_a (v := .bool _) rfl ?_
           refine S_nil ?_
           refine WP_ret ?_
           replace hF := hG695 _ (F_some hF)
           replace hF := hG458 _ (F_some hF)
           repeat (first | with_reducible refine Exit.sel_ret ?_ | with_reducible refine Exit.blk_ret ?_ | with_reducible refine Exit.jmp_ret ?_)
           refine C_ret (fn := Tryd.f23) rfl (.tmp (v := .int .i64 (0 : Int)) rfl (.tmp (v := .bool true) rfl .nil)) ?_
           exact ⟨_, _, (.tupC (.cons (.refl _) (.cons (.refl _) (.nil)))), ok.wh, _, F_some hF, rfl, rfl⟩
          ·
           refine WP_skip ?_
           refine C_seq ?_
           refine C_plan (mdl [(97, 3), (99, 3)]) [0, 2, 1, 3, 4, 5, 6, 7] [_, _, _, _, _, _, _, _] (by kernel_rfl) rfl rfl (by kernel_rfl) ?_
           refine S_ldQ rfl (p_agg (vs := c_T_lecternref10_Spot (⟨(IntKind.wrap .i64 (x701.X - p1.X)), (IntKind.wrap .i64 (x701.Y - p1.Y))⟩ : T_lecternref10_Spot)) ty_ag_52 ty_sz_52 rfl rfl) ?_
           refine S_ldQ rfl (p_agg (vs := c_T_lecternref10_Spot (⟨(IntKind.wrap .i64 (x700.X - p1.X)), (IntKind.wrap .i64 (x700.Y - p1.Y))⟩ : T_lecternref10_Spot)) ty_ag_52 ty_sz_52 rfl rfl) ?_
           refine S_call (F_lecternref10_quarter_ok _ hF fun x826 _ hF => ?_) (.cons (.refl _) (.nil))
           refine S_call (F_lecternref10_quarter_ok _ hF fun x827 _ hF => ?_) (.cons (.refl _) (.nil))
           refine S_bin rfl rfl (ev_sub ..) ?_
           refine S_bin rfl rfl (ev_add ..) ?_
           refine S_bin rfl rfl (e_rem rfl) ?_
           refine S_a (v := .int _ _) rfl ?_
           refine S_nil ?_
           refine C_join hF (fun (a832 : Int) s' => OK h [] ∧ WS s' ⟨mkSl 122 [(3, .iptr (c_T_lecternref10_Spot p1)), (6, .int .i64 a692), (8, .iptr (c_T_lecternref10_Stroke x688)), (9, .int .i64 a693), (13, .int .i64 a832), (14, .sl 2 (List.map c_T_lecternref10_Stroke p0) 0), (15, .int .i64 (p0.length : Int)), (16, .int .i64 a456)], Hp h []⟩) (fun J833 hF => ?_) ?_
           ·
            refine C_seq ?_
            refine C_reg (mdl []) ?_
            refine S_m (v := .int _ _) rfl ?_
            refine S_bin rfl rfl (ev_eql ..) ?_
            refine S_m (v := .bool _) rfl ?_
            refine S_two (b := ((Int.tmod (IntKind.wrap .i64 ((IntKind.wrap .i64 (x826 - x827)) + (4 : Int))) (4 : Int)) == (3 : Int))) 7 113 (.bool (((Int.tmod (IntKind.wrap .i64 ((IntKind.wrap .i64 (x826 - x827)) + (4 : Int))) (4 : Int)) == (3 : Int)) || (((Int.tmod (IntKind.wrap .i64 ((IntKind.wrap .i64 (x826 - x827)) + (4 : Int))) (4 : Int)) == (2 : Int)) && (decide (x820 < (0 : Int)))))) (fun hb834 => ?_) (fun hb834 => ?_) ?_
            ·
             refine S_off rfl rfl hb834 ?_
             refine S_offD ?_
             refine S_off rfl rfl hb834 ?_
             refine S_offD ?_
             refine S_off rfl rfl hb834 ?_
             refine S_offD ?_
             refine S_off2 rfl rfl ?_
             refine S_offD ?_
             refine S_off2 rfl rfl ?_
             refine S_offD ?_
             refine S_off rfl rfl hb834 ?_
             refine S_offD ?_
             refine S_pickT (v := .bool _) rfl hb834 rfl ?_
             refine S_nil ?_
             refine .hd (or_t hb834) ?_
             repeat (first | with_reducible exact WS.refl _ | refine WS.add ?_ rfl)
            ·
             refine S_on rfl rfl hb834 ?_
             refine S_in ?_
             refine S_m (v := .int _ _) rfl ?_
             refine S_nil ?_
             refine S_on rfl rfl hb834 ?_
             refine S_in ?_
             refine S_bin rfl rfl (ev_eql ..) ?_
             refine S_nil ?_
             refine S_on rfl rfl hb834 ?_
             refine S_in ?_
             refine S_m (v := .bool _) rfl ?_
             refine S_nil ?_
             refine S_two (b := ((Int.tmod (IntKind.wrap .i64 ((IntKind.wrap .i64 (x826 - x827)) + (4 : Int))) (4 : Int)) == (2 : Int))) 3 112 (.bool (((Int.tmod (IntKind.wrap .i64 ((IntKind.wrap .i64 (x826 - x827)) + (4 : Int))) (4 : Int)) == (2 : Int)) && (decide (x820 < (0 : Int))))) (fun hb836 => ?_) (fun hb836 => ?_) ?_
             ·
              refine S_on rfl rfl hb836 ?_
              refine S_in ?_
              refine S_m (v := .int _ _) rfl ?_
              refine S_nil ?_
              refine S_on rfl rfl hb836 ?_
              refine S_in ?_
              refine S_bin rfl rfl (ev_lss ..) ?_
              refine S_nil ?_
              refine S_on rfl rfl hb834 ?_
              refine S_in ?_
              refine S_pickT (v := .bool _) rfl hb836 rfl ?_
              refine S_nil ?_
              refine S_nil ?_
              refine .hd (and_t hb836) ?_
              repeat (first | with_reducible exact WS.refl _ | refine WS.add ?_ rfl)
             ·
              refine S_off rfl rfl hb836 ?_
              refine S_offD ?_
              refine S_off rfl rfl hb836 ?_
              refine S_offD ?_
              refine S_on rfl rfl hb834 ?_
              refine S_in ?_
              refine S_pickF (v := .bool _) rfl hb836 rfl ?_
              refine S_nil ?_
              refine S_nil ?_
              refine .hd (and_f hb836) ?_
              repeat (first | with_reducible exact WS.refl _ | refine WS.add ?_ rfl)
             refine S_pickF (v := .bool _) rfl hb834 rfl ?_
             refine S_nil ?_
             refine .hd (or_f hb834) ?_
             repeat (first | with_reducible exact WS.refl _ | refine WS.add ?_ rfl)
            refine S_nil ?_
            refine C_if (b := (((Int.tmod (IntKind.wrap .i64 ((IntKind.wrap .i64 (x826 - x827)) + (4 : Int))) (4 : Int)) == (3 : Int)) || (((Int.tmod (IntKind.wrap .i64 ((IntKind.wrap .i64 (x826 - x827)) + (4 : Int))) (4 : Int)) == (2 : Int)) && (decide (x820 < (0 : Int)))))) rfl hF (fun hb837 hF => ?_) (fun hb837 hF => ?_)
            ·
             refine C_reg (mdl []) ?_
             refine S_m (v := .int _ _) rfl ?_
             refine S_bin rfl rfl (ev_sub ..) ?_
             refine S_a (v := .int _ _) rfl ?_
             refine S_nil ?_
             have hwo : WO [(0, .room), (0, .room)] [] := (.drop (.drop .nil))
             exact ⟨(IntKind.wrap .i64 ((Int.tmod (IntKind.wrap .i64 ((IntKind.wrap .i64 (x826 - x827)) + (4 : Int))) (4 : Int)) - (4 : Int))), hF, (hwo.spec ok).1, WS.mk' (.cons (.refl _) (.cons (.refl _) (.cons (.refl _) (.cons (.refl _) (.cons (.refl _) (.cons (.refl _) (.cons (.refl _) (.cons (.refl _) .nil)))))))) ok hwo⟩
            ·
             refine WP_skip ?_
             have hwo : WO [(0, .room), (0, .room)] [] := (.drop (.drop .nil))
             exact ⟨(Int.tmod (IntKind.wrap .i64 ((IntKind.wrap .i64 (x826 - x827)) + (4 : Int))) (4 : Int)), hF, (hwo.spec ok).1, WS.mk' (.cons (.refl _) (.cons (.refl _) (.cons (.refl _) (.cons (.refl _) (.cons (.refl _) (.cons (.refl _) (.cons (.refl _) (.cons (.refl _) .nil)))))))) ok hwo⟩
           ·
            rintro a832 s' hF ⟨ok, hws⟩
            refine WP_ws hws ?_
            clear hws s'
            refine C_reg (mdl []) ?_
            refine S_m (v := .int _ _) rfl ?_
            refine S_m (v := .int _ _) rfl ?_
            refine S_bin rfl rfl (ev_add ..) ?_
            refine S_a (v := .int _ _) rfl ?_
            refine S_nil ?_
            refine C_reg (mdl []) ?_
            refine S_m (v := .int _ _) rfl ?_
            refine S_bin rfl rfl (ev_add ..) ?_
            refine S_a (v := .int _ _) rfl ?_
            refine S_nil ?_
            refine ih697 ((IntKind.wrap .i64 (a692 + a832)), (IntKind.wrap .i64 (a693 + (1 : Int)))) _ hF ?_
            have hwo : WO [] [] := .nil
            exact ⟨(hwo.spec ok).1, WS.mk' (.cons (.refl _) (.cons (.refl _) (.cons (.refl _) (.cons (.refl _) (.cons (.refl _) (.cons (.refl _) (.cons (.refl _) .nil))))))) ok hwo⟩
         ·
          refine S_st (j := 0) (cs' := [.int .i64 (⟨(IntKind.wrap .i64 (x700.X - p1.X)), (IntKind.wrap .i64 (x700.Y - p1.Y))⟩ : T_lecternref10_Spot).X, .int .i64 (⟨(IntKind.wrap .i64 (x700.X - p1.X)), (IntKind.wrap .i64 (x700.Y - p1.Y))⟩ : T_lecternref10_Spot).Y]) ok rfl rfl rfl hi815 rfl ty_sz_52 rfl rfl (fun ok => ?_)
          refine S_nil ?_
          refine A_seq [17, 20, 21, 23] [_, _, _, _] 0 #[true, true, true, true, true, true, true, true, true, true, true, true, true, true, true, true, true, true, true, true, true, true, true, true] rfl rfl (by kernel_rfl) (by kernel_rfl) ?_
          refine S_ldP (j := 1) ok rfl rfl rfl hi814 (p_one (v := .int .i64 x701.Y) ty_ag_3 ty_sz_3 rfl) ?_
          refine S_bin rfl rfl (ev_sub ..) ?_
          refine S_bld (v := .agg (c_T_lecternref10_Spot (⟨(IntKind.wrap .i64 (x701.X - p1.X)), (IntKind.wrap .i64 (x701.Y - p1.Y))⟩ : T_lecternref10_Spot))) (b_st ty_zc_52 ty_pl_52 rfl) ?_
          refine S_st (j := 1) (cs' := [.int .i64 (⟨(IntKind.wrap .i64 (x701.X - p1.X)), (IntKind.wrap .i64 (x701.Y - p1.Y))⟩ : T_lecternref10_Spot).X, .int .i64 (⟨(IntKind.wrap .i64 (x701.X - p1.X)), (IntKind.wrap .i64 (x701.Y - p1.Y))⟩ : T_lecternref10_Spot).Y]) ok rfl rfl rfl hi814 rfl ty_sz_52 rfl rfl (fun ok => ?_)
          refine S_nil ?_
          refine A_end (by kernel_rfl) ?_
          refine C_seq ?_
          refine C_reg (mdl []) ?_
          refine S_frzP 0 10 ok rfl rfl hi815 (fun ok => ?_)
          refine S_frzP 1 11 ok rfl rfl hi814 (fun ok => ?_)
          refine S_ldQ rfl (p_agg (vs := c_T_lecternref10_Spot (⟨(IntKind.wrap .i64 (x700.X - p1.X)), (IntKind.wrap .i64 (x700.Y - p1.Y))⟩ : T_lecternref10_Spot)) ty_ag_52 ty_sz_52 rfl rfl) ?_
          refine S_ldQ rfl (p_agg (vs := c_T_lecternref10_Spot (⟨(IntKind.wrap .i64 (x701.X - p1.X)), (IntKind.wrap .i64 (x701.Y - p1.Y))⟩ : T_lecternref10_Spot)) ty_ag_52 ty_sz_52 rfl rfl) ?_
          refine S_call (F_lecternref10_Cross_ok _ hF fun x842 _ hF => ?_) (.cons (.refl _) (.cons (.refl _) (.nil)))
          refine S_a (v := .int _ _) rfl ?_
          refine S_nil ?_
          refine C_seq ?_
          refine C_seq ?_
          refine C_reg (mdl []) ?_
          refine S_ldQ rfl (p_agg (vs := c_T_lecternref10_Spot (⟨(IntKind.wrap .i64 (x700.X - p1.X)), (IntKind.wrap .i64 (x700.Y - p1.Y))⟩ : T_lecternref10_Spot)) ty_ag_52 ty_sz_52 rfl rfl) ?_
          refine S_bld (v := .agg (c_T_lecternref10_Spot (⟨(0 : Int), (0 : Int)⟩ : T_lecternref10_Spot))) (b_st ty_zc_52 ty_pl_52 rfl) ?_
          refine S_bin rfl rfl (e_agg (b := (((⟨(IntKind.wrap .i64 (x700.X - p1.X)), (IntKind.wrap .i64 (x700.Y - p1.Y))⟩ : T_lecternref10_Spot).X == (⟨(0 : Int), (0 : Int)⟩ : T_lecternref10_Spot).X) && (((⟨(IntKind.wrap .i64 (x700.X - p1.X)), (IntKind.wrap .i64 (x700.Y - p1.Y))⟩ : T_lecternref10_Spot).Y == (⟨(0 : Int), (0 : Int)⟩ : T_lecternref10_Spot).Y) && true))) ty_qg_52 ty_sf_52 (by simp only [c_T_lecternref10_Spot, ev_eqF_cons, ev_eqF_nil, ev_part, ty_sf_52, ty_qg_52, ty_ag_3, ty_sz_3, ty_ki_3, ty_ag_3, ty_sz_3, ty_ki_3, ev_eq_int, ev_eq_str, ev_eq_bool, ev_eq_agg, ev_eq_int2, ev_eq_str2, ev_eq_bool2, List.drop_zero, List.drop_succ_cons, List.length_cons, List.length_nil, List.take_succ_cons, List.take_zero, Option.isSome_some, if_true, Option.bind_some, Option.map_some, Nat.reduceAdd, Nat.reduceLeDiff])) ?_
          refine S_m (v := .bool _) rfl ?_
          refine S_two (b := (((⟨(IntKind.wrap .i64 (x700.X - p1.X)), (IntKind.wrap .i64 (x700.Y - p1.Y))⟩ : T_lecternref10_Spot).X == (⟨(0 : Int), (0 : Int)⟩ : T_lecternref10_Spot).X) && (((⟨(IntKind.wrap .i64 (x700.X - p1.X)), (IntKind.wrap .i64 (x700.Y - p1.Y))⟩ : T_lecternref10_Spot).Y == (⟨(0 : Int), (0 : Int)⟩ : T_lecternref10_Spot).Y) && true))) 4 78 (.bool ((((⟨(IntKind.wrap .i64 (x700.X - p1.X)), (IntKind.wrap .i64 (x700.Y - p1.Y))⟩ : T_lecternref10_Spot).X == (⟨(0 : Int), (0 : Int)⟩ : T_lecternref10_Spot).X) && (((⟨(IntKind.wrap .i64 (x700.X - p1.X)), (IntKind.wrap .i64 (x700.Y - p1.Y))⟩ : T_lecternref10_Spot).Y == (⟨(0 : Int), (0 : Int)⟩ : T_lecternref10_Spot).Y) && true)) || (((⟨(IntKind.wrap .i64 (x701.X - p1.X)), (IntKind.wrap .i64 (x701.Y - p1.Y))⟩ : T_lecternref10_Spot).X == (⟨(0 : Int), (0 : Int)⟩ : T_lecternref10_Spot).X) && (((⟨(IntKind.wrap .i64 (x701.X - p1.X)), (IntKind.wrap .i64 (x701.Y - p1.Y))⟩ : T_lecternref10_Spot).Y == (⟨(0 : Int), (0 : Int)⟩ : T_lecternref10_Spot).Y) && true)))) (fun hb843 => ?_) (fun hb843 => ?_) ?_
          ·
           refine S_off rfl rfl hb843 ?_
           refine S_offD ?_
           refine S_off rfl rfl hb843 ?_
           refine S_offD ?_
           refine S_off rfl rfl hb843 ?_
           refine S_offD ?_
           refine S_pickT (v := .bool _) rfl hb843 rfl ?_
           refine S_nil ?_
           refine .hd (or_t hb843) ?_
           repeat (first | with_reducible exact WS.refl _ | refine WS.add ?_ rfl)
          ·
           refine S_on rfl rfl hb843 ?_
           refine S_in ?_
           refine S_ldQ rfl (p_agg (vs := c_T_lecternref10_Spot (⟨(IntKind.wrap .i64 (x701.X - p1.X)), (IntKind.wrap .i64 (x701.Y - p1.Y))⟩ : T_lecternref10_Spot)) ty_ag_52 ty_sz_52 rfl rfl) ?_
           refine S_nil ?_
           refine S_on rfl rfl hb843 ?_
           refine S_in ?_
           refine S_bld (v := .agg (c_T_lecternref10_Spot (⟨(0 : Int), (0 : Int)⟩ : T_lecternref10_Spot))) (b_st ty_zc_52 ty_pl_52 rfl) ?_
           refine S_nil ?_
           refine S_on rfl rfl hb843 ?_
           refine S_in ?_
           refine S_bin rfl rfl (e_agg (b := (((⟨(IntKind.wrap .i64 (x701.X - p1.X)), (IntKind.wrap .i64 (x701.Y - p1.Y))⟩ : T_lecternref10_Spot).X == (⟨(0 : Int), (0 : Int)⟩ : T_lecternref10_Spot).X) && (((⟨(IntKind.wrap .i64 (x701.X - p1.X)), (IntKind.wrap .i64 (x701.Y - p1.Y))⟩ : T_lecternref10_Spot).Y == (⟨(0 : Int), (0 : Int)⟩ : T_lecternref10_Spot).Y) && true))) ty_qg_52 ty_sf_52 (by simp only [c_T_lecternref10_Spot, ev_eqF_cons, ev_eqF_nil, ev_part, ty_sf_52, ty_qg_52, ty_ag_3, ty_sz_3, ty_ki_3, ty_ag_3, ty_sz_3, ty_ki_3, ev_eq_int, ev_eq_str, ev_eq_bool, ev_eq_agg, ev_eq_int2, ev_eq_str2, ev_eq_bool2, List.drop_zero, List.drop_succ_cons, List.length_cons, List.length_nil, List.take_succ_cons, List.take_zero, Option.isSome_some, if_true, Option.bind_some, Option.map_some, Nat.reduceAdd, Nat.reduceLeDiff])) ?_
           refine S_nil ?_
           refine S_pickF (v := .bool _) rfl hb843 rfl ?_
           refine S_nil ?_
           refine .hd (or_f hb843) ?_
           repeat (first | with_reducible exact WS.refl _ | refine WS.add ?_ rfl)
          refine S_m (v := .bool _) rfl ?_
          refine S_two (b := ((((⟨(IntKind.wrap .i64 (x700.X - p1.X)), (IntKind.wrap .i64 (x700.Y - p1.Y))⟩ : T_lecternref10_Spot).X == (⟨(0 : Int), (0 : Int)⟩ : T_lecternref10_Spot).X) && (((⟨(IntKind.wrap .i64 (x700.X - p1.X)), (IntKind.wrap .i64 (x700.Y - p1.Y))⟩ : T_lecternref10_Spot).Y == (⟨(0 : Int), (0 : Int)⟩ : T_lecternref10_Spot).Y) && true)) || (((⟨(IntKind.wrap .i64 (x701.X - p1.X)), (IntKind.wrap .i64 (x701.Y - p1.Y))⟩ : T_lecternref10_Spot).X == (⟨(0 : Int), (0 : Int)⟩ : T_lecternref10_Spot).X) && (((⟨(IntKind.wrap .i64 (x701.X - p1.X)), (IntKind.wrap .i64 (x701.Y - p1.Y))⟩ : T_lecternref10_Spot).Y == (⟨(0 : Int), (0 : Int)⟩ : T_lecternref10_Spot).Y) && true)))) 17 96 (.bool (((((⟨(IntKind.wrap .i64 (x700.X - p1.X)), (IntKind.wrap .i64 (x700.Y - p1.Y))⟩ : T_lecternref10_Spot).X == (⟨(0 : Int), (0 : Int)⟩ : T_lecternref10_Spot).X) && (((⟨(IntKind.wrap .i64 (x700.X - p1.X)), (IntKind.wrap .i64 (x700.Y - p1.Y))⟩ : T_lecternref10_Spot).Y == (⟨(0 : Int), (0 : Int)⟩ : T_lecternref10_Spot).Y) && true)) || (((⟨(IntKind.wrap .i64 (x701.X - p1.X)), (IntKind.wrap .i64 (x701.Y - p1.Y))⟩ : T_lecternref10_Spot).X == (⟨(0 : Int), (0 : Int)⟩ : T_lecternref10_Spot).X) && (((⟨(IntKind.wrap .i64 (x701.X - p1.X)), (IntKind.wrap .i64 (x701.Y - p1.Y))⟩ : T_lecternref10_Spot).Y == (⟨(0 : Int), (0 : Int)⟩ : T_lecternref10_Spot).Y) && true))) || ((x842 == (0 : Int)) && (decide ((IntKind.wrap .i64 ((IntKind.wrap .i64 ((⟨(IntKind.wrap .i64 (x700.X - p1.X)), (IntKind.wrap .i64 (x700.Y - p1.Y))⟩ : T_lecternref10_Spot).X * (⟨(IntKind.wrap .i64 (x701.X - p1.X)), (IntKind.wrap .i64 (x701.Y - p1.Y))⟩ : T_lecternref10_Spot).X)) + (IntKind.wrap .i64 ((⟨(IntKind.wrap .i64 (x700.X - p1.X)), (IntKind.wrap .i64 (x700.Y - p1.Y))⟩ : T_lecternref10_Spot).Y * (⟨(IntKind.wrap .i64 (x701.X - p1.X)), (IntKind.wrap .i64 (x701.Y - p1.Y))⟩ : T_lecternref10_Spot).Y)))) < (0 : Int)))))) (fun hb844 => ?_) (fun hb844 => ?_) ?_
          ·
           refine S_off rfl rfl hb844 ?_
           refine S_offD ?_
           refine S_off rfl rfl hb844 ?_
           refine S_offD ?_
           refine S_off rfl rfl hb844 ?_
           refine S_offD ?_
           refine S_off2 rfl rfl ?_
           refine S_offD ?_
           refine S_off2 rfl rfl ?_
           refine S_offD ?_
           refine S_off2 rfl rfl ?_
           refine S_offD ?_
           refine S_off2 rfl rfl ?_
           refine S_offD ?_
           refine S_off2 rfl rfl ?_
           refine S_offD ?_
           refine S_off2 rfl rfl ?_
           refine S_offD ?_
           refine S_off2 rfl rfl ?_
           refine S_offD ?_
           refine S_off2 rfl rfl ?_
           refine S_offD ?_
           refine S_off2 rfl rfl ?_
           refine S_offD ?_
           refine S_off2 rfl rfl ?_
           refine S_offD ?_
           refine S_off2 rfl rfl ?_
           refine S_offD ?_
           refine S_off2 rfl rfl ?_
           refine S_offD ?_
           refine S_off rfl rfl hb844 ?_
           refine S_offD ?_
           refine S_pickT (v := .bool _) rfl hb844 rfl ?_
           refine S_nil ?_
           refine .hd (or_t hb844) ?_
           repeat (first | with_reducible exact WS.refl _ | refine WS.add ?_ rfl)
          ·
           refine S_on rfl rfl hb844 ?_
           refine S_in ?_
           refine S_m (v := .int _ _) rfl ?_
           refine S_nil ?_
           refine S_on rfl rfl hb844 ?_
           refine S_in ?_
           refine S_bin rfl rfl (ev_eql ..) ?_
           refine S_nil ?_
           refine S_on rfl rfl hb844 ?_
           refine S_in ?_
           refine S_m (v := .bool _) rfl ?_
           refine S_nil ?_
           refine S_two (b := (x842 == (0 : Int))) 13 95 (.bool ((x842 == (0 : Int)) && (decide ((IntKind.wrap .i64 ((IntKind.wrap .i64 ((⟨(IntKind.wrap .i64 (x700.X - p1.X)), (IntKind.wrap .i64 (x700.Y - p1.Y))⟩ : T_lecternref10_Spot).X * (⟨(IntKind.wrap .i64 (x701.X - p1.X)), (IntKind.wrap .i64 (x701.Y - p1.Y))⟩ : T_lecternref10_Spot).X)) + (IntKind.wrap .i64 ((⟨(IntKind.wrap .i64 (x700.X - p1.X)), (IntKind.wrap .i64 (x700.Y - p1.Y))⟩ : T_lecternref10_Spot).Y * (⟨(IntKind.wrap .i64 (x701.X - p1.X)), (IntKind.wrap .i64 (x701.Y - p1.Y))⟩ : T_lecternref10_Spot).Y)))) < (0 : Int))))) (fun hb846 => ?_) (fun hb846 => ?_) ?_
           ·
            refine S_on rfl rfl hb846 ?_
            refine S_in ?_
            refine S_faQ rfl ty_fd_52_0 ty_sz_3 rfl ?_
            refine S_nil ?_
            refine S_on rfl rfl hb846 ?_
            refine S_in ?_
            refine S_ldQ rfl (p_one ty_ag_3 ty_sz_3 rfl) ?_
            refine S_nil ?_
            refine S_on rfl rfl hb846 ?_
            refine S_in ?_
            refine S_faQ rfl ty_fd_52_0 ty_sz_3 rfl ?_
            refine S_nil ?_
            refine S_on rfl rfl hb846 ?_
            refine S_in ?_
            refine S_ldQ rfl (p_one ty_ag_3 ty_sz_3 rfl) ?_
            refine S_nil ?_
            refine S_on rfl rfl hb846 ?_
            refine S_in ?_
            refine S_bin rfl rfl (ev_mul ..) ?_
            refine S_nil ?_
            refine S_on rfl rfl hb846 ?_
            refine S_in ?_
            refine S_faQ rfl ty_fd_52_1 ty_sz_3 rfl ?_
            refine S_nil ?_
            refine S_on rfl rfl hb846 ?_
            refine S_in ?_
            refine S_ldQ rfl (p_one ty_ag_3 ty_sz_3 rfl) ?_
            refine S_nil ?_
            refine S_on rfl rfl hb846 ?_
            refine S_in ?_
            refine S_faQ rfl ty_fd_52_1 ty_sz_3 rfl ?_
            refine S_nil ?_
            refine S_on rfl rfl hb846 ?_
            refine S_in ?_
            refine S_ldQ rfl (p_one ty_ag_3 ty_sz_3 rfl) ?_
            refine S_nil ?_
            refine S_on rfl rfl hb846 ?_
            refine S_in ?_
            refine S_bin rfl rfl (ev_mul ..) ?_
            refine S_nil ?_
            refine S_on rfl rfl hb846 ?_
            refine S_in ?_
            refine S_bin rfl rfl (ev_add ..) ?_
            refine S_nil ?_
            refine S_on rfl rfl hb846 ?_
            refine S_in ?_
            refine S_bin rfl rfl (ev_lss ..) ?_
            refine S_nil ?_
            refine S_on rfl rfl hb844 ?_
            refine S_in ?_
            refine S_pickT (v := .bool _) rfl hb846 rfl ?_
            refine S_nil ?_
            refine S_nil ?_
            refine .hd (and_t hb846) ?_
            repeat (first | with_reducible exact WS.refl _ | refine WS.add ?_ rfl)
           ·
            refine S_off rfl rfl hb846 ?_
            refine S_offD ?_
            refine S_off rfl rfl hb846 ?_
            refine S_offD ?_
            refine S_off rfl rfl hb846 ?_
            refine S_offD ?_
            refine S_off rfl rfl hb846 ?_
            refine S_offD ?_
            refine S_off rfl rfl hb846 ?_
            refine S_offD ?_
            refine S_off rfl rfl hb846 ?_
            refine S_offD ?_
            refine S_off rfl rfl hb846 ?_
            refine S_offD ?_
            refine S_off rfl rfl hb846 ?_
            refine S_offD ?_
            refine S_off rfl rfl hb846 ?_
            refine S_offD ?_
            refine S_off rfl rfl hb846 ?_
            refine S_offD ?_
            refine S_off rfl rfl hb846 ?_
            refine S_offD ?_
            refine S_off rfl rfl hb846 ?_
            refine S_offD ?_
            refine S_on rfl rfl hb844 ?_
            refine S_in ?_
            refine S_pickF (v := .bool _) rfl hb846 rfl ?_
            refine S_nil ?_
            refine S_nil ?_
            refine .hd (and_f hb846) ?_
            repeat (first | with_reducible exact WS.refl _ | refine WS.add ?_ rfl)
           refine S_pickF (v := .bool _) rfl hb844 rfl ?_
           refine S_nil ?_
           refine .hd (or_f hb844) ?_
           repeat (first | with_reducible exact WS.refl _ | refine WS.add ?_ rfl)
          refine S_nil ?_
          refine C_if (b := (((((⟨(IntKind.wrap .i64 (x700.X - p1.X)), (IntKind.wrap .i64 (x700.Y - p1.Y))⟩ : T_lecternref10_Spot).X == (⟨(0 : Int), (0 : Int)⟩ : T_lecternref10_Spot).X) && (((⟨(IntKind.wrap .i64 (x700.X - p1.X)), (IntKind.wrap .i64 (x700.Y - p1.Y))⟩ : T_lecternref10_Spot).Y == (⟨(0 : Int), (0 : Int)⟩ : T_lecternref10_Spot).Y) && true)) || (((⟨(IntKind.wrap .i64 (x701.X - p1.X)), (IntKind.wrap .i64 (x701.Y - p1.Y))⟩ : T_lecternref10_Spot).X == (⟨(0 : Int), (0 : Int)⟩ : T_lecternref10_Spot).X) && (((⟨(IntKind.wrap .i64 (x701.X - p1.X)), (IntKind.wrap .i64 (x701.Y - p1.Y))⟩ : T_lecternref10_Spot).Y == (⟨(0 : Int), (0 : Int)⟩ : T_lecternref10_Spot).Y) && true))) || ((x842 == (0 : Int)) && (decide ((IntKind.wrap .i64 ((IntKind.wrap .i64 ((⟨(IntKind.wrap .i64 (x700.X - p1.X)), (IntKind.wrap .i64 (x700.Y - p1.Y))⟩ : T_lecternref10_Spot).X * (⟨(IntKind.wrap .i64 (x701.X - p1.X)), (IntKind.wrap .i64 (x701.Y - p1.Y))⟩ : T_lecternref10_Spot).X)) + (IntKind.wrap .i64 ((⟨(IntKind.wrap .i64 (x700.X - p1.X)), (IntKind.wrap .i64 (x700.Y - p1.Y))⟩ : T_lecternref10_Spot).Y * (⟨(IntKind.wrap .i64 (x701.X - p1.X)), (IntKind.wrap .i64 (x701.Y - p1.Y))⟩ : T_lecternref10_Spot).Y)))) < (0 : Int)))))) rfl hF (fun hb847 hF => ?_) (fun hb847 hF => ?_)
          ·
           refine C_seq ?_
           refine C_reg (mdl []) ?_
           refine S_a (v := .int _ _) rfl ?_
           refine S_a (v := .bool _) rfl ?_
           refine S_nil ?_
           refine WP_ret ?_
           replace hF := hG695 _ (F_some hF)
           replace hF := hG458 _ (F_some hF)
           repeat (first | with_reducible refine Exit.sel_ret ?_ | with_reducible refine Exit.blk_ret ?_ | with_reducible refine Exit.jmp_ret ?_)
           refine C_ret (fn := Tryd.f23) rfl (.tmp (v := .int .i64 (0 : Int)) rfl (.tmp (v := .bool true) rfl .nil)) ?_
           exact ⟨_, _, (.tupC (.cons (.refl _) (.cons (.refl _) (.nil)))), ok.wh, _, F_some hF, rfl, rfl⟩
          ·
           refine WP_skip ?_
           refine C_seq ?_
           refine C_plan (mdl [(97, 3), (99, 3)]) [0, 2, 1, 3, 4, 5, 6, 7] [_, _, _, _, _, _, _, _] (by kernel_rfl) rfl rfl (by kernel_rfl) ?_
           refine S_ldQ rfl (p_agg (vs := c_T_lecternref10_Spot (⟨(IntKind.wrap .i64 (x701.X - p1.X)), (IntKind.wrap .i64 (x701.Y - p1.Y))⟩ : T_lecternref10_Spot)) ty_ag_52 ty_sz_52 rfl rfl) ?_
           refine S_ldQ rfl (p_agg (vs := c_T_lecternref10_Spot (⟨(IntKind.wrap .i64 (x700.X - p1.X)), (IntKind.wrap .i64 (x700.Y - p1.Y))⟩ : T_lecternref10_Spot)) ty_ag_52 ty_sz_52 rfl rfl) ?_
           refine S_call (F_lecternref10_quarter_ok _ hF fun x848 _ hF => ?_) (.cons (.refl _) (.nil))
           refine S_call (F_lecternref10_quarter_ok _ hF fun x849 _ hF => ?_) (.cons (.refl _) (.nil))
           refine S_bin rfl rfl (ev_sub ..) ?_
           refine S_bin rfl rfl (ev_add ..) ?_
           refine S_bin rfl rfl (e_rem rfl) ?_
           refine S_a (v := .int _ _) rfl ?_
           refine S_nil ?_
           refine C_join hF (fun (a854 : Int) s' => OK h [] ∧ WS s' ⟨mkSl 122 [(3, .iptr (c_T_lecternref10_Spot p1)), (6, .int .i64 a692), (8, .iptr (c_T_lecternref10_Stroke x688)), (9, .int .i64 a693), (13, .int .i64 a854), (14, .sl 2 (List.map c_T_lecternref10_Stroke p0) 0), (15, .int .i64 (p0.length : Int)), (16, .int .i64 a456)], Hp h []⟩) (fun J855 hF => ?_) ?_
           ·
            refine C_seq ?_
            refine C_reg (mdl []) ?_
            refine S_m (v := .int _ _) rfl ?_
            refine S_bin rfl rfl (ev_eql ..) ?_
            refine S_m (v := .bool _) rfl ?_
            refine S_two (b := ((Int.tmod (IntKind.wrap .i64 ((IntKind.wrap .i64 (x848 - x849)) + (4 : Int))) (4 : Int)) == (3 : Int))) 7 113 (.bool (((Int.tmod (IntKind.wrap .i64 ((IntKind.wrap .i64 (x848 - x849)) + (4 : Int))) (4 : Int)) == (3 : Int)) || (((Int.tmod (IntKind.wrap .i64 ((IntKind.wrap .i64 (x848 - x849)) + (4 : Int))) (4 : Int)) == (2 : Int)) && (decide (x842 < (0 : Int)))))) (fun hb856 => ?_) (fun hb856 => ?_) ?_
            ·
             refine S_off rfl rfl hb856 ?_
             refine S_offD ?_
             refine S_off rfl rfl hb856 ?_
             refine S_offD ?_
             refine S_off rfl rfl hb856 ?_
             refine S_offD ?_
             refine S_off2 rfl rfl ?_
             refine S_offD ?_
             refine S_off2 rfl rfl ?_
             refine S_offD ?_
             refine S_off rfl rfl hb856 ?_
             refine S_offD ?_
             refine S_pickT (v := .bool _) rfl hb856 rfl ?_
             refine S_nil ?_
             refine .hd (or_t hb856) ?_
             repeat (first | with_reducible exact WS.refl _ | refine WS.add ?_ rfl)
            ·
             refine S_on rfl rfl hb856 ?_
             refine S_in ?_
             refine S_m (v := .int _ _) rfl ?_
             refine S_nil ?_
             refine S_on rfl rfl hb856 ?_
             refine S_in ?_
             refine S_bin rfl rfl (ev_eql ..) ?_
             refine S_nil ?_
             refine S_on rfl rfl hb856 ?_
             refine S_in ?_
             refine S_m (v := .bool _) rfl ?_
             refine S_nil ?_
             refine S_two (b := ((Int.tmod (IntKind.wrap .i64 ((IntKind.wrap .i64 (x848 - x849)) + (4 : Int))) (4 : Int)) == (2 : Int))) 3 112 (.bool (((Int.tmod (IntKind.wrap .i64 ((IntKind.wrap .i64 (x848 - x849)) + (4 : Int))) (4 : Int)) == (2 : Int)) && (decide (x842 < (0 : Int))))) (fun hb858 => ?_) (fun hb858 => ?_) ?_
             ·
              refine S_on rfl rfl hb858 ?_
              refine S_in ?_
              refine S_m (v := .int _ _) rfl ?_
              refine S_nil ?_
              refine S_on rfl rfl hb858 ?_
              refine S_in ?_
              refine S_bin rfl rfl (ev_lss ..) ?_
              refine S_nil ?_
              refine S_on rfl rfl hb856 ?_
              refine S_in ?_
              refine S_pickT (v := .bool _) rfl hb858 rfl ?_
              refine S_nil ?_
              refine S_nil ?_
              refine .hd (and_t hb858) ?_
              repeat (first | with_reducible exact WS.refl _ | refine WS.add ?_ rfl)
             ·
              refine S_off rfl rfl hb858 ?_
              refine S_offD ?_
              refine S_off rfl rfl hb858 ?_
              refine S_offD ?_
              refine S_on rfl rfl hb856 ?_
              refine S_in ?_
              refine S_pickF (v := .bool _) rfl hb858 rfl ?_
              refine S_nil ?_
              refine S_nil ?_
              refine .hd (and_f hb858) ?_
              repeat (first | with_reducible exact WS.refl _ | refine WS.add ?_ rfl)
             refine S_pickF (v := .bool _) rfl hb856 rfl ?_
             refine S_nil ?_
             refine .hd (or_f hb856) ?_
             repeat (first | with_reducible exact WS.refl _ | refine WS.add ?_ rfl)
            refine S_nil ?_
            refine C_if (b := (((Int.tmod (IntKind.wrap .i64 ((IntKind.wrap .i64 (x848 - x849)) + (4 : Int))) (4 : Int)) == (3 : Int)) || (((Int.tmod (IntKind.wrap .i64 ((IntKind.wrap .i64 (x848 - x849)) + (4 : Int))) (4 : Int)) == (2 : Int)) && (decide (x842 < (0 : Int)))))) rfl hF (fun hb859 hF => ?_) (fun hb859 hF => ?_)
            ·
             refine C_reg (mdl []) ?_
             refine S_m (v := .int _ _) rfl ?_
             refine S_bin rfl rfl (ev_sub ..) ?_
             refine S_a (v := .int _ _) rfl ?_
             refine S_nil ?_
             have hwo : WO [(0, .room), (0, .room)] [] := (.drop (.drop .nil))
             exact ⟨(IntKind.wrap .i64 ((Int.tmod (IntKind.wrap .i64 ((IntKind.wrap .i64 (x848 - x849)) + (4 : Int))) (4 : Int)) - (4 : Int))), hF, (hwo.spec ok).1, WS.mk' (.cons (.refl _) (.cons (.refl _) (.cons (.refl _) (.cons (.refl _) (.cons (.refl _) (.cons (.refl _) (.cons (.refl _) (.cons (.refl _) .nil)))))))) ok hwo⟩
            ·
             refine WP_skip ?_
             have hwo : WO [(0, .room), (0, .room)] [] := (.drop (.drop .nil))
             exact ⟨(Int.tmod (IntKind.wrap .i64 ((IntKind.wrap .i64 (x848 - x849)) + (4 : Int))) (4 : Int)), hF, (hwo.spec ok).1, WS.mk' (.cons (.refl _) (.cons (.refl _) (.cons (.refl _) (.cons (.refl _) (.cons (.refl _) (.cons (.refl _) (.cons (.refl _) (.cons (.refl _) .nil)))))))) ok hwo⟩
           ·
            rintro a854 s' hF ⟨ok, hws⟩
            refine WP_ws hws ?_
            clear hws s'
            refine C_reg (mdl []) ?_
            refine S_m (v := .int _ _) rfl ?_
            refine S_m (v := .int _ _) rfl ?_
            refine S_bin rfl rfl (ev_add ..) ?_
            refine S_a (v := .int _ _) rfl ?_
            refine S_nil ?_
            refine C_reg (mdl []) ?_
            refine S_m (v := .int _ _) rfl ?_
            refine S_bin rfl rfl (ev_add ..) ?_
            refine S_a (v := .int _ _) rfl ?_
            refine S_nil ?_
            refine ih697 ((IntKind.wrap .i64 (a692 + a854)), (IntKind.wrap .i64 (a693 + (1 : Int)))) _ hF ?_
            have hwo : WO [] [] := .nil
            exact ⟨(hwo.spec ok).1, WS.mk' (.cons (.refl _) (.cons (.refl _) (.cons (.refl _) (.cons (.refl _) (.cons (.refl _) (.cons (.refl _) (.cons (.refl _) .nil))))))) ok hwo⟩
        ·
         refine S_ldP (j := 1) ok rfl rfl rfl hi814 (p_one (v := .int .i64 x701.Y) ty_ag_3 ty_sz_3 rfl) ?_
         refine S_nil ?_
         refine A_seq [20] [_] 5 #[true, true, true, true, true, true, true, true, true, true, true, true, false, true, true, false, true, true, true, true, true, false, false, false] rfl rfl (by kernel_rfl) (by kernel_rfl) ?_
         refine S_bin rfl rfl (ev_sub ..) ?_
         refine S_nil ?_
         refine A_two 12 22 _ _ #[true, true, true, true, true, true, true, true, true, true, true, true, true, true, true, false, true, true, true, true, true, false, false, false] #[true, true, true, true, true, true, true, true, true, true, true, true, false, true, true, false, true, true, true, true, true, false, true, false] (by kernel_rfl) rfl rfl (by kernel_rfl) (by kernel_rfl) ?_ ?_
         ·
          refine S_ldP (j := 1) ok rfl rfl rfl hi814 (p_one (v := .int .i64 x701.X) ty_ag_3 ty_sz_3 rfl) ?_
          refine S_nil ?_
          refine A_seq [15, 21, 22, 23] [_, _, _, _] 0 #[true, true, true, true, true, true, true, true, true, true, true, true, true, true, true, true, true, true, true, true, true, true, true, true] rfl rfl (by kernel_rfl) (by kernel_rfl) ?_
          refine S_bin rfl rfl (ev_sub ..) ?_
          refine S_bld (v := .agg (c_T_lecternref10_Spot (⟨(IntKind.wrap .i64 (x701.X - p1.X)), (IntKind.wrap .i64 (x701.Y - p1.Y))⟩ : T_lecternref10_Spot))) (b_st ty_zc_52 ty_pl_52 rfl) ?_
          refine S_st (j := 0) (cs' := [.int .i64 (⟨(IntKind.wrap .i64 (x700.X - p1.X)), (IntKind.wrap .i64 (x700.Y - p1.Y))⟩ : T_lecternref10_Spot).X, .int .i64 (⟨(IntKind.wrap .i64 (x700.X - p1.X)), (IntKind.wrap .i64 (x700.Y - p1.Y))⟩ : T_lecternref10_Spot).Y]) ok rfl rfl rfl hi815 rfl ty_sz_52 rfl rfl (fun ok => ?_)
          refine S_st (j := 1) (cs' := [.int .i64 (⟨(IntKind.wrap .i64 (x701.X - p1.X)), (IntKind.wrap .i64 (x701.Y - p1.Y))⟩ : T_lecternref10_Spot).X, .int .i64 (⟨(IntKind.wrap .i64 (x701.X - p1.X)), (IntKind.wrap .i64 (x701.Y - p1.Y))⟩ : T_lecternref10_Spot).Y]) ok rfl rfl rfl hi814 rfl ty_sz_52 rfl rfl (fun ok => ?_)
          refine S_nil ?_
          refine A_end (by kernel_rfl) ?_
          refine C_seq ?_
          refine C_reg (mdl []) ?_
          refine S_frzP 0 10 ok rfl rfl hi815 (fun ok => ?_)
          refine S_frzP 1 11 ok rfl rfl hi814 (fun ok => ?_)
          refine S_ldQ rfl (p_agg (vs := c_T_lecternref10_Spot (⟨(IntKind.wrap .i64 (x700.X - p1.X)), (IntKind.wrap .i64 (x700.Y - p1.Y))⟩ : T_lecternref10_Spot)) ty_ag_52 ty_sz_52 rfl rfl) ?_
          refine S_ldQ rfl (p_agg (vs := c_T_lecternref10_Spot (⟨(IntKind.wrap .i64 (x701.X - p1.X)), (IntKind.wrap .i64 (x701.Y - p1.Y))⟩ : T_lecternref10_Spot)) ty_ag_52 ty_sz_52 rfl rfl) ?_
          refine S_call (F_lecternref10_Cross_ok _ hF fun x864 _ hF => ?_) (.cons (.refl _) (.cons (.refl _) (.nil)))
          refine S_a (v := .int _ _) rfl ?_
          refine S_nil ?_
          refine C_seq ?_
          refine C_seq ?_
          refine C_reg (mdl []) ?_
          refine S_ldQ rfl (p_agg (vs := c_T_lecternref10_Spot (⟨(IntKind.wrap .i64 (x700.X - p1.X)), (IntKind.wrap .i64 (x700.Y - p1.Y))⟩ : T_lecternref10_Spot)) ty_ag_52 ty_sz_52 rfl rfl) ?_
          refine S_bld (v := .agg (c_T_lecternref10_Spot (⟨(0 : Int), (0 : Int)⟩ : T_lecternref10_Spot))) (b_st ty_zc_52 ty_pl_52 rfl) ?_
          refine S_bin rfl rfl (e_agg (b := (((⟨(IntKind.wrap .i64 (x700.X - p1.X)), (IntKind.wrap .i64 (x700.Y - p1.Y))⟩ : T_lecternref10_Spot).X == (⟨(0 : Int), (0 : Int)⟩ : T_lecternref10_Spot).X) && (((⟨(IntKind.wrap .i64 (x700.X - p1.X)), (IntKind.wrap .i64 (x700.Y - p1.Y))⟩ : T_lecternref10_Spot).Y == (⟨(0 : Int), (0 : Int)⟩ : T_lecternref10_Spot).Y) && true))) ty_qg_52 ty_sf_52 (by simp only [c_T_lecternref10_Spot, ev_eqF_cons, ev_eqF_nil, ev_part, ty_sf_52, ty_qg_52, ty_ag_3, ty_sz_3, ty_ki_3, ty_ag_3, ty_sz_3, ty_ki_3, ev_eq_int, ev_eq_str, ev_eq_bool, ev_eq_agg, ev_eq_int2, ev_eq_str2, ev_eq_bool2, List.drop_zero, List.drop_succ_cons, List.length_cons, List.length_nil, List.take_succ_cons, List.take_zero, Option.isSome_some, if_true, Option.bind_some, Option.map_some, Nat.reduceAdd, Nat.reduceLeDiff])) ?_
          refine S_m (v := .bool _) rfl ?_
          refine S_two (b := (((⟨(IntKind.wrap .i64 (x700.X - p1.X)), (IntKind.wrap .i64 (x700.Y - p1.Y))⟩ : T_lecternref10_Spot).X == (⟨(0 : Int), (0 : Int)⟩ : T_lecternref10_Spot).X) && (((⟨(IntKind.wrap .i64 (x700.X - p1.X)), (IntKind.wrap .i64 (x700.Y - p1.Y))⟩ : T_lecternref10_Spot).Y == (⟨(0 : Int), (0 : Int)⟩ : T_lecternref10_Spot).Y) && true))) 4 78 (.bool ((((⟨(IntKind.wrap .i64 (x700.X - p1.X)), (IntKind.wrap .i64 (x700.Y - p1.Y))⟩ : T_lecternref10_Spot).X == (⟨(0 : Int), (0 : Int)⟩ : T_lecternref10_Spot).X) && (((⟨(IntKind.wrap .i64 (x700.X - p1.X)), (IntKind.wrap .i64 (x700.Y - p1.Y))⟩ : T_lecternref10_Spot).Y == (⟨(0 : Int), (0 : Int)⟩ : T_lecternref10_Spot).Y) && true)) || (((⟨(IntKind.wrap .i64 (x701.X - p1.X)), (IntKind.wrap .i64 (x701.Y - p1.Y))⟩ : T_lecternref10_Spot).X == (⟨(0 : Int), (0 : Int)⟩ : T_lecternref10_Spot).X) && (((⟨(IntKind.wrap .i64 (x701.X - p1.X)), (IntKind.wrap .i64 (x701.Y - p1.Y))⟩ : T_lecternref10_Spot).Y == (⟨(0 : Int), (0 : Int)⟩ : T_lecternref10_Spot).Y) && true)))) (fun hb865 => ?_) (fun hb865 => ?_) ?_
          ·
           refine S_off rfl rfl hb865 ?_
           refine S_offD ?_
           refine S_off rfl rfl hb865 ?_
           refine S_offD ?_
           refine S_off rfl rfl hb865 ?_
           refine S_offD ?_
           refine S_pickT (v := .bool _) rfl hb865 rfl ?_
           refine S_nil ?_
           refine .hd (or_t hb865) ?_
           repeat (first | with_reducible exact WS.refl _ | refine WS.add ?_ rfl)
          ·
           refine S_on rfl rfl hb865 ?_
           refine S_in ?_
           refine S_ldQ rfl (p_agg (vs := c_T_lecternref10_Spot (⟨(IntKind.wrap .i64 (x701.X - p1.X)), (IntKind.wrap .i64 (x701.Y - p1.Y))⟩ : T_lecternref10_Spot)) ty_ag_52 ty_sz_52 rfl rfl) ?_
           refine S_nil ?_
           refine S_on rfl rfl hb865 ?_
           refine S_in ?_
           refine S_bld (v := .agg (c_T_lecternref10_Spot (⟨(0 : Int), (0 : Int)⟩ : T_lecternref10_Spot))) (b_st ty_zc_52 ty_pl_52 rfl) ?_
           refine S_nil ?_
           refine S_on rfl rfl hb865 ?_
           refine S_in ?_
           refine S_bin rfl rfl (e_agg (b := (((⟨(IntKind.wrap .i64 (x701.X - p1.X)), (IntKind.wrap .i64 (x701.Y - p1.Y))⟩ : T_lecternref10_Spot).X == (⟨(0 : Int), (0 : Int)⟩ : T_lecternref10_Spot).X) && (((⟨(IntKind.wrap .i64 (x701.X - p1.X)), (IntKind.wrap .i64 (x701.Y - p1.Y))⟩ : T_lecternref10_Spot).Y == (⟨(0 : Int), (0 : Int)⟩ : T_lecternref10_Spot).Y) && true))) ty_qg_52 ty_sf_52 (by simp only [c_T_lecternref10_Spot, ev_eqF_cons, ev_eqF_nil, ev_part, ty_sf_52, ty_qg_52, ty_ag_3, ty_sz_3, ty_ki_3, ty_ag_3, ty_sz_3, ty_ki_3, ev_eq_int, ev_eq_str, ev_eq_bool, ev_eq_agg, ev_eq_int2, ev_eq_str2, ev_eq_bool2, List.drop_zero, List.drop_succ_cons, List.length_cons, List.length_nil, List.take_succ_cons, List.take_zero, Option.isSome_some, if_true, Option.bind_some, Option.map_some, Nat.reduceAdd, Nat.reduceLeDiff])) ?_
           refine S_nil ?_
           refine S_pickF (v := .bool _) rfl hb865 rfl ?_
           refine S_nil ?_
           refine .hd (or_f hb865) ?_
           repeat (first | with_reducible exact WS.refl _ | refine WS.add ?_ rfl)
          refine S_m (v := .bool _) rfl ?_
          refine S_two (b := ((((⟨(IntKind.wrap .i64 (x700.X - p1.X)), (IntKind.wrap .i64 (x700.Y - p1.Y))⟩ : T_lecternref10_Spot).X == (⟨(0 : Int), (0 : Int)⟩ : T_lecternref10_Spot).X) && (((⟨(IntKind.wrap .i64 (x700.X - p1.X)), (IntKind.wrap .i64 (x700.Y - p1.Y))⟩ : T_lecternref10_Spot).Y == (⟨(0 : Int), (0 : Int)⟩ : T_lecternref10_Spot).Y) && true)) || (((⟨(IntKind.wrap .i64 (x701.X - p1.X)), (IntKind.wrap .i64 (x701.Y - p1.Y))⟩ : T_lecternref10_Spot).X == (⟨(0 : Int), (0 : Int)⟩ : T_lecternref10_Spot).X) && (((⟨(IntKind.wrap .i64 (x701.X - p1.X)), (IntKind.wrap .i64 (x701.Y - p1.Y))⟩ : T_lecternref10_Spot).Y == (⟨(0 : Int), (0 : Int)⟩ : T_lecternref10_Spot).Y) && true)))) 17 96 (.bool (((((⟨(IntKind.wrap .i64 (x700.X - p1.X)), (IntKind.wrap .i64 (x700.Y - p1.Y))⟩ : T_lecternref10_Spot).X == (⟨(0 : Int), (0 : Int)⟩ : T_lecternref10_Spot).X) && (((⟨(IntKind.wrap .i64 (x700.X - p1.X)), (IntKind.wrap .i64 (x700.Y - p1.Y))⟩ : T_lecternref10_Spot).Y == (⟨(0 : Int), (0 : Int)⟩ : T_lecternref10_Spot).Y) && true)) || (((⟨(IntKind.wrap .i64 (x701.X - p1.X)), (IntKind.wrap .i64 (x701.Y - p1.Y))⟩ : T_lecternref10_Spot).X == (⟨(0 : Int), (0 : Int)⟩ : T_lecternref10_Spot).X) && (((⟨(IntKind.wrap .i64 (x701.X - p1.X)), (IntKind.wrap .i64 (x701.Y - p1.Y))⟩ : T_lecternref10_Spot).Y == (⟨(0 : Int), (0 : Int)⟩ : T_lecternref10_Spot).Y) && true))) || ((x864 == (0 : Int)) && (decide ((IntKind.wrap .i64 ((IntKind.wrap .i64 ((⟨(IntKind.wrap .i64 (x700.X - p1.X)), (IntKind.wrap .i64 (x700.Y - p1.Y))⟩ : T_lecternref10_Spot).X * (⟨(IntKind.wrap .i64 (x701.X - p1.X)), (IntKind.wrap .i64 (x701.Y - p1.Y))⟩ : T_lecternref10_Spot).X)) + (IntKind.wrap .i64 ((⟨(IntKind.wrap .i64 (x700.X - p1.X)), (IntKind.wrap .i64 (x700.Y - p1.Y))⟩ : T_lecternref10_Spot).Y * (⟨(IntKind.wrap .i64 (x701.X - p1.X)), (IntKind.wrap .i64 (x701.Y - p1.Y))⟩ : T_lecternref10_Spot).Y)))) < (0 : Int)))))) (fun hb866 => ?_) (fun hb866 => ?_) ?_
          ·
           refine S_off rfl rfl hb866 ?_
           refine S_offD ?_
           refine S_off rfl rfl hb866 ?_
           refine S_offD ?_
           refine S_off rfl rfl hb866 ?_
           refine S_offD ?_
           refine S_off2 rfl rfl ?_
           refine S_offD ?_
           refine S_off2 rfl rfl ?_
           refine S_offD ?_
           refine S_off2 rfl rfl ?_
           refine S_offD ?_
           refine S_off2 rfl rfl ?_
           refine S_offD ?_
           refine S_off2 rfl rfl ?_
           refine S_offD ?_
           refine S_off2 rfl rfl ?_
           refine S_offD ?_
           refine S_off2 rfl rfl ?_
           refine S_offD ?_
           refine S_off2 rfl rfl ?_
           refine S_offD ?_
           refine S_off2 rfl rfl ?_
           refine S_offD ?_
           refine S_off2 rfl rfl ?_
           refine S_offD ?_
           refine S_off2 rfl rfl ?_
           refine S_offD ?_
           refine S_off2 rfl rfl ?_
           refine S_offD ?_
           refine S_off rfl rfl hb866 ?_
           refine S_offD ?_
           refine S_pickT (v := .bool _) rfl hb866 rfl ?_
           refine S_nil ?_
           refine .hd (or_t hb866) ?_
           repeat (first | with_reducible exact WS.refl _ | refine WS.add ?_ rfl)
          ·
           refine S_on rfl rfl hb866 ?_
           refine S_in ?_
           refine S_m (v := .int _ _) rfl ?_
           refine S_nil ?_
           refine S_on rfl rfl hb866 ?_
           refine S_in ?_
           refine S_bin rfl rfl (ev_eql ..) ?_
           refine S_nil ?_
           refine S_on rfl rfl hb866 ?_
           refine S_in ?_
           refine S_m (v := .bool _) rfl ?_
           refine S_nil ?_
           refine S_two (b := (x864 == (0 : Int))) 13 95 (.bool ((x864 == (0 : Int)) && (decide ((IntKind.wrap .i64 ((IntKind.wrap .i64 ((⟨(IntKind.wrap .i64 (x700.X - p1.X)), (IntKind.wrap .i64 (x700.Y - p1.Y))⟩ : T_lecternref10_Spot).X * (⟨(IntKind.wrap .i64 (x701.X - p1.X)), (IntKind.wrap .i64 (x701.Y - p1.Y))⟩ : T_lecternref10_Spot).X)) + (IntKind.wrap .i64 ((⟨(IntKind.wrap .i64 (x700.X - p1.X)), (IntKind.wrap .i64 (x700.Y - p1.Y))⟩ : T_lecternref10_Spot).Y * (⟨(IntKind.wrap .i64 (x701.X - p1.X)), (IntKind.wrap .i64 (x701.Y - p1.Y))⟩ : T_lecternref10_Spot).Y)))) < (0 : Int))))) (fun hb868 => ?_) (fun hb868 => ?_) ?_
           ·
            refine S_on rfl rfl hb868 ?_
            refine S_in ?_
            refine S_faQ rfl ty_fd_52_0 ty_sz_3 rfl ?_
            refine S_nil ?_
            refine S_on rfl rfl hb868 ?_
            refine S_in ?_
            refine S_ldQ rfl (p_one ty_ag_3 ty_sz_3 rfl) ?_
            refine S_nil ?_
            refine S_on rfl rfl hb868 ?_
            refine S_in ?_
            refine S_faQ rfl ty_fd_52_0 ty_sz_3 rfl ?_
            refine S_nil ?_
            refine S_on rfl rfl hb868 ?_
            refine S_in ?_
            refine S_ldQ rfl (p_one ty_ag_3 ty_sz_3 rfl) ?_
            refine S_nil ?_
            refine S_on rfl rfl hb868 ?_
            refine S_in ?_
            refine S_bin rfl rfl (ev_mul ..) ?_
            refine S_nil ?_
            refine S_on rfl rfl hb868 ?_
            refine S_in ?_
            refine S_faQ rfl ty_fd_52_1 ty_sz_3 rfl ?_
            refine S_nil ?_
            refine S_on rfl rfl hb868 ?_
            refine S_in ?_
            refine S_ldQ rfl (p_one ty_ag_3 ty_sz_3 rfl) ?_
            refine S_nil ?_
            refine S_on rfl rfl hb868 ?_
            refine S_in ?_
            refine S_faQ rfl ty_fd_52_1 ty_sz_3 rfl ?_
            refine S_nil ?_
            refine S_on rfl rfl hb868 ?_
            refine S_in ?_
            refine S_ldQ rfl (p_one ty_ag_3 ty_sz_3 rfl) ?_
            refine S_nil ?_
            refine S_on rfl rfl hb868 ?_
            refine S_in ?_
            refine S_bin rfl rfl (ev_mul ..) ?_
            refine S_nil ?_
            refine S_on rfl rfl hb868 ?_
            refine S_in ?_
            refine S_bin rfl rfl (ev_add ..) ?_
            refine S_nil ?_
            refine S_on rfl rfl hb868 ?_
            refine S_in ?_
            refine S_bin rfl rfl (ev_lss ..) ?_
            refine S_nil ?_
            refine S_on rfl rfl hb866 ?_
            refine S_in ?_
            refine S_pickT (v := .bool _) rfl hb868 rfl ?_
            refine S_nil ?_
            refine S_nil ?_
            refine .hd (and_t hb868) ?_
            repeat (first | with_reducible exact WS.refl _ | refine WS.add ?_ rfl)
           ·
            refine S_off rfl rfl hb868 ?_
            refine S_offD ?_
            refine S_off rfl rfl hb868 ?_
            refine S_offD ?_
            refine S_off rfl rfl hb868 ?_
            refine S_offD ?_
            refine S_off rfl rfl hb868 ?_
            refine S_offD ?_
            refine S_off rfl rfl hb868 ?_
            refine S_offD ?_
            refine S_off rfl rfl hb868 ?_
            refine S_offD ?_
            refine S_off rfl rfl hb868 ?_
            refine S_offD ?_
            refine S_off rfl rfl hb868 ?_
            refine S_offD ?_
            refine S_off rfl rfl hb868 ?_
            refine S_offD ?_
            refine S_off rfl rfl hb868 ?_
            refine S_offD ?_
            refine S_off rfl rfl hb868 ?_
            refine S_offD ?_
            refine S_off rfl rfl hb868 ?_
            refine S_offD ?_
            refine S_on rfl rfl hb866 ?_
            refine S_in ?_
            refine S_pickF (v := .bool _) rfl hb868 rfl ?_
            refine S_nil ?_
            refine S_nil ?_
            refine .hd (and_f hb868) ?_
            repeat (first | with_reducible exact WS.refl _ | refine WS.add ?_ rfl)
           refine S_pickF (v := .bool _) rfl hb866 rfl ?_
           refine S_nil ?_
           refine .hd (or_f hb866) ?_
           repeat (first | with_reducible exact WS.refl _ | refine WS.add ?_ rfl)
          refine S_nil ?_
          refine C_if (b := (((((⟨(IntKind.wrap .i64 (x700.X - p1.X)), (IntKind.wrap .i64 (x700.Y - p1.Y))⟩ : T_lecternref10_Spot).X == (⟨(0 : Int), (0 : Int)⟩ : T_lecternref10_Spot).X) && (((⟨(IntKind.wrap .i64 (x700.X - p1.X)), (IntKind.wrap .i64 (x700.Y - p1.Y))⟩ : T_lecternref10_Spot).Y == (⟨(0 : Int), (0 : Int)⟩ : T_lecternref10_Spot).Y) && true)) || (((⟨(IntKind.wrap .i64 (x701.X - p1.X)), (IntKind.wrap .i64 (x701.Y - p1.Y))⟩ : T_lecternref10_Spot).X == (⟨(0 : Int), (0 : Int)⟩ : T_lecternref10_Spot).X) && (((⟨(IntKind.wrap .i64 (x701.X - p1.X)), (IntKind.wrap .i64 (x701.Y - p1.Y))⟩ : T_lecternref10_Spot).Y == (⟨(0 : Int), (0 : Int)⟩ : T_lecternref10_Spot).Y) && true))) || ((x864 == (0 : Int)) && (decide ((IntKind.wrap .i64 ((IntKind.wrap .i64 ((⟨(IntKind.wrap .i64 (x700.X - p1.X)), (IntKind.wrap .i64 (x700.Y - p1.Y))⟩ : T_lecternref10_Spot).X * (⟨(IntKind.wrap .i64 (x701.X - p1.X)), (IntKind.wrap .i64 (x701.Y - p1.Y))⟩ : T_lecternref10_Spot).X)) + (IntKind.wrap .i64 ((⟨(IntKind.wrap .i64 (x700.X - p1.X)), (IntKind.wrap .i64 (x700.Y - p1.Y))⟩ : T_lecternref10_Spot).Y * (⟨(IntKind.wrap .i64 (x701.X - p1.X)), (IntKind.wrap .i64 (x701.Y - p1.Y))⟩ : T_lecternref10_Spot).Y)))) < (0 : Int)))))) rfl hF (fun hb869 hF => ?_) (fun hb869 hF => ?_)
          ·
           refine C_seq ?_
           refine C_reg (mdl []) ?_
           refine S_a (v := .int _ _) rfl ?_
           refine S_a (v := .bool _) rfl ?_
           refine S_nil ?_
           refine WP_ret ?_
           replace hF := hG695 _ (F_some hF)
           replace hF := hG458 _ (F_some hF)
           repeat (first | with_reducible refine Exit.sel_ret ?_ | with_reducible refine Exit.blk_ret ?_ | with_reducible refine Exit.jmp_ret ?_)
           refine C_ret (fn := Tryd.f23) rfl (.tmp (v := .int .i64 (0 : Int)) rfl (.tmp (v := .bool true) rfl .nil)) ?_
           exact ⟨_, _, (.tupC (.cons (.refl _) (.cons (.refl _) (.nil)))), ok.wh, _, F_some hF, rfl, rfl⟩
          ·
           refine WP_skip ?_
           refine C_seq ?_
           refine C_plan (mdl [(97, 3), (99, 3)]) [0, 2, 1, 3, 4, 5, 6, 7] [_, _, _, _, _, _, _, _] (by kernel_rfl) rfl rfl (by kernel_rfl) ?_
           refine S_ldQ rfl (p_agg (vs := c_T_lecternref10_Spot (⟨(IntKind.wrap .i64 (x701.X - p1.X)), (IntKind.wrap .i64 (x701.Y - p1.Y))⟩ : T_lecternref10_Spot)) ty_ag_52 ty_sz_52 rfl rfl) ?_
           refine S_ldQ rfl (p_agg (vs := c_T_lecternref10_Spot (⟨(IntKind.wrap .i64 (x700.X - p1.X)), (IntKind.wrap .i64 (x700.Y - p1.Y))⟩ : T_lecternref10_Spot)) ty_ag_52 ty_sz_52 rfl rfl) ?_
           refine S_call (F_lecternref10_quarter_ok _ hF fun x870 _ hF => ?_) (.cons (.refl _) (.nil))
           refine S_call (F_lecternref10_quarter_ok _ hF fun x871 _ hF => ?_) (.cons (.refl _) (.nil))
           refine S_bin rfl rfl (ev_sub ..) ?_
           refine S_bin rfl rfl (ev_add ..) ?_
           refine S_bin rfl rfl (e_rem rfl) ?_
           refine S_a (v := .int _ _) rfl ?_
           refine S_nil ?_
           refine C_join hF (fun (a876 : Int) s' => OK h [] ∧ WS s' ⟨mkSl 122 [(3, .iptr (c_T_lecternref10_Spot p1)), (6, .int .i64 a692), (8, .iptr (c_T_lecternref10_Stroke x688)), (9, .int .i64 a693), (13, .int .i64 a876), (14, .sl 2 (List.map c_T_lecternref10_Stroke p0) 0), (15, .int .i64 (p0.length : Int)), (16, .int .i64 a456)], Hp h []⟩) (fun J877 hF => ?_) ?_
           ·
            refine C_seq ?_
            refine C_reg (mdl []) ?_
            refine S_m (v := .int _ _) rfl ?_
            refine S_bin rfl rfl (ev_eql ..) ?_
            refine S_m (v := .bool _) rfl ?_
            refine S_two (b := ((Int.tmod (IntKind.wrap .i64 ((IntKind.wrap .i64 (x870 - x871)) + (4 : Int))) (4 : Int)) == (3 : Int))) 7 113 (.bool (((Int.tmod (IntKind.wrap .i64 ((IntKind.wrap .i64 (x870 - x871)) + (4 : Int))) (4 : Int)) == (3 : Int)) || (((Int.tmod (IntKind.wrap .i64 ((IntKind.wrap .i64 (x870 - x871)) + (4 : Int))) (4 : Int)) == (2 : Int)) && (decide (x864 < (0 : Int)))))) (fun hb878 => ?_) (fun hb878 => ?_) ?_
            ·
             refine S_off rfl rfl hb878 ?_
             refine S_offD ?_
             refine S_off rfl rfl hb878 ?_
             refine S_offD ?_
             refine S_off rfl rfl hb878 ?_
             refine S_offD ?_
             refine S_off2 rfl rfl ?_
             refine S_offD ?_
             refine S_off2 rfl rfl ?_
             refine S_offD ?_
             refine S_off rfl rfl hb878 ?_
             refine S_offD ?_
             refine S_pickT (v := .bool _) rfl hb878 rfl ?_
             refine S_nil ?_
             refine .hd (or_t hb878) ?_
             repeat (first | with_reducible exact WS.refl _ | refine WS.add ?_ rfl)
            ·
             refine S_on rfl rfl hb878 ?_
             refine S_in ?_
             refine S_m (v := .int _ _) rfl ?_
             refine S_nil ?_
             refine S_on rfl rfl hb878 ?_
             refine S_in ?_
             refine S_bin rfl rfl (ev_eql ..) ?_
             refine S_nil ?_
             refine S_on rfl rfl hb878 ?_
             refine S_in ?_
             refine S_m (v := .bool _) rfl ?_
             refine S_nil ?_
             refine S_two (b := ((Int.tmod (IntKind.wrap .i64 ((IntKind.wrap .i64 (x870 - x871)) + (4 : Int))) (4 : Int)) == (2 : Int))) 3 112 (.bool (((Int.tmod (IntKind.wrap .i64 ((IntKind.wrap .i64 (x870 - x871)) + (4 : Int))) (4 : Int)) == (2 : Int)) && (decide (x864 < (0 : Int))))) (fun hb880 => ?_) (fun hb880 => ?_) ?_
             ·
              refine S_on rfl rfl hb880 ?_
              refine S_in ?_
              refine S_m (v := .int _ _) rfl ?_
              refine S_nil ?_
              refine S_on rfl rfl hb880 ?_
              refine S_in ?_
              refine S_bin rfl rfl (ev_lss ..) ?_
              refine S_nil ?_
              refine S_on rfl rfl hb878 ?_
              refine S_in ?_
              refine S_pickT (v := .bool _) rfl hb880 rfl ?_
              refine S_nil ?_
              refine S_nil ?_
              refine .hd (and_t hb880) ?_
              repeat (first | with_reducible exact WS.refl _ | refine WS.add ?_ rfl)
             ·
              refine S_off rfl rfl hb880 ?_
              refine S_offD ?_
              refine S_off rfl rfl hb880 ?_
              refine S_offD ?_
              refine S_on rfl rfl hb878 ?_
              refine S_in ?_
              refine S_pickF (v := .bool _) rfl hb880 rfl ?_
              refine S_nil ?_
              refine S_nil ?_
              refine .hd (and_f hb880) ?_
              repeat (first | with_reducible exact WS.refl _ | refine WS.add ?_ rfl)
             refine S_pickF (v := .bool _) rfl hb878 rfl ?_
             refine S_nil ?_
             refine .hd (or_f hb878) ?_
             repeat (first | with_reducible exact WS.refl _ | refine WS.add ?_ rfl)
            refine S_nil ?_
            refine C_if (b := (((Int.tmod (IntKind.wrap .i64 ((IntKind.wrap .i64 (x870 - x871)) + (4 : Int))) (4 : Int)) == (3 : Int)) || (((Int.tmod (IntKind.wrap .i64 ((IntKind.wrap .i64 (x870 - x871)) + (4 : Int))) (4 : Int)) == (2 : Int)) && (decide (x864 < (0 : Int)))))) rfl hF (fun hb881 hF => ?_) (fun hb881 hF => ?_)
            ·
             refine C_reg (mdl []) ?_
             refine S_m (v := .int _ _) rfl ?_
             refine S_bin rfl rfl (ev_sub ..) ?_
             refine S_a (v := .int _ _) rfl ?_
             refine S_nil ?_
             have hwo : WO [(0, .room), (0, .room)] [] := (.drop (.drop .nil))
             exact ⟨(IntKind.wrap .i64 ((Int.tmod (IntKind.wrap .i64 ((IntKind.wrap .i64 (x870 - x871)) + (4 : Int))) (4 : Int)) - (4 : Int))), hF, (hwo.spec ok).1, WS.mk' (.cons (.refl _) (.cons (.refl _) (.cons (.refl _) (.cons (.refl _) (.cons (.refl _) (.cons (.refl _) (.cons (.refl _) (.cons (.refl _) .nil)))))))) ok hwo⟩
            ·
             refine WP_skip ?_
             have hwo : WO [(0, .room), (0, .room)] [] := (.drop (.drop .nil))
             exact ⟨(Int.tmod (IntKind.wrap .i64 ((IntKind.wrap .i64 (x870 - x871)) + (4 : Int))) (4 : Int)), hF, (hwo.spec ok).1, WS.mk' (.cons (.refl _) (.cons (.refl _) (.cons (.refl _) (.cons (.refl _) (.cons (.refl _) (.cons (.refl _) (.cons (.refl _) (.cons (.refl _) .nil)))))))) ok hwo⟩
           ·
            rintro a876 s' hF ⟨ok, hws⟩
            refine WP_ws hws ?_
            clear hws s'
            refine C_reg (mdl []) ?_
            refine S_m (v := .int _ _) rfl ?_
            refine S_m (v := .int _ _) rfl ?_
            refine S_bin rfl rfl (ev_add ..) ?_
            refine S_a (v := .int _ _) rfl ?_
            refine S_nil ?_
            refine C_reg (mdl []) ?_
            refine S_m (v := .int _ _) rfl ?_
            refine S_bin rfl rfl (ev_add ..) ?_
            refine S_a (v := .int _ _) rfl ?_
            refine S_nil ?_
            refine ih697 ((IntKind.wrap .i64 (a692 + a876)), (IntKind.wrap .i64 (a693 + (1 : Int)))) _ hF ?_
            have hwo : WO [] [] := .nil
            exact ⟨(hwo.spec ok).1, WS.mk' (.cons (.refl _) (.cons (.refl _) (.cons (.refl _) (.cons (.refl _) (.cons (.refl _) (.cons (.refl _) (.cons (.refl _) .nil))))))) ok hwo⟩
         ·
          refine S_st (j := 0) (cs' := [.int .i64 (⟨(IntKind.wrap .i64 (x700.X - p1.X)), (IntKind.wrap .i64 (x700.Y - p1.Y))⟩ : T_lecternref10_Spot).X, .int .i64 (⟨(IntKind.wrap .i64 (x700.X - p1.X)), (IntKind.wrap .i64 (x700.Y - p1.Y))⟩ : T_lecternref10_Spot).Y]) ok rfl rfl rfl hi815 rfl ty_sz_52 rfl rfl (fun ok => ?_)
          refine S_nil ?_
          refine A_seq [12, 15, 21, 23] [_, _, _, _] 0 #[true, true, true, true, true, true, true, true, true, true, true, true, true, true, true, true, true, true, true, true, true, true, true, true] rfl rfl (by kernel_rfl) (by kernel_rfl) ?_
          refine S_ldP (j := 1) ok rfl rfl rfl hi814 (p_one (v := .int .i64 x701.X) ty_ag_3 ty_sz_3 rfl) ?_
          refine S_bin rfl rfl (ev_sub ..) ?_
          refine S_bld (v := .agg (c_T_lecternref10_Spot (⟨(IntKind.wrap .i64 (x701.X - p1.X)), (IntKind.wrap .i64 (x701.Y - p1.Y))⟩ : T_lecternref10_Spot))) (b_st ty_zc_52 ty_pl_52 rfl) ?_
          refine S_st (j := 1) (cs' := [.int .i64 (⟨(IntKind.wrap .i64 (x701.X - p1.X)), (IntKind.wrap .i64 (x701.Y - p1.Y))⟩ : T_lecternref10_Spot).X, .int .i64 (⟨(IntKind.wrap .i64 (x701.X - p1.X)), (IntKind.wrap .i64 (x701.Y - p1.Y))⟩ : T_lecternref10_Spot).Y]) ok rfl rfl rfl hi814 rfl ty_sz_52 rfl rfl (fun ok => ?_)
          refine S_nil ?_
          refine A_end (by kernel_rfl) ?_
          refine C_seq ?_
          refine C_reg (mdl []) ?_
          refine S_frzP 0 10 ok rfl rfl hi815 (fun ok => ?_)
          refine S_frzP 1 11 ok rfl rfl hi814 (fun ok => ?_)
          refine S_ldQ rfl (p_agg (vs := c_T_lecternref10_Spot (⟨(IntKind.wrap .i64 (x700.X - p1.X)), (IntKind.wrap .i64 (x700.Y - p1.Y))⟩ : T_lecternref10_Spot)) ty_ag_52 ty_sz_52 rfl rfl) ?_
          refine S_ldQ rfl (p_agg (vs := c_T_lecternref10_Spot (⟨(IntKind.wrap .i64 (x701.X - p1.X)), (IntKind.wrap .i64 (x701.Y - p1.Y))⟩ : T_lecternref10_Spot)) ty_ag_52 ty_sz_52 rfl rfl) ?_
          refine S_call (F_lecternref10_Cross_ok _ hF fun x886 _ hF => ?_) (.cons (.refl _) (.cons (.refl _) (.nil)))
          refine S_a (v := .int _ _) rfl ?_
          refine S_nil ?_
          refine C_seq ?_
          refine C_seq ?_
          refine C_reg (mdl []) ?_
          refine S_ldQ rfl (p_agg (vs := c_T_lecternref10_Spot (⟨(IntKind.wrap .i64 (x700.X - p1.X)), (IntKind.wrap .i64 (x700.Y - p1.Y))⟩ : T_lecternref10_Spot)) ty_ag_52 ty_sz_52 rfl rfl) ?_
          refine S_bld (v := .agg (c_T_lecternref10_Spot (⟨(0 : Int), (0 : Int)⟩ : T_lecternref10_Spot))) (b_st ty_zc_52 ty_pl_52 rfl) ?_
          refine S_bin rfl rfl (e_agg (b := (((⟨(IntKind.wrap .i64 (x700.X - p1.X)), (IntKind.wrap .i64 (x700.Y - p1.Y))⟩ : T_lecternref10_Spot).X == (⟨(0 : Int), (0 : Int)⟩ : T_lecternref10_Spot).X) && (((⟨(IntKind.wrap .i64 (x700.X - p1.X)), (IntKind.wrap .i64 (x700.Y - p1.Y))⟩ : T_lecternref10_Spot).Y == (⟨(0 : Int), (0 : Int)⟩ : T_lecternref10_Spot).Y) && true))) ty_qg_52 ty_sf_52 (by simp only [c_T_lecternref10_Spot, ev_eqF_cons, ev_eqF_nil, ev_part, ty_sf_52, ty_qg_52, ty_ag_3, ty_sz_3, ty_ki_3, ty_ag_3, ty_sz_3, ty_ki_3, ev_eq_int, ev_eq_str, ev_eq_bool, ev_eq_agg, ev_eq_int2, ev_eq_str2, ev_eq_bool2, List.drop_zero, List.drop_succ_cons, List.length_cons, List.length_nil, List.take_succ_cons, List.take_zero, Option.isSome_some, if_true, Option.bind_some, Option.map_some, Nat.reduceAdd, Nat.reduceLeDiff])) ?_
          refine S_m (v := .bool _) rfl ?_
          refine S_two (b := (((⟨(IntKind.wrap .i64 (x700.X - p1.X)), (IntKind.wrap .i64 (x700.Y - p1.Y))⟩ : T_lecternref10_Spot).X == (⟨(0 : Int), (0 : Int)⟩ : T_lecternref10_Spot).X) && (((⟨(IntKind.wrap .i64 (x700.X - p1.X)), (IntKind.wrap .i64 (x700.Y - p1.Y))⟩ : T_lecternref10_Spot).Y == (⟨(0 : Int), (0 : Int)⟩ : T_lecternref10_Spot).Y) && true))) 4 78 (.bool ((((⟨(IntKind.wrap .i64 (x700.X - p1.X)), (IntKind.wrap .i64 (x700.Y - p1.Y))⟩ : T_lecternref10_Spot).X == (⟨(0 : Int), (0 : Int)⟩ : T_lecternref10_Spot).X) && (((⟨(IntKind.wrap .i64 (x700.X - p1.X)), (IntKind.wrap .i64 (x700.Y - p1.Y))⟩ : T_lecternref10_Spot).Y == (⟨(0 : Int), (0 : Int)⟩ : T_lecternref10_Spot).Y) && true)) || (((⟨(IntKind.wrap .i64 (x701.X - p1.X)), (IntKind.wrap .i64 (x701.Y - p1.Y))⟩ : T_lecternref10_Spot).X == (⟨(0 : Int), (0 : Int)⟩ : T_lecternref10_Spot).X) && (((⟨(IntKind.wrap .i64 (x701.X - p1.X)), (IntKind.wrap .i64 (x701.Y - p1.Y))⟩ : T_lecternref10_Spot).Y == (⟨(0 : Int), (0 : Int)⟩ : T_lecternref10_Spot).Y) && true)))) (fun hb887 => ?_) (fun hb887 => ?_) ?_
          ·
           refine S_off rfl rfl hb887 ?_
           refine S_offD ?_
           refine S_off rfl rfl hb887 ?_
           refine S_offD ?_
           refine S_off rfl rfl hb887 ?_
           refine S_offD ?_
           refine S_pickT (v := .bool _) rfl hb887 rfl ?_
           refine S_nil ?_
           refine .hd (or_t hb887) ?_
           repeat (first | with_reducible exact WS.refl _ | refine WS.add ?_ rfl)
          ·
           refine S_on rfl rfl hb887 ?_
           refine S_in ?_
           refine S_ldQ rfl (p_agg (vs := c_T_lecternref10_Spot (⟨(IntKind.wrap .i64 (x701.X - p1.X)), (IntKind.wrap .i64 (x701.Y - p1.Y))⟩ : T_lecternref10_Spot)) ty_ag_52 ty_sz_52 rfl rfl) ?_
           refine S_nil ?_
           refine S_on rfl rfl hb887 ?_
           refine S_in ?_
           refine S_bld (v := .agg (c_T_lecternref10_Spot (⟨(0 : Int), (0 : Int)⟩ : T_lecternref10_Spot))) (b_st ty_zc_52 ty_pl_52 rfl) ?_
           refine S_nil ?_
           refine S_on rfl rfl hb887 ?_
           refine S_in ?_
           refine S_bin rfl rfl (e_agg (b := (((⟨(IntKind.wrap .i64 (x701.X - p1.X)), (IntKind.wrap .i64 (x701.Y - p1.Y))⟩ : T_lecternref10_Spot).X == (⟨(0 : Int), (0 : Int)⟩ : T_lecternref10_Spot).X) && (((⟨(IntKind.wrap .i64 (x701.X - p1.X)), (IntKind.wrap .i64 (x701.Y - p1.Y))⟩ : T_lecternref10_Spot).Y == (⟨(0 : Int), (0 : Int)⟩ : T_lecternref10_Spot).Y) && true))) ty_qg_52 ty_sf_52 (by simp only [c_T_lecternref10_Spot, ev_eqF_cons, ev_eqF_nil, ev_part, ty_sf_52, ty_qg_52, ty_ag_3, ty_sz_3, ty_ki_3, ty_ag_3, ty_sz_3, ty_ki_3, ev_eq_int, ev_eq_str, ev_eq_bool, ev_eq_agg, ev_eq_int2, ev_eq_str2, ev_eq_bool2, List.drop_zero, List.drop_succ_cons, List.length_cons, List.length_nil, List.take_succ_cons, List.take_zero, Option.isSome_some, if_true, Option.bind_some, Option.map_some, Nat.reduceAdd, Nat.reduceLeDiff])) ?_
           refine S_nil ?_
           refine S_pickF (v := .bool _) rfl hb887 rfl ?_
           refine S_nil ?_
           refine .hd (or_f hb887) ?_
           repeat (first | with_reducible exact WS.refl _ | refine WS.add ?_ rfl)
          refine S_m (v := .bool _) rfl ?_
          refine S_two (b := ((((⟨(IntKind.wrap .i64 (x700.X - p1.X)), (IntKind.wrap .i64 (x700.Y - p1.Y))⟩ : T_lecternref10_Spot).X == (⟨(0 : Int), (0 : Int)⟩ : T_lecternref10_Spot).X) && (((⟨(IntKind.wrap .i64 (x700.X - p1.X)), (IntKind.wrap .i64 (x700.Y - p1.Y))⟩ : T_lecternref10_Spot).Y == (⟨(0 : Int), (0 : Int)⟩ : T_lecternref10_Spot).Y) && true)) || (((⟨(IntKind.wrap .i64 (x701.X - p1.X)), (IntKind.wrap .i64 (x701.Y - p1.Y))⟩ : T_lecternref10_Spot).X == (⟨(0 : Int), (0 : Int)⟩ : T_lecternref10_Spot).X) && (((⟨(IntKind.wrap .i64 (x701.X - p1.X)), (IntKind.wrap .i64 (x701.Y - p1.Y))⟩ : T_lecternref10_Spot).Y == (⟨(0 : Int), (0 : Int)⟩ : T_lecternref10_Spot).Y) && true)))) 17 96 (.bool (((((⟨(IntKind.wrap .i64 (x700.X - p1.X)), (IntKind.wrap .i64 (x700.Y - p1.Y))⟩ : T_lecternref10_Spot).X == (⟨(0 : Int), (0 : Int)⟩ : T_lecternref10_Spot).X) && (((⟨(IntKind.wrap .i64 (x700.X - p1.X)), (IntKind.wrap .i64 (x700.Y - p1.Y))⟩ : T_lecternref10_Spot).Y == (⟨(0 : Int), (0 : Int)⟩ : T_lecternref10_Spot).Y) && true)) || (((⟨(IntKind.wrap .i64 (x701.X - p1.X)), (IntKind.wrap .i64 (x701.Y - p1.Y))⟩ : T_lecternref10_Spot).X == (⟨(0 : Int), (0 : Int)⟩ : T_lecternref10_Spot).X) && (((⟨(IntKind.wrap .i64 (x701.X - p1.X)), (IntKind.wrap .i64 (x701.Y - p1.Y))⟩ : T_lecternref10_Spot).Y == (⟨(0 : Int), (0 : Int)⟩ : T_lecternref10_Spot).Y) && true))) || ((x886 == (0 : Int)) && (decide ((IntKind.wrap .i64 ((IntKind.wrap .i64 ((⟨(IntKind.wrap .i64 (x700.X - p1.X)), (IntKind.wrap .i64 (x700.Y - p1.Y))⟩ : T_lecternref10_Spot).X * (⟨(IntKind.wrap .i64 (x701.X - p1.X)), (IntKind.wrap .i64 (x701.Y - p1.Y))⟩ : T_lecternref10_Spot).X)) + (IntKind.wrap .i64 ((⟨(IntKind.wrap .i64 (x700.X - p1.X)), (IntKind.wrap .i64 (x700.Y - p1.Y))⟩ : T_lecternref10_Spot).Y * (⟨(IntKind.wrap .i64 (x701.X - p1.X)), (IntKind.wrap .i64 (x701.Y - p1.Y))⟩ : T_lecternref10_Spot).Y)))) < (0 : Int)))))) (fun hb888 => ?_) (fun hb888 => ?_) ?_
          ·
           refine S_off rfl rfl hb888 ?_
           refine S_offD ?_
           refine S_off rfl rfl hb888 ?_
           refine S_offD ?_
           refine S_off rfl rfl hb888 ?_
           refine S_offD ?_
           refine S_off2 rfl rfl ?_
           refine S_offD ?_
           refine S_off2 rfl rfl ?_
           refine S_offD ?_
           refine S_off2 rfl rfl ?_
           refine S_offD ?_
           refine S_off2 rfl rfl ?_
           refine S_offD ?_
           refine S_off2 rfl rfl ?_
           refine S_offD ?_
           refine S_off2 rfl rfl ?_
           refine S_offD ?_
           refine S_off2 rfl rfl ?_
           refine S_offD ?_
           refine S_off2 rfl rfl ?_
           refine S_offD ?_
           refine S_off2 rfl rfl ?_
           refine S_offD ?_
           refine S_off2 rfl rfl ?_
           refine S_offD ?_
           refine S_off2 rfl rfl ?_
           refine S_offD ?_
           refine S_off2 rfl rfl ?_
           refine S_offD ?_
           refine S_off rfl rfl hb888 ?_
           refine S_offD ?_
           refine S_pickT (v := .bool _) rfl hb888 rfl ?_
           refine S_nil ?_
           refine .hd (or_t hb888) ?_
           repeat (first | with_reducible exact WS.refl _ | refine WS.add ?_ rfl)
          ·
           refine S_on rfl rfl hb888 ?_
           refine S_in ?_
           refine S_m (v := .int _ _) rfl ?_
           refine S_nil ?_
           refine S_on rfl rfl hb888 ?_
           refine S_in ?_
           refine S_bin rfl rfl (ev_eql ..) ?_
           refine S_nil ?_
           refine S_on rfl rfl hb888 ?_
           refine S_in ?_
           refine S_m (v := .bool _) rfl ?_
           refine S_nil ?_
           refine S_two (b := (x886 == (0 : Int))) 13 95 (.bool ((x886 == (0 : Int)) && (decide ((IntKind.wrap .i64 ((IntKind.wrap .i64 ((⟨(IntKind.wrap .i64 (x700.X - p1.X)), (IntKind.wrap .i64 (x700.Y - p1.Y))⟩ : T_lecternref10_Spot).X * (⟨(IntKind.wrap .i64 (x701.X - p1.X)), (IntKind.wrap .i64 (x701.Y - p1.Y))⟩ : T_lecternref10_Spot).X)) + (IntKind.wrap .i64 ((⟨(IntKind.wrap .i64 (x700.X - p1.X)), (IntKind.wrap .i64 (x700.Y - p1.Y))⟩ : T_lecternref10_Spot).Y * (⟨(IntKind.wrap .i64 (x701.X - p1.X)), (IntKind.wrap .i64 (x701.Y - p1.Y))⟩ : T_lecternref10_Spot).Y)))) < (0 : Int))))) (fun hb890 => ?_) (fun hb890 => ?_) ?_
           ·
            refine S_on rfl rfl hb890 ?_
            refine S_in ?_
            refine S_faQ rfl ty_fd_52_0 ty_sz_3 rfl ?_
            refine S_nil ?_
            refine S_on rfl rfl hb890 ?_
            refine S_in ?_
            refine S_ldQ rfl (p_one ty_ag_3 ty_sz_3 rfl) ?_
            refine S_nil ?_
            refine S_on rfl rfl hb890 ?_
            refine S_in ?_
            refine S_faQ rfl ty_fd_52_0 ty_sz_3 rfl ?_
            refine S_nil ?_
            refine S_on rfl rfl hb890 ?_
            refine S_in ?_
            refine S_ldQ rfl (p_one ty_ag_3 ty_sz_3 rfl) ?_
            refine S_nil ?_
            refine S_on rfl rfl hb890 ?_
            refine S_in ?_
            refine S_bin rfl rfl (ev_mul ..) ?_
            refine S_nil ?_
            refine S_on rfl rfl hb890 ?_
            refine S_in ?_
            refine S_faQ rfl ty_fd_52_1 ty_sz_3 rfl ?_
            refine S_nil ?_
            refine S_on rfl rfl hb890 ?_
            refine S_in ?_
            refine S_ldQ rfl (p_one ty_ag_3 ty_sz_3 rfl) ?_
            refine S_nil ?_
            refine S_on rfl rfl hb890 ?_
            refine S_in ?_
            refine S_faQ rfl ty_fd_52_1 ty_sz_3 rfl ?_
            refine S_nil ?_
            refine S_on rfl rfl hb890 ?_
            refine S_in ?_
            refine S_ldQ rfl (p_one ty_ag_3 ty_sz_3 rfl) ?_
            refine S_nil ?_
            refine S_on rfl rfl hb890 ?_
            refine S_in ?_
            refine S_bin rfl rfl (ev_mul ..) ?_
            refine S_nil ?_
            refine S_on rfl rfl hb890 ?_
            refine S_in ?_
            refine S_bin rfl rfl (ev_add ..) ?_
            refine S_nil ?_
            refine S_on rfl rfl hb890 ?_
            refine S_in ?_
            refine S_bin rfl rfl (ev_lss ..) ?_
            refine S_nil ?_
            refine S_on rfl rfl hb888 ?_
            refine S_in ?_
            refine S_pickT (v := .bool _) rfl hb890 rfl ?_
            refine S_nil ?_
            refine S_nil ?_
            refine .hd (and_t hb890) ?_
            repeat (first | with_reducible exact WS.refl _ | refine WS.add ?_ rfl)
           ·
            refine S_off rfl rfl hb890 ?_
            refine S_offD ?_
            refine S_off rfl rfl hb890 ?_
            refine S_offD ?_
            refine S_off rfl rfl hb890 ?_
            refine S_offD ?_
            refine S_off rfl rfl hb890 ?_
            refine S_offD ?_
            refine S_off rfl rfl hb890 ?_
            refine S_offD ?_
            refine S_off rfl rfl hb890 ?_
            refine S_offD ?_
            refine S_off rfl rfl hb890 ?_
            refine S_offD ?_
            refine S_off rfl rfl hb890 ?_
            refine S_offD ?_
            refine S_off rfl rfl hb890 ?_
            refine S_offD ?_
            refine S_off rfl rfl hb890 ?_
            refine S_offD ?_
            refine S_off rfl rfl hb890 ?_
            refine S_offD ?_
            refine S_off rfl rfl hb890 ?_
            refine S_offD ?_
            refine S_on rfl rfl hb888 ?_
            refine S_in ?_
            refine S_pickF (v := .bool _) rfl hb890 rfl ?_
            refine S_nil ?_
            refine S_nil ?_
            refine .hd (and_f hb890) ?_
            repeat (first | with_reducible exact WS.refl _ | refine WS.add ?_ rfl)
           refine S_pickF (v := .bool _) rfl hb888 rfl ?_
           refine S_nil ?_
           refine .hd (or_f hb888) ?_
           repeat (first | with_reducible exact WS.refl _ | refine WS.add ?_ rfl)
          refine S_nil ?_
          refine C_if (b := (((((⟨(IntKind.wrap .i64 (x700.X - p1.X)), (IntKind.wrap .i64 (x700.Y - p1.Y))⟩ : T_lecternref10_Spot).X == (⟨(0 : Int), (0 : Int)⟩ : T_lecternref10_Spot).X) && (((⟨(IntKind.wrap .i64 (x700.X - p1.X)), (IntKind.wrap .i64 (x700.Y - p1.Y))⟩ : T_lecternref10_Spot).Y == (⟨(0 : Int), (0 : Int)⟩ : T_lecternref10_Spot).Y) && true)) || (((⟨(IntKind.wrap .i64 (x701.X - p1.X)), (IntKind.wrap .i64 (x701.Y - p1.Y))⟩ : T_lecternref10_Spot).X == (⟨(0 : Int), (0 : Int)⟩ : T_lecternref10_Spot).X) && (((⟨(IntKind.wrap .i64 (x701.X - p1.X)), (IntKind.wrap .i64 (x701.Y - p1.Y))⟩ : T_lecternref10_Spot).Y == (⟨(0 : Int), (0 : Int)⟩ : T_lecternref10_Spot).Y) && true))) || ((x886 == (0 : Int)) && (decide ((IntKind.wrap .i64 ((IntKind.wrap .i64 ((⟨(IntKind.wrap .i64 (x700.X - p1.X)), (IntKind.wrap .i64 (x700.Y - p1.Y))⟩ : T_lecternref10_Spot).X * (⟨(IntKind.wrap .i64 (x701.X - p1.X)), (IntKind.wrap .i64 (x701.Y - p1.Y))⟩ : T_lecternref10_Spot).X)) + (IntKind.wrap .i64 ((⟨(IntKind.wrap .i64 (x700.X - p1.X)), (IntKind.wrap .i64 (x700.Y - p1.Y))⟩ : T_lecternref10_Spot).Y * (⟨(IntKind.wrap .i64 (x701.X - p1.X)), (IntKind.wrap .i64 (x701.Y - p1.Y))⟩ : T_lecternref10_Spot).Y)))) < (0 : Int)))))) rfl hF (fun hb891 hF => ?_) (fun hb891 hF => ?_)
          ·
           refine C_seq ?_
           refine C_reg (mdl []) ?_
           refine S_a (v := .int _ _) rfl ?_
           refine S_a (v := .bool _) rfl ?_
           refine S_nil ?_
           refine WP_ret ?_
           replace hF := hG695 _ (F_some hF)
           replace hF := hG458 _ (F_some hF)
           repeat (first | with_reducible refine Exit.sel_ret ?_ | with_reducible refine Exit.blk_ret ?_ | with_reducible refine Exit.jmp_ret ?_)
           refine C_ret (fn := Tryd.f23) rfl (.tmp (v := .int .i64 (0 : Int)) rfl (.tmp (v := .bool true) rfl .nil)) ?_
           exact ⟨_, _, (.tupC (.cons (.refl _) (.cons (.refl _) (.nil)))), ok.wh, _, F_some hF, rfl, rfl⟩
          ·
           refine WP_skip ?_
           refine C_seq ?_
           refine C_plan (mdl [(97, 3), (99, 3)]) [0, 2, 1, 3, 4, 5, 6, 7] [_, _, _, _, _, _, _, _] (by kernel_rfl) rfl rfl (by kernel_rfl) ?_
           refine S_ldQ rfl (p_agg (vs := c_T_lecternref10_Spot (⟨(IntKind.wrap .i64 (x701.X - p1.X)), (IntKind.wrap .i64 (x701.Y - p1.Y))⟩ : T_lecternref10_Spot)) ty_ag_52 ty_sz_52 rfl rfl) ?_
           refine S_ldQ rfl (p_agg (vs := c_T_lecternref10_Spot (⟨(IntKind.wrap .i64 (x700.X - p1.X)), (IntKind.wrap .i64 (x700.Y - p1.Y))⟩ : T_lecternref10_Spot)) ty_ag_52 ty_sz_52 rfl rfl) ?_
           refine S_call (F_lecternref10_quarter_ok _ hF fun x892 _ hF => ?_) (.cons (.refl _) (.nil))
           refine S_call (F_lecternref10_quarter_ok _ hF fun x893 _ hF => ?_) (.cons (.refl _) (.nil))
           refine S_bin rfl rfl (ev_sub ..) ?_
           refine S_bin rfl rfl (ev_add ..) ?_
           refine S_bin rfl rfl (e_rem rfl) ?_
           refine S_a (v := .int _ _) rfl ?_
           refine S_nil ?_
           refine C_join hF (fun (a898 : Int) s' => OK h [] ∧ WS s' ⟨mkSl 122 [(3, .iptr (c_T_lecternref10_Spot p1)), (6, .int .i64 a692), (8, .iptr (c_T_lecternref10_Stroke x688)), (9, .int .i64 a693), (13, .int .i64 a898), (14, .sl 2 (List.map c_T_lecternref10_Stroke p0) 0), (15, .int .i64 (p0.length : Int)), (16, .int .i64 a456)], Hp h []⟩) (fun J899 hF => ?_) ?_
           ·
            refine C_seq ?_
            refine C_reg (mdl []) ?_
            refine S_m (v := .int _ _) rfl ?_
            refine S_bin rfl rfl (ev_eql ..) ?_
            refine S_m (v := .bool _) rfl ?_
            refine S_two (b := ((Int.tmod (IntKind.wrap .i64 ((IntKind.wrap .i64 (x892 - x893)) + (4 : Int))) (4 : Int)) == (3 : Int))) 7 113 (.bool (((Int.tmod (IntKind.wrap .i64 ((IntKind.wrap .i64 (x892 - x893)) + (4 : Int))) (4 : Int)) == (3 : Int)) || (((Int.tmod (IntKind.wrap .i64 ((IntKind.wrap .i64 (x892 - x893)) + (4 : Int))) (4 : Int)) == (2 : Int)) && (decide (x886 < (0 : Int)))))) (fun hb900 => ?_) (fun hb900 => ?_) ?_
            ·
             refine S_off rfl rfl hb900 ?_
             refine S_offD ?_
             refine S_off rfl rfl hb900 ?_
             refine S_offD ?_
             refine S_off rfl rfl hb900 ?_
             refine S_offD ?_
             refine S_off2 rfl rfl ?_
             refine S_offD ?_
             refine S_off2 rfl rfl ?_
             refine S_offD ?_
             refine S_off rfl rfl hb900 ?_
             refine S_offD ?_
             refine S_pickT (v := .bool _) rfl hb900 rfl ?_
             refine S_nil ?_
             refine .hd (or_t hb900) ?_
             repeat (first | with_reducible exact WS.refl _ | refine WS.add ?_ rfl)
            ·
             refine S_on rfl rfl hb900 ?_
             refine S_in ?_
             refine S_m (v := .int _ _) rfl ?_
             refine S_nil ?_
             refine S_on rfl rfl hb900 ?_
             refine S_in ?_
             refine S_bin rfl rfl (ev_eql ..) ?_
             refine S_nil ?_
             refine S_on rfl rfl hb900 ?_
             refine S_in ?_
             refine S_m (v := .bool _) rfl ?_
             refine S_nil ?_
             refine S_two (b := ((Int.tmod (IntKind.wrap .i64 ((IntKind.wrap .i64 (x892 - x893)) + (4 : Int))) (4 : Int)) == (2 : Int))) 3 112 (.bool (((Int.tmod (IntKind.wrap .i64 ((IntKind.wrap .i64 (x892 - x893)) + (4 : Int))) (4 : Int)) == (2 : Int)) && (decide (x886 < (0 : Int))))) (fun hb902 => ?_) (fun hb902 => ?_) ?_
             ·
              refine S_on rfl rfl hb902 ?_
              refine S_in ?_
              refine S_m (v := .int _ _) rfl ?_
              refine S_nil ?_
              refine S_on rfl rfl hb902 ?_
              refine S_in ?_
              refine S_bin rfl rfl (ev_lss ..) ?_
              refine S_nil ?_
              refine S_on rfl rfl hb900 ?_
              refine S_in ?_
              refine S_pickT (v := .bool _) rfl hb902 rfl ?_
              refine S_nil ?_
              refine S_nil ?_
              refine .hd (and_t hb902) ?_
              repeat (first | with_reducible exact WS.refl _ | refine WS.add ?_ rfl)
             ·
              refine S_off rfl rfl hb902 ?_
              refine S_offD ?_
              refine S_off rfl rfl hb902 ?_
              refine S_offD ?_
              refine S_on rfl rfl hb900 ?_
              refine S_in ?_
              refine S_pickF (v := .bool _) rfl hb902 rfl ?_
              refine S_nil ?_
              refine S_nil ?_
              refine .hd (and_f hb902) ?_
              repeat (first | with_reducible exact WS.refl _ | refine WS.add ?_ rfl)
             refine S_pickF (v := .bool _) rfl hb900 rfl ?_
             refine S_nil ?_
             refine .hd (or_f hb900) ?_
             repeat (first | with_reducible exact WS.refl _ | refine WS.add ?_ rfl)
            refine S_nil ?_
            refine C_if (b := (((Int.tmod (IntKind.wrap .i64 ((IntKind.wrap .i64 (x892 - x893)) + (4 : Int))) (4 : Int)) == (3 : Int)) || (((Int.tmod (IntKind.wrap .i64 ((IntKind.wrap .i64 (x892 - x893)) + (4 : Int))) (4 : Int)) == (2 : Int)) && (decide (x886 < (0 : Int)))))) rfl hF (fun hb903 hF => ?_) (fun hb903 hF => ?_)
            ·
             refine C_reg (mdl []) ?_
             refine S_m (v := .int _ _) rfl ?_
             refine S_bin rfl rfl (ev_sub ..) ?_
             refine S_a (v := .int _ _) rfl ?_
             refine S_nil ?_
             have hwo : WO [(0, .room), (0, .room)] [] := (.drop (.drop .nil))
             exact ⟨(IntKind.wrap .i64 ((Int.tmod (IntKind.wrap .i64 ((IntKind.wrap .i64 (x892 - x893)) + (4 : Int))) (4 : Int)) - (4 : Int))), hF, (hwo.spec ok).1, WS.mk' (.cons (.refl _) (.cons (.refl _) (.cons (.refl _) (.cons (.refl _) (.cons (.refl _) (.cons (.refl _) (.cons (.refl _) (.cons (.refl _) .nil)))))))) ok hwo⟩
            ·
             refine WP_skip ?_
             have hwo : WO [(0, .room), (0, .room)] [] := (.drop (.drop .nil))
             exact ⟨(Int.tmod (IntKind.wrap .i64 ((IntKind.wrap .i64 (x892 - x893)) + (4 : Int))) (4 : Int)), hF, (hwo.spec ok).1, WS.mk' (.cons (.refl _) (.cons (.refl _) (.cons (.refl _) (.cons (.refl _) (.cons (.refl _) (.cons (.refl _) (.cons (.refl _) (.cons (.refl _) .nil)))))))) ok hwo⟩
           ·
            rintro a898 s' hF ⟨ok, hws⟩
            refine WP_ws hws ?_
            clear hws s'
            refine C_reg (mdl []) ?_
            refine S_m (v := .int _ _) rfl ?_
            refine S_m (v := .int _ _) rfl ?_
            refine S_bin rfl rfl (ev_add ..) ?_
            refine S_a (v := .int _ _) rfl ?_
            refine S_nil ?_
            refine C_reg (mdl []) ?_
            refine S_m (v := .int _ _) rfl ?_
            refine S_bin rfl rfl (ev_add ..) ?_
            refine S_a (v := .int _ _) rfl ?_
            refine S_nil ?_
            refine ih697 ((IntKind.wrap .i64 (a692 + a898)), (IntKind.wrap .i64 (a693 + (1 : Int)))) _ hF ?_
            have hwo : WO [] [] := .nil
            exact ⟨(hwo.spec ok).1, WS.mk' (.cons (.refl _) (.cons (.refl _) (.cons (.refl _) (.cons (.refl _) (.cons (.refl _) (.cons (.refl _) (.cons (.refl _) .nil))))))) ok hwo⟩
        ·
         refine S_st (j := 0) (cs' := [.int .i64 (⟨(IntKind.wrap .i64 (x700.X - p1.X)), (IntKind.wrap .i64 (x700.Y - p1.Y))⟩ : T_lecternref10_Spot).X, .int .i64 (⟨(IntKind.wrap .i64 (x700.X - p1.X)), (IntKind.wrap .i64 (x700.Y - p1.Y))⟩ : T_lecternref10_Spot).Y]) ok rfl rfl rfl hi815 rfl ty_sz_52 rfl rfl (fun ok => ?_)
         refine S_nil ?_
         refine A_seq [12, 15, 17, 20, 21, 23] [_, _, _, _, _, _] 0 #[true, true, true, true, true, true, true, true, true, true, true, true, true, true, true, true, true, true, true, true, true, true, true, true] rfl rfl (by kernel_rfl) (by kernel_rfl) ?_
         refine S_ldP (j := 1) ok rfl rfl rfl hi814 (p_one (v := .int .i64 x701.X) ty_ag_3 ty_sz_3 rfl) ?_
         refine S_bin rfl rfl (ev_sub ..) ?_
         refine S_ldP (j := 1) ok rfl rfl rfl hi814 (p_one (v := .int .i64 x701.Y) ty_ag_3 ty_sz_3 rfl) ?_
         refine S_bin rfl rfl (ev_sub ..) ?_
         refine S_bld (v := .agg (c_T_lecternref10_Spot (⟨(IntKind.wrap .i64 (x701.X - p1.X)), (IntKind.wrap .i64 (x701.Y - p1.Y))⟩ : T_lecternref10_Spot))) (b_st ty_zc_52 ty_pl_52 rfl) ?_
         refine S_st (j := 1) (cs' := [.int .i64 (⟨(IntKind.wrap .i64 (x701.X - p1.X)), (IntKind.wrap .i64 (x701.Y - p1.Y))⟩ : T_lecternref10_Spot).X, .int .i64 (⟨(IntKind.wrap .i64 (x701.X - p1.X)), (IntKind.wrap .i64 (x701.Y - p1.Y))⟩ : T_lecternref10_Spot).Y]) ok rfl rfl rfl hi814 rfl ty_sz_52 rfl rfl (fun ok => ?_)
         refine S_nil ?_
         refine A_end (by kernel_rfl) ?_
         refine C_seq ?_
         refine C_reg (mdl []) ?_
         refine S_frzP 0 10 ok rfl rfl hi815 (fun ok => ?_)
         refine S_frzP 1 11 ok rfl rfl hi814 (fun ok => ?_)
         refine S_ldQ rfl (p_agg (vs := c_T_lecternref10_Spot (⟨(IntKind.wrap .i64 (x700.X - p1.X)), (IntKind.wrap .i64 (x700.Y - p1.Y))⟩ : T_lecternref10_Spot)) ty_ag_52 ty_sz_52 rfl rfl) ?_
         refine S_ldQ rfl (p_agg (vs := c_T_lecternref10_Spot (⟨(IntKind.wrap .i64 (x701.X - p1.X)), (IntKind.wrap .i64 (x701.Y - p1.Y))⟩ : T_lecternref10_Spot)) ty_ag_52 ty_sz_52 rfl rfl) ?_
         refine S_call (F_lecternref10_Cross_ok _ hF fun x908 _ hF => ?_) (.cons (.refl _) (.cons (.refl _) (.nil)))
         refine S_a (v := .int _ _) rfl ?_
         refine S_nil ?_
         refine C_seq ?_
         refine C_seq ?_
         refine C_reg (mdl []) ?_
         refine S_ldQ rfl (p_agg (vs := c_T_lecternref10_Spot (⟨(IntKind.wrap .i64 (x700.X - p1.X)), (IntKind.wrap .i64 (x700.Y - p1.Y))⟩ : T_lecternref10_Spot)) ty_ag_52 ty_sz_52 rfl rfl) ?_
         refine S_bld (v := .agg (c_T_lecternref10_Spot (⟨(0 : Int), (0 : Int)⟩ : T_lecternref10_Spot))) (b_st ty_zc_52 ty_pl_52 rfl) ?_
         refine S_bin rfl rfl (e_agg (b := (((⟨(IntKind.wrap .i64 (x700.X - p1.X)), (IntKind.wrap .i64 (x700.Y - p1.Y))⟩ : T_lecternref10_Spot).X == (⟨(0 : Int), (0 : Int)⟩ : T_lecternref10_Spot).X) && (((⟨(IntKind.wrap .i64 (x700.X - p1.X)), (IntKind.wrap .i64 (x700.Y - p1.Y))⟩ : T_lecternref10_Spot).Y == (⟨(0 : Int), (0 : Int)⟩ : T_lecternref10_Spot).Y) && true))) ty_qg_52 ty_sf_52 (by simp only [c_T_lecternref10_Spot, ev_eqF_cons, ev_eqF_nil, ev_part, ty_sf_52, ty_qg_52, ty_ag_3, ty_sz_3, ty_ki_3, ty_ag_3, ty_sz_3, ty_ki_3, ev_eq_int, ev_eq_str, ev_eq_bool, ev_eq_agg, ev_eq_int2, ev_eq_str2, ev_eq_bool2, List.drop_zero, List.drop_succ_cons, List.length_cons, List.length_nil, List.take_succ_cons, List.take_zero, Option.isSome_some, if_true, Option.bind_some, Option.map_some, Nat.reduceAdd, Nat.reduceLeDiff])) ?_
         refine S_m (v := .bool _) rfl ?_
         refine S_two (b := (((⟨(IntKind.wrap .i64 (x700.X - p1.X)), (IntKind.wrap .i64 (x700.Y - p1.Y))⟩ : T_lecternref10_Spot).X == (⟨(0 : Int), (0 : Int)⟩ : T_lecternref10_Spot).X) && (((⟨(IntKind.wrap .i64 (x700.X - p1.X)), (IntKind.wrap .i64 (x700.Y - p1.Y))⟩ : T_lecternref10_Spot).Y == (⟨(0 : Int), (0 : Int)⟩ : T_lecternref10_Spot).Y) && true))) 4 78 (.bool ((((⟨(IntKind.wrap .i64 (x700.X - p1.X)), (IntKind.wrap .i64 (x700.Y - p1.Y))⟩ : T_lecternref10_Spot).X == (⟨(0 : Int), (0 : Int)⟩ : T_lecternref10_Spot).X) && (((⟨(IntKind.wrap .i64 (x700.X - p1.X)), (IntKind.wrap .i64 (x700.Y - p1.Y))⟩ : T_lecternref10_Spot).Y == (⟨(0 : Int), (0 : Int)⟩ : T_lecternref10_Spot).Y) && true)) || (((⟨(IntKind.wrap .i64 (x701.X - p1.X)), (IntKind.wrap .i64 (x701.Y - p1.Y))⟩ : T_lecternref10_Spot).X == (⟨(0 : Int), (0 : Int)⟩ : T_lecternref10_Spot).X) && (((⟨(IntKind.wrap .i64 (x701.X - p1.X)), (IntKind.wrap .i64 (x701.Y - p1.Y))⟩ : T_lecternref10_Spot).Y == (⟨(0 : Int), (0 : Int)⟩ : T_lecternref10_Spot).Y) && true)))) (fun hb909 => ?_) (fun hb909 => ?_) ?_
         ·
          refine S_off rfl rfl hb909 ?_
          refine S_offD ?_
          refine S_off rfl rfl hb909 ?_
          refine S_offD ?_
          refine S_off rfl rfl hb909 ?_
          refine S_offD ?_
          refine S_pickT (v := .bool _) rfl hb909 rfl ?_
          refine S_nil ?_
          refine .hd (or_t hb909) ?_
          repeat (first | with_reducible exact WS.refl _ | refine WS.add ?_ rfl)
         ·
          refine S_on rfl rfl hb909 ?_
          refine S_in ?_
          refine S_ldQ rfl (p_agg (vs := c_T_lecternref10_Spot (⟨(IntKind.wrap .i64 (x701.X - p1.X)), (IntKind.wrap .i64 (x701.Y - p1.Y))⟩ : T_lecternref10_Spot)) ty_ag_52 ty_sz_52 rfl rfl) ?_
          refine S_nil ?_
          refine S_on rfl rfl hb909 ?_
          refine S_in ?_
          refine S_bld (v := .agg (c_T_lecternref10_Spot (⟨(0 : Int), (0 : Int)⟩ : T_lecternref10_Spot))) (b_st ty_zc_52 ty_pl_52 rfl) ?_
          refine S_nil ?_
          refine S_on rfl rfl hb909 ?_
          refine S_in ?_
          refine S_bin rfl rfl (e_agg (b := (((⟨(IntKind.wrap .i64 (x701.X - p1.X)), (IntKind.wrap .i64 (x701.Y - p1.Y))⟩ : T_lecternref10_Spot).X == (⟨(0 : Int), (0 : Int)⟩ : T_lecternref10_Spot).X) && (((⟨(IntKind.wrap .i64 (x701.X - p1.X)), (IntKind.wrap .i64 (x701.Y - p1.Y))⟩ : T_lecternref10_Spot).Y == (⟨(0 : Int), (0 : Int)⟩ : T_lecternref10_Spot).Y) && true))) ty_qg_52 ty_sf_52 (by simp only [c_T_lecternref10_Spot, ev_eqF_cons, ev_eqF_nil, ev_part, ty_sf_52, ty_qg_52, ty_ag_3, ty_sz_3, ty_ki_3, ty_ag_3, ty_sz_3, ty_ki_3, ev_eq_int, ev_eq_str, ev_eq_bool, ev_eq_agg, ev_eq_int2, ev_eq_str2, ev_eq_bool2, List.drop_zero, List.drop_succ_cons, List.length_cons, List.length_nil, List.take_succ_cons, List.take_zero, Option.isSome_some, if_true, Option.bind_some, Option.map_some, Nat.reduceAdd, Nat.reduceLeDiff])) ?_
          refine S_nil ?_
          refine S_pickF (v := .bool _) rfl hb909 rfl ?_
          refine S_nil ?_
          refine .hd (or_f hb909) ?_
          repeat (first | with_reducible exact WS.refl _ | refine WS.add ?_ rfl)
         refine S_m (v := .bool _) rfl ?_
         refine S_two (b := ((((⟨(IntKind.wrap .i64 (x700.X - p1.X)), (IntKind.wrap .i64 (x700.Y - p1.Y))⟩ : T_lecternref10_Spot).X == (⟨(0 : Int), (0 : Int)⟩ : T_lecternref10_Spot).X) && (((⟨(IntKind.wrap .i64 (x700.X - p1.X)), (IntKind.wrap .i64 (x700.Y - p1.Y))⟩ : T_lecternref10_Spot).Y == (⟨(0 : Int), (0 : Int)⟩ : T_lecternref10_Spot).Y) && true)) || (((⟨(IntKind.wrap .i64 (x701.X - p1.X)), (IntKind.wrap .i64 (x701.Y - p1.Y))⟩ : T_lecternref10_Spot).X == (⟨(0 : Int), (0 : Int)⟩ : T_lecternref10_Spot).X) && (((⟨(IntKind.wrap .i64 (x701.X - p1.X)), (IntKind.wrap .i64 (x701.Y - p1.Y))⟩ : T_lecternref10_Spot).Y == (⟨(0 : Int), (0 : Int)⟩ : T_lecternref10_Spot).Y) && true)))) 17 96 (.bool (((((⟨(IntKind.wrap .i64 (x700.X - p1.X)), (IntKind.wrap .i64 (x700.Y - p1.Y))⟩ : T_lecternref10_Spot).X == (⟨(0 : Int), (0 : Int)⟩ : T_lecternref10_Spot).X) && (((⟨(IntKind.wrap .i64 (x700.X - p1.X)), (IntKind.wrap .i64 (x700.Y - p1.Y))⟩ : T_lecternref10_Spot).Y == (⟨(0 : Int), (0 : Int)⟩ : T_lecternref10_Spot).Y) && true)) || (((⟨(IntKind.wrap .i64 (x701.X - p1.X)), (IntKind.wrap .i64 (x701.Y - p1.Y))⟩ : T_lecternref10_Spot).X == (⟨(0 : Int), (0 : Int)⟩ : T_lecternref10_Spot).X) && (((⟨(IntKind.wrap .i64 (x701.X - p1.X)), (IntKind.wrap .i64 (x701.Y - p1.Y))⟩ : T_lecternref10_Spot).Y == (⟨(0 : Int), (0 : Int)⟩ : T_lecternref10_Spot).Y) && true))) || ((x908 == (0 : Int)) && (decide ((IntKind.wrap .i64 ((IntKind.wrap .i64 ((⟨(IntKind.wrap .i64 (x700.X - p1.X)), (IntKind.wrap .i64 (x700.Y - p1.Y))⟩ : T_lecternref10_Spot).X * (⟨(IntKind.wrap .i64 (x701.X - p1.X)), (IntKind.wrap .i64 (x701.Y - p1.Y))⟩ : T_lecternref10_Spot).X)) + (IntKind.wrap .i64 ((⟨(IntKind.wrap .i64 (x700.X - p1.X)), (IntKind.wrap .i64 (x700.Y - p1.Y))⟩ : T_lecternref10_Spot).Y * (⟨(IntKind.wrap .i64 (x701.X - p1.X)), (IntKind.wrap .i64 (x701.Y - p1.Y))⟩ : T_lecternref10_Spot).Y)))) < (0 : Int)))))) (fun hb910 => ?_) (fun hb910 => ?_) ?_
         ·
          refine S_off rfl rfl hb910 ?_
          refine S_offD ?_
          refine S_off rfl rfl hb910 ?_
          refine S_offD ?_
          refine S_off rfl rfl hb910 ?_
          refine S_offD ?_
          refine S_off2 rfl rfl ?_
          refine S_offD ?_
          refine S_off2 rfl rfl ?_
          refine S_offD ?_
          refine S_off2 rfl rfl ?_
          refine S_offD ?_
          refine S_off2 rfl rfl ?_
          refine S_offD ?_
          refine S_off2 rfl rfl ?_
          refine S_offD ?_
          refine S_off2 rfl rfl ?_
          refine S_offD ?_
          refine S_off2 rfl rfl ?_
          refine S_offD ?_
          refine S_off2 rfl rfl ?_
          refine S_offD ?_
          refine S_off2 rfl rfl ?_
          refine S_offD ?_
          refine S_off2 rfl rfl ?_
          refine S_offD ?_
          refine S_off2 rfl rfl ?_
          refine S_offD ?_
          refine S_off2 rfl rfl ?_
          refine S_offD ?_
          refine S_off rfl rfl hb910 ?_
          refine S_offD ?_
          refine S_pickT (v := .bool _) rfl hb910 rfl ?_
          refine S_nil ?_
          refine .hd (or_t hb910) ?_
          repeat (first | with_reducible exact WS.refl _ | refine WS.add ?_ rfl)
         ·
          refine S_on rfl rfl hb910 ?_
          refine S_in ?_
          refine S_m (v := .int _ _) rfl ?_
          refine S_nil ?_
          refine S_on rfl rfl hb910 ?_
          refine S_in ?_
          refine S_bin rfl rfl (ev_eql ..) ?_
          refine S_nil ?_
          refine S_on rfl rfl hb910 ?_
          refine S_in ?_
          refine S_m (v := .bool _) rfl ?_
          refine S_nil ?_
          refine S_two (b := (x908 == (0 : Int))) 13 95 (.bool ((x908 == (0 : Int)) && (decide ((IntKind.wrap .i64 ((IntKind.wrap .i64 ((⟨(IntKind.wrap .i64 (x700.X - p1.X)), (IntKind.wrap .i64 (x700.Y - p1.Y))⟩ : T_lecternref10_Spot).X * (⟨(IntKind.wrap .i64 (x701.X - p1.X)), (IntKind.wrap .i64 (x701.Y - p1.Y))⟩ : T_lecternref10_Spot).X)) + (IntKind.wrap .i64 ((⟨(IntKind.wrap .i64 (x700.X - p1.X)), (IntKind.wrap .i64 (x700.Y - p1.Y))⟩ : T_lecternref10_Spot).Y * (⟨(IntKind.wrap .i64 (x701.X - p1.X)), (IntKind.wrap .i64 (x701.Y - p1.Y))⟩ : T_lecternref10_Spot).Y)))) < (0 : Int))))) (fun hb912 => ?_) (fun hb912 => ?_) ?_
          ·
           refine S_on rfl rfl hb912 ?_
           refine S_in ?_
           refine S_faQ rfl ty_fd_52_0 ty_sz_3 rfl ?_
           refine S_nil ?_
           refine S_on rfl rfl hb912 ?_
           refine S_in ?_
           refine S_ldQ rfl (p_one ty_ag_3 ty_sz_3 rfl) ?_
           refine S_nil ?_
           refine S_on rfl rfl hb912 ?_
           refine S_in ?_
           refine S_faQ rfl ty_fd_52_0 ty_sz_3 rfl ?_
           refine S_nil ?_
           refine S_on rfl rfl hb912 ?_
           refine S_in ?_
           refine S_ldQ rfl (p_one ty_ag_3 ty_sz_3 rfl) ?_
           refine S_nil ?_
           refine S_on rfl rfl hb912 ?_
           refine S_in ?_
           refine S_bin rfl rfl (ev_mul ..) ?_
           refine S_nil ?_
           refine S_on rfl rfl hb912 ?_
           refine S_in ?_
           refine S_faQ rfl ty_fd_52_1 ty_sz_3 rfl ?_
           refine S_nil ?_
           refine S_on rfl rfl hb912 ?_
           refine S_in ?_
           refine S_ldQ rfl (p_one ty_ag_3 ty_sz_3 rfl) ?_
           refine S_nil ?_
           refine S_on rfl rfl hb912 ?_
           refine S_in ?_
           refine S_faQ rfl ty_fd_52_1 ty_sz_3 rfl ?_
           refine S_nil ?_
           refine S_on rfl rfl hb912 ?_
           refine S_in ?_
           refine S_ldQ rfl (p_one ty_ag_3 ty_sz_3 rfl) ?_
           refine S_nil ?_
           refine S_on rfl rfl hb912 ?_
           refine S_in ?_
           refine S_bin rfl rfl (ev_mul ..) ?_
           refine S_nil ?_
           refine S_on rfl rfl hb912 ?_
           refine S_in ?_
           refine S_bin rfl rfl (ev_add ..) ?_
           refine S_nil ?_
           refine S_on rfl rfl hb912 ?_
           refine S_in ?_
           refine S_bin rfl rfl (ev_lss ..) ?_
           refine S_nil ?_
           refine S_on rfl rfl hb910 ?_
           refine S_in ?_
           refine S_pickT (v := .bool _) rfl hb912 rfl ?_
           refine S_nil ?_
           refine S_nil ?_
           refine .hd (and_t hb912) ?_
           repeat (first | with_reducible exact WS.refl _ | refine WS.add ?_ rfl)
          ·
           refine S_off rfl rfl hb912 ?_
           refine S_offD ?_
           refine S_off rfl rfl hb912 ?_
           refine S_offD ?_
           refine S_off rfl rfl hb912 ?_
           refine S_offD ?_
           refine S_off rfl rfl hb912 ?_
           refine S_offD ?_
           refine S_off rfl rfl hb912 ?_
           refine S_offD ?_
           refine S_off rfl rfl hb912 ?_
           refine S_offD ?_
           refine S_off rfl rfl hb912 ?_
           refine S_offD ?_
           refine S_off rfl rfl hb912 ?_
           refine S_offD ?_
           refine S_off rfl rfl hb912 ?_
           refine S_offD ?_
           refine S_off rfl rfl hb912 ?_
           refine S_offD ?_
           refine S_off rfl rfl hb912 ?_
           refine S_offD ?_
           refine S_off rfl rfl hb912 ?_
           refine S_offD ?_
           refine S_on rfl rfl hb910 ?_
           refine S_in ?_
           refine S_pickF (v := .bool _) rfl hb912 rfl ?_
           refine S_nil ?_
           refine S_nil ?_
           refine .hd (and_f hb912) ?_
           repeat (first | with_reducible exact WS.refl _ | refine WS.add ?_ rfl)
          refine S_pickF (v := .bool _) rfl hb910 rfl ?_
          refine S_nil ?_
          refine .hd (or_f hb910) ?_
          repeat (first | with_reducible exact WS.refl _ | refine WS.add ?_ rfl)
         refine S_nil ?_
         refine C_if (b := (((((⟨(IntKind.wrap .i64 (x700.X - p1.X)), (IntKind.wrap .i64 (x700.Y - p1.Y))⟩ : T_lecternref10_Spot).X == (⟨(0 : Int), (0 : Int)⟩ : T_lecternref10_Spot).X) && (((⟨(IntKind.wrap .i64 (x700.X - p1.X)), (IntKind.wrap .i64 (x700.Y - p1.Y))⟩ : T_lecternref10_Spot).Y == (⟨(0 : Int), (0 : Int)⟩ : T_lecternref10_Spot).Y) && true)) || (((⟨(IntKind.wrap .i64 (x701.X - p1.X)), (IntKind.wrap .i64 (x701.Y - p1.Y))⟩ : T_lecternref10_Spot).X == (⟨(0 : Int), (0 : Int)⟩ : T_lecternref10_Spot).X) && (((⟨(IntKind.wrap .i64 (x701.X - p1.X)), (IntKind.wrap .i64 (x701.Y - p1.Y))⟩ : T_lecternref10_Spot).Y == (⟨(0 : Int), (0 : Int)⟩ : T_lecternref10_Spot).Y) && true))) || ((x908 == (0 : Int)) && (decide ((IntKind.wrap .i64 ((IntKind.wrap .i64 ((⟨(IntKind.wrap .i64 (x700.X - p1.X)), (IntKind.wrap .i64 (x700.Y - p1.Y))⟩ : T_lecternref10_Spot).X * (⟨(IntKind.wrap .i64 (x701.X - p1.X)), (IntKind.wrap .i64 (x701.Y - p1.Y))⟩ : T_lecternref10_Spot).X)) + (IntKind.wrap .i64 ((⟨(IntKind.wrap .i64 (x700.X - p1.X)), (IntKind.wrap .i64 (x700.Y - p1.Y))⟩ : T_lecternref10_Spot).Y * (⟨(IntKind.wrap .i64 (x701.X - p1.X)), (IntKind.wrap .i64 (x701.Y - p1.Y))⟩ : T_lecternref10_Spot).Y)))) < (0 : Int)))))) rfl hF (fun hb913 hF => ?_) (fun hb913 hF => ?_)
         ·
          refine C_seq ?_
          refine C_reg (mdl []) ?_
          refine S_a (v := .int _ _) rfl ?_
          refine S_a (v := .bool _) rfl ?_
          refine S_nil ?_
          refine WP_ret ?_
          replace hF := hG695 _ (F_some hF)
          replace hF := hG458 _ (F_some hF)
          repeat (first | with_reducible refine Exit.sel_ret ?_ | with_reducible refine Exit.blk_ret ?_ | with_reducible refine Exit.jmp_ret ?_)
          refine C_ret (fn := Tryd.f23) rfl (.tmp (v := .int .i64 (0 : Int)) rfl (.tmp (v := .bool true) rfl .nil)) ?_
          exact ⟨_, _, (.tupC (.cons (.refl _) (.cons (.refl _) (.nil)))), ok.wh, _, F_some hF, rfl, rfl⟩
         ·
          refine WP_skip ?_
          refine C_seq ?_
          refine C_plan (mdl [(97, 3), (99, 3)]) [0, 2, 1, 3, 4, 5, 6, 7] [_, _, _, _, _, _, _, _] (by kernel_rfl) rfl rfl (by kernel_rfl) ?_
          refine S_ldQ rfl (p_agg (vs := c_T_lecternref10_Spot (⟨(IntKind.wrap .i64 (x701.X - p1.X)), (IntKind.wrap .i64 (x701.Y - p1.Y))⟩ : T_lecternref10_Spot)) ty_ag_52 ty_sz_52 rfl rfl) ?_
          refine S_ldQ rfl (p_agg (vs := c_T_lecternref10_Spot (⟨(IntKind.wrap .i64 (x700.X - p1.X)), (IntKind.wrap .i64 (x700.Y - p1.Y))⟩ : T_lecternref10_Spot)) ty_ag_52 ty_sz_52 rfl rfl) ?_
          refine S_call (F_lecternref10_quarter_ok _ hF fun x914 _ hF => ?_) (.cons (.refl _) (.nil))
          refine S_call (F_lecternref10_quarter_ok _ hF fun x915 _ hF => ?_) (.cons (.refl _) (.nil))
          refine S_bin rfl rfl (ev_sub ..) ?_
          refine S_bin rfl rfl (ev_add ..) ?_
          refine S_bin rfl rfl (e_rem rfl) ?_
          refine S_a (v := .int _ _) rfl ?_
          refine S_nil ?_
          refine C_join hF (fun (a920 : Int) s' => OK h [] ∧ WS s' ⟨mkSl 122 [(3, .iptr (c_T_lecternref10_Spot p1)), (6, .int .i64 a692), (8, .iptr (c_T_lecternref10_Stroke x688)), (9, .int .i64 a693), (13, .int .i64 a920), (14, .sl 2 (List.map c_T_lecternref10_Stroke p0) 0), (15, .int .i64 (p0.length : Int)), (16, .int .i64 a456)], Hp h []⟩) (fun J921 hF => ?_) ?_
          ·
           refine C_seq ?_
           refine C_reg (mdl []) ?_
           refine S_m (v := .int _ _) rfl ?_
           refine S_bin rfl rfl (ev_eql ..) ?_
           refine S_m (v := .bool _) rfl ?_
           refine S_two (b := ((Int.tmod (IntKind.wrap .i64 ((IntKind.wrap .i64 (x914 - x915)) + (4 : Int))) (4 : Int)) == (3 : Int))) 7 113 (.bool (((Int.tmod (IntKind.wrap .i64 ((IntKind.wrap .i64 (x914 - x915)) + (4 : Int))) (4 : Int)) == (3 : Int)) || (((Int.tmod (IntKind.wrap .i64 ((IntKind.wrap .i64 (x914 - x915)) + (4 : Int))) (4 : Int)) == (2 : Int)) && (decide (x908 < (0 : Int)))))) (fun hb922 => ?_) (fun hb922 => ?_) ?_
           ·
            refine S_off rfl rfl hb922 ?_
            refine S_offD ?_
            refine S_off rfl rfl hb922 ?_
            refine S_offD ?_
            refine S_off rfl rfl hb922 ?_
            refine S_offD ?_
            refine S_off2 rfl rfl ?_
            refine S_offD ?_
            refine S_off2 rfl rfl ?_
            refine S_offD ?_
            refine S_off rfl rfl hb922 ?_
            refine S_offD ?_
            refine S_pickT (v := .bool _) rfl hb922 rfl ?_
            refine S_nil ?_
            refine .hd (or_t hb922) ?_
            repeat (first | with_reducible exact WS.refl _ | refine WS.add ?_ rfl)
           ·
            refine S_on rfl rfl hb922 ?_
            refine S_in ?_
            refine S_m (v := .int _ _) rfl ?_
            refine S_nil ?_
            refine S_on rfl rfl hb922 ?_
            refine S_in ?_
            refine S_bin rfl rfl (ev_eql ..) ?_
            refine S_nil ?_
            refine S_on rfl rfl hb922 ?_
            refine S_in ?_
            refine S_m (v := .bool _) rfl ?_
            refine S_nil ?_
            refine S_two (b := ((Int.tmod (IntKind.wrap .i64 ((IntKind.wrap .i64 (x914 - x915)) + (4 : Int))) (4 : Int)) == (2 : Int))) 3 112 (.bool (((Int.tmod (IntKind.wrap .i64 ((IntKind.wrap .i64 (x914 - x915)) + (4 : Int))) (4 : Int)) == (2 : Int)) && (decide (x908 < (0 : Int))))) (fun hb924 => ?_) (fun hb924 => ?_) ?_
            ·
             refine S_on rfl rfl hb924 ?_
             refine S_in ?_
             refine S_m (v := .int _ _) rfl ?_
             refine S_nil ?_
             refine S_on rfl rfl hb924 ?_
             refine S_in ?_
             refine S_bin rfl rfl (ev_lss ..) ?_
             refine S_nil ?_
             refine S_on rfl rfl hb922 ?_
             refine S_in ?_
             refine S_pickT (v := .bool _) rfl hb924 rfl ?_
             refine S_nil ?_
             refine S_nil ?_
             refine .hd (and_t hb924) ?_
             repeat (first | with_reducible exact WS.refl _ | refine WS.add ?_ rfl)
            ·
             refine S_off rfl rfl hb924 ?_
             refine S_offD ?_
             refine S_off rfl rfl hb924 ?_
             refine S_offD ?_
             refine S_on rfl rfl hb922 ?_
             refine S_in ?_
             refine S_pickF (v := .bool _) rfl hb924 rfl ?_
             refine S_nil ?_
             refine S_nil ?_
             refine .hd (and_f hb924) ?_
             repeat (first | with_reducible exact WS.refl _ | refine WS.add ?_ rfl)
            refine S_pickF (v := .bool _) rfl hb922 rfl ?_
            refine S_nil ?_
            refine .hd (or_f hb922) ?_
            repeat (first | with_reducible exact WS.refl _ | refine WS.add ?_ rfl)
           refine S_nil ?_
           refine C_if (b := (((Int.tmod (IntKind.wrap .i64 ((IntKind.wrap .i64 (x914 - x915)) + (4 : Int))) (4 : Int)) == (3 : Int)) || (((Int.tmod (IntKind.wrap .i64 ((IntKind.wrap .i64 (x914 - x915)) + (4 : Int))) (4 : Int)) == (2 : Int)) && (decide (x908 < (0 : Int)))))) rfl hF (fun hb925 hF => ?_) (fun hb925 hF => ?_)
           ·
            refine C_reg (mdl []) ?_
            refine S_m (v := .int _ _) rfl ?_
            refine S_bin rfl rfl (ev_sub ..) ?_
            refine S_a (v := .int _ _) rfl ?_
            refine S_nil ?_
            have hwo : WO [(0, .room), (0, .room)] [] := (.drop (.drop .nil))
            exact ⟨(IntKind.wrap .i64 ((Int.tmod (IntKind.wrap .i64 ((IntKind.wrap .i64 (x914 - x915)) + (4 : Int))) (4 : Int)) - (4 : Int))), hF, (hwo.spec ok).1, WS.mk' (.cons (.refl _) (.cons (.refl _) (.cons (.refl _) (.cons (.refl _) (.cons (.refl _) (.cons (.refl _) (.cons (.refl _) (.cons (.refl _) .nil)))))))) ok hwo⟩
           ·
            refine WP_skip ?_
            have hwo : WO [(0, .room), (0, .room)] [] := (.drop (.drop .nil))
            exact ⟨(Int.tmod (IntKind.wrap .i64 ((IntKind.wrap .i64 (x914 - x915)) + (4 : Int))) (4 : Int)), hF, (hwo.spec ok).1, WS.mk' (.cons (.refl _) (.cons (.refl _) (.cons (.refl _) (.cons (.refl _) (.cons (.refl _) (.cons (.refl _) (.cons (.refl _) (.cons (.refl _) .nil)))))))) ok hwo⟩
          ·
           rintro a920 s' hF ⟨ok, hws⟩
           refine WP_ws hws ?_
           clear hws s'
           refine C_reg (mdl []) ?_
           refine S_m (v := .int _ _) rfl ?_
           refine S_m (v := .int _ _) rfl ?_
           refine S_bin rfl rfl (ev_add ..) ?_
           refine S_a (v := .int _ _) rfl ?_
           refine S_nil ?_
           refine C_reg (mdl []) ?_
           refine S_m (v := .int _ _) rfl ?_
           refine S_bin rfl rfl (ev_add ..) ?_
           refine S_a (v := .int _ _) rfl ?_
           refine S_nil ?_
           refine ih697 ((IntKind.wrap .i64 (a692 + a920)), (IntKind.wrap .i64 (a693 + (1 : Int)))) _ hF ?_
           have hwo : WO [] [] := .nil
           exact ⟨(hwo.spec ok).1, WS.mk' (.cons (.refl _) (.cons (.refl _) (.cons (.refl _) (.cons (.refl _) (.cons (.refl _) (.cons (.refl _) (.cons (.refl _) .nil))))))) ok hwo⟩
      ·
       refine WP_exit ?_
       simp only [Exit.sel, Exit.blk, Exit.jmp, if_true, if_false, reduceIte, Nat.reduceEqDiff, Nat.succ_ne_zero, Nat.zero_ne_one, Nat.one_ne_zero]
       replace hF := hG695 _ (F_some hF)
       have hwo : WO [] [] := .nil
       exact ⟨a692, hF, (hwo.spec ok).1, WS.mk' (.cons (.refl _) (.cons (.refl _) (.cons (.refl _) (.cons (.refl _) (.cons (.refl _) .nil))))) ok hwo⟩
    ·
     rintro a686 s' hF ⟨ok, hws⟩
     refine WP_ws hws ?_
     clear hws s'
     refine C_reg (mdl []) ?_
     refine S_bin rfl rfl (ev_add ..) ?_
     refine S_m (v := .int _ _) rfl ?_
     refine S_nil ?_
     refine ih460 (a686, (IntKind.wrap .i64 (a456 + (1 : Int)))) _ hF ?_
     have hwo : WO [] [] := .nil
     exact ⟨(hwo.spec ok).1, WS.mk' (.cons (.refl _) (.cons (.refl _) (.cons (.refl _) (.cons (.refl _) (.cons (.refl _) .nil))))) ok hwo⟩
   ·
    refine WP_exit ?_
    simp only [Exit.sel, Exit.blk, Exit.jmp, if_true, if_false, reduceIte, Nat.reduceEqDiff, Nat.succ_ne_zero, Nat.zero_ne_one, Nat.one_ne_zero]
    replace hF := hG458 _ (F_some hF)
    have hwo : WO [] [] := .nil
    exact ⟨a455, hF, (hwo.spec ok).1, WS.mk' (.cons (.refl _) .nil) ok hwo⟩
 ·
  rintro a453 s' hF ⟨ok, hws⟩
  refine WP_ws hws ?_
  clear hws s'
  refine C_seq ?_
  refine C_reg (mdl []) ?_
  refine S_m (v := .int _ _) rfl ?_
  refine S_bin rfl rfl (e_quo rfl) ?_
  refine S_a (v := .int _ _) rfl ?_
  refine S_a (v := .bool _) rfl ?_
  refine S_nil ?_
  refine WP_ret ?_
  repeat (first | with_reducible refine Exit.sel_ret ?_ | with_reducible refine Exit.blk_ret ?_ | with_reducible refine Exit.jmp_ret ?_)
  refine C_ret (fn := Tryd.f23) rfl (.tmp (v := .int .i64 (IntKind.wrap .i64 (Int.tdiv a453 (4 : Int)))) rfl (.tmp (v := .bool false) rfl .nil)) ?_
  exact ⟨_, _, (.tupC (.cons (.refl _) (.cons (.refl _) (.nil)))), ok.wh, _, F_some hF, rfl, rfl⟩
end Go.Proofs.YtocfjohangcajaaDoor
