/- The walks. No condition. -/
import Derived.Test.YtggnjahdjmncaaaDoorWk2
set_option linter.unusedVariables false
set_option linter.unusedSimpArgs false
set_option maxRecDepth 20000
set_option maxHeartbeats 8000000
namespace Go.Proofs.YtggnjahdjmncaaaDoor
theorem F_lecternref08_Value_w (p0 : T_api_Node) (p1 : T_trail_Trail) {G : (List UInt8) × Int → Prop} (h : Heap) (hF : OptP (F_lecternref08_Value p0 p1) G) : CallsA Tryd.prog 19 [.agg (c_T_api_Node p0), .agg (c_T_trail_Trail p1)] h fun d h' => ∃ r, G r ∧ d = .tup [.str r.1, .int .i64 r.2] ∧ h' = h := by
  refine CallsA.ret ?_
  refine C_body Tryd.func19 rfl en_19 Tryd.ntmps19 rfl (fun ok => ?_)
  rw [F_lecternref08_Value] at hF
  refine C_seq ?_
  refine C_reg (mdl []) ?_
  refine S_box0 rfl rfl rfl rfl ?_
  refine S_box0 rfl rfl rfl rfl ?_
  refine S_a (v := .str ([] : List UInt8)) rfl ?_
  refine S_a (v := .int _ _) rfl ?_
  refine S_nil ?_
  refine C_seq ?_
  refine C_reg (mdl [(6, 1)]) ?_
  refine S_ldQ rfl (p_agg (vs := c_T_api_Node p0) ty_ag_45 ty_sz_45 (by rw [c_T_api_Node_eq]; rfl) (by rw [c_T_api_Node_eq]; rfl)) ?_
  refine S_faQ rfl ty_fd_34_0 ty_sz_22 rfl ?_
  refine S_ldQ rfl (p_one ty_ag_22 ty_sz_22 rfl) ?_
  refine S_call (F_lecternref05_At_ok _ hF fun x1 _ hF => ?_) (.cons (.refl _) (.cons (.refl _) (.nil)))
  refine S_m (v := .tup _) rfl ?_
  refine S_ext rfl rfl ?_
  refine S_ext rfl rfl ?_
  refine S_all1 ok rfl ty_zc_45 ?_
  intro i2 hi2 ok
  refine S_st (j := 0) (cs' := [.int .i64 x1.1.Kind, .str x1.1.Name.URI, .str x1.1.Name.Local, .sl 3 (List.map c_T_api_Attr x1.1.Attrs) 0, .sl 6 (List.map c_T_api_Node x1.1.Kids) 0, .str x1.1.Text]) ok rfl (congrArg D.agg (c_T_api_Node_eq x1.1)) rfl hi2 rfl ty_sz_45 rfl rfl (fun ok => ?_)
  refine S_a (v := .bool _) rfl ?_
  refine S_nil ?_
  refine C_seq ?_
  refine C_seq ?_
  refine C_reg (mdl []) ?_
  refine S_m (v := .bool _) rfl ?_
  refine S_un rfl (ev_not _) ?_
  refine S_nil ?_
  refine C_if (b := (!x1.2)) rfl hF (fun hb3 hF => ?_) (fun hb3 hF => ?_)
  ·
    refine C_seq ?_
    refine C_reg (mdl []) ?_
    refine S_a (v := .str ([] : List UInt8)) rfl ?_
    refine S_a (v := .int _ _) rfl ?_
    refine S_nil ?_
    refine WP_ret ?_
    repeat (first | with_reducible refine Exit.sel_ret ?_ | with_reducible refine Exit.blk_ret ?_)
    refine C_ret (fn := Tryd.f19) rfl (.tmp (v := .str ([] : List UInt8)) rfl (.tmp (v := .int .i64 (35 : Int)) rfl .nil)) ?_
    exact ⟨_, _, (.tupC (.cons (.refl _) (.cons (.refl _) (.nil)))), ok.wh, _, F_some hF, rfl, rfl⟩
  ·
    refine WP_skip ?_
    refine C_join hF (fun (_ : Unit) s' => OK h [(i2, .cells [.int .i64 x1.1.Kind, .str x1.1.Name.URI, .str x1.1.Name.Local, .sl 3 (List.map c_T_api_Attr x1.1.Attrs) 0, .sl 6 (List.map c_T_api_Node x1.1.Kids) 0, .str x1.1.Text])] ∧ WS s' ⟨mkSl 78 [(6, .ptr i2 0)], Hp h [(i2, .cells [.int .i64 x1.1.Kind, .str x1.1.Name.URI, .str x1.1.Name.Local, .sl 3 (List.map c_T_api_Attr x1.1.Attrs) 0, .sl 6 (List.map c_T_api_Node x1.1.Kids) 0, .str x1.1.Text])]⟩) (fun J17 hF => ?_) ?_
    ·
      refine C_seq ?_
      refine C_reg (mdl []) ?_
      refine S_faQ rfl ty_fd_34_1 ty_sz_4 rfl ?_
      refine S_ldQ rfl (p_one ty_ag_4 ty_sz_4 rfl) ?_
      refine S_nil ?_
      refine C_if (b := p1.Attr) rfl hF (fun hb18 hF => ?_) (fun hb18 hF => ?_)
      ·
        refine C_join hF (fun (_ : Unit) s' => OK h [] ∧ WS s' ⟨mkSl 78 [], Hp h []⟩) (fun J25 hF => ?_) ?_
        ·
          refine C_seq ?_
          refine C_reg (mdl []) ?_
          refine S_faP rfl ty_fd_45_2 ty_sz_42 ?_
          refine S_ldP (j := 0) ok rfl rfl rfl hi2 (p_one (v := .sl 3 (List.map c_T_api_Attr x1.1.Attrs) 0) ty_ag_42 ty_sz_42 rfl) ?_
          refine S_lenL rfl ty_sl_42 ?_
          refine S_m (v := .int _ _) rfl ?_
          refine S_nil ?_
          refine WP_block ?_
          refine C_loop (σ := Int) hF (fun (a26 : Int) s' => OK h [(i2, .cells [.int .i64 x1.1.Kind, .str x1.1.Name.URI, .str x1.1.Name.Local, .sl 3 (List.map c_T_api_Attr x1.1.Attrs) 0, .sl 6 (List.map c_T_api_Node x1.1.Kids) 0, .str x1.1.Text])] ∧ WS s' ⟨mkSl 78 [(3, .iptr (c_T_trail_Trail p1)), (6, .ptr i2 0), (26, .sl 3 (List.map c_T_api_Attr x1.1.Attrs) 0), (27, .int .i64 (x1.1.Attrs.length : Int)), (28, .int .i64 a26)], Hp h [(i2, .cells [.int .i64 x1.1.Kind, .str x1.1.Name.URI, .str x1.1.Name.Local, .sl 3 (List.map c_T_api_Attr x1.1.Attrs) 0, .sl 6 (List.map c_T_api_Node x1.1.Kids) 0, .str x1.1.Text])]⟩) ?_ ?_
          ·
            have hwo : WO [(i2, .cells [.int .i64 x1.1.Kind, .str x1.1.Name.URI, .str x1.1.Name.Local, .sl 3 (List.map c_T_api_Attr x1.1.Attrs) 0, .sl 6 (List.map c_T_api_Node x1.1.Kids) 0, .str x1.1.Text])] [(i2, .cells [.int .i64 x1.1.Kind, .str x1.1.Name.URI, .str x1.1.Name.Local, .sl 3 (List.map c_T_api_Attr x1.1.Attrs) 0, .sl 6 (List.map c_T_api_Node x1.1.Kids) 0, .str x1.1.Text])] := (.keep .nil)
            exact ⟨(hwo.spec ok).1, WS.mk' (.cons (.refl _) (.cons (.refl _) (.cons (.refl _) (.cons (.refl _) (.cons (.refl _) .nil))))) ok hwo⟩
          ·
            rintro G27 hG28 rec29 a26 s' ih30 hF ⟨ok, hws⟩
            refine WP_ws hws ?_
            clear hws s'
            rw [F_lecternref08_Value_l0] at hF
            refine C_seq ?_
            refine C_reg (mdl []) ?_
            refine S_bin rfl rfl (ev_lss ..) ?_
            refine S_nil ?_
            refine C_seq ?_
            refine C_if (b := (decide (a26 < (x1.1.Attrs.length : Int)))) rfl hF (fun hb31 hF => ?_) (fun hb31 hF => ?_)
            ·
              refine WP_skip ?_
              refine C_seq ?_
              refine WP_block ?_
              refine C_seq ?_
              refine C_reg (mdl [(9, 1)]) ?_
              refine S_ix rfl rfl ty_sl_42 ty_sz_80 hF (fun x32 _ hF => ?_)
              refine S_ldQ rfl (p_agg (vs := c_T_api_Attr x32) ty_ag_80 ty_sz_80 rfl rfl) ?_
              refine S_all1 ok rfl ty_zc_80 ?_
              intro i33 hi33 ok
              refine S_st (j := 0) (cs' := [.str x32.Name.URI, .str x32.Name.Local, .str x32.Value]) ok rfl rfl rfl hi33 rfl ty_sz_80 rfl rfl (fun ok => ?_)
              refine S_nil ?_
              refine C_seq ?_
              refine C_reg (mdl []) ?_
              refine S_faP rfl ty_fd_45_0 ty_sz_3 ?_
              refine S_ldP (j := 1) ok rfl rfl rfl hi2 (p_one (v := .int .i64 x1.1.Kind) ty_ag_3 ty_sz_3 rfl) ?_
              refine S_bin rfl rfl (ev_eql ..) ?_
              refine S_m (v := .bool _) rfl ?_
              refine S_two (b := (x1.1.Kind == (2 : Int))) 6 41 (.bool ((x1.1.Kind == (2 : Int)) && ((x32.Name.URI == p1.Name.URI) && ((x32.Name.Local == p1.Name.Local) && true)))) (fun hb34 => ?_) (fun hb34 => ?_) ?_
              ·
                refine S_on rfl rfl hb34 ?_
                refine S_in ?_
                refine S_faP rfl ty_fd_80_0 ty_sz_24 ?_
                refine S_nil ?_
                refine S_on rfl rfl hb34 ?_
                refine S_in ?_
                refine S_ldP (j := 0) ok rfl rfl rfl hi33 (p_agg (vs := c_T_api_Name x32.Name) ty_ag_24 ty_sz_24 rfl rfl) ?_
                refine S_nil ?_
                refine S_on rfl rfl hb34 ?_
                refine S_in ?_
                refine S_faQ rfl ty_fd_34_2 ty_sz_24 rfl ?_
                refine S_nil ?_
                refine S_on rfl rfl hb34 ?_
                refine S_in ?_
                refine S_ldQ rfl (p_agg (vs := c_T_api_Name p1.Name) ty_ag_24 ty_sz_24 rfl rfl) ?_
                refine S_nil ?_
                refine S_on rfl rfl hb34 ?_
                refine S_in ?_
                refine S_bin rfl rfl (e_agg (b := ((x32.Name.URI == p1.Name.URI) && ((x32.Name.Local == p1.Name.Local) && true))) ty_qg_24 ty_sf_24 (by simp only [c_T_api_Name, ev_eqF_cons, ev_eqF_nil, ev_part, ty_sf_24, ty_qg_24, ty_ag_9, ty_sz_9, ty_st_9, ty_ag_9, ty_sz_9, ty_st_9, ev_eq_int, ev_eq_str, ev_eq_bool, ev_eq_agg, ev_eq_int2, ev_eq_str2, ev_eq_bool2, List.drop_zero, List.drop_succ_cons, List.length_cons, List.length_nil, List.take_succ_cons, List.take_zero, Option.isSome_some, if_true, Option.bind_some, Option.map_some, Nat.reduceAdd, Nat.reduceLeDiff])) ?_
                refine S_nil ?_
                refine S_pickT (v := .bool _) rfl hb34 rfl ?_
                refine S_nil ?_
                refine .hd (and_t hb34) ?_
                repeat (first | with_reducible exact WS.refl _ | refine WS.add ?_ rfl)
              ·
                refine S_off rfl rfl hb34 ?_
                refine S_offD ?_
                refine S_off rfl rfl hb34 ?_
                refine S_offD ?_
                refine S_off rfl rfl hb34 ?_
                refine S_offD ?_
                refine S_off rfl rfl hb34 ?_
                refine S_offD ?_
                refine S_off rfl rfl hb34 ?_
                refine S_offD ?_
                refine S_pickF (v := .bool _) rfl hb34 rfl ?_
                refine S_nil ?_
                refine .hd (and_f hb34) ?_
                repeat (first | with_reducible exact WS.refl _ | refine WS.add ?_ rfl)
              refine S_nil ?_
              refine C_if (b := ((x1.1.Kind == (2 : Int)) && ((x32.Name.URI == p1.Name.URI) && ((x32.Name.Local == p1.Name.Local) && true)))) rfl hF (fun hb35 hF => ?_) (fun hb35 hF => ?_)
              ·
                refine C_seq ?_
                refine C_reg (mdl []) ?_
                refine S_faP rfl ty_fd_80_1 ty_sz_9 ?_
                refine S_ldP (j := 0) ok rfl rfl rfl hi33 (p_one (v := .str x32.Value) ty_ag_9 ty_sz_9 rfl) ?_
                refine S_a (v := .str _) rfl ?_
                refine S_a (v := .int _ _) rfl ?_
                refine S_nil ?_
                refine WP_ret ?_
                replace hF := hG28 _ (F_some hF)
                repeat (first | with_reducible refine Exit.sel_ret ?_ | with_reducible refine Exit.blk_ret ?_)
                refine C_ret (fn := Tryd.f19) rfl (.tmp (v := .str x32.Value) rfl (.tmp (v := .int .i64 (0 : Int)) rfl .nil)) ?_
                exact ⟨_, _, (.tupC (.cons (.refl _) (.cons (.refl _) (.nil)))), ok.wh, _, F_some hF, rfl, rfl⟩
              ·
                refine WP_skip ?_
                refine C_reg (mdl []) ?_
                refine S_bin rfl rfl (ev_add ..) ?_
                refine S_m (v := .int _ _) rfl ?_
                refine S_nil ?_
                refine ih30 (IntKind.wrap .i64 (a26 + (1 : Int))) _ hF ?_
                have hwo : WO [(i33, .cells [.str x32.Name.URI, .str x32.Name.Local, .str x32.Value]), (i2, .cells [.int .i64 x1.1.Kind, .str x1.1.Name.URI, .str x1.1.Name.Local, .sl 3 (List.map c_T_api_Attr x1.1.Attrs) 0, .sl 6 (List.map c_T_api_Node x1.1.Kids) 0, .str x1.1.Text])] [(i2, .cells [.int .i64 x1.1.Kind, .str x1.1.Name.URI, .str x1.1.Name.Local, .sl 3 (List.map c_T_api_Attr x1.1.Attrs) 0, .sl 6 (List.map c_T_api_Node x1.1.Kids) 0, .str x1.1.Text])] := (.drop (.keep .nil))
                exact ⟨(hwo.spec ok).1, WS.mk' (.cons (.refl _) (.cons (.refl _) (.cons (.refl _) (.cons (.refl _) (.cons (.refl _) .nil))))) ok hwo⟩
            ·
              refine WP_exit ?_
              simp only [Exit.sel, Exit.blk, if_true, if_false, reduceIte, Nat.reduceEqDiff, Nat.succ_ne_zero, Nat.zero_ne_one, Nat.one_ne_zero]
              replace hF := hG28 _ (F_some hF)
              have hwo : WO [(i2, .cells [.int .i64 x1.1.Kind, .str x1.1.Name.URI, .str x1.1.Name.Local, .sl 3 (List.map c_T_api_Attr x1.1.Attrs) 0, .sl 6 (List.map c_T_api_Node x1.1.Kids) 0, .str x1.1.Text])] [] := (.drop .nil)
              exact ⟨(), hF, (hwo.spec ok).1, WS.mk' .nil ok hwo⟩
        ·
          rintro ⟨⟩ s' hF ⟨ok, hws⟩
          refine WP_ws hws ?_
          clear hws s'
          refine C_seq ?_
          refine C_reg (mdl []) ?_
          refine S_a (v := .str ([] : List UInt8)) rfl ?_
          refine S_a (v := .int _ _) rfl ?_
          refine S_nil ?_
          refine WP_ret ?_
          repeat (first | with_reducible refine Exit.sel_ret ?_ | with_reducible refine Exit.blk_ret ?_)
          refine C_ret (fn := Tryd.f19) rfl (.tmp (v := .str ([] : List UInt8)) rfl (.tmp (v := .int .i64 (7 : Int)) rfl .nil)) ?_
          exact ⟨_, _, (.tupC (.cons (.refl _) (.cons (.refl _) (.nil)))), ok.wh, _, F_some hF, rfl, rfl⟩
      ·
        refine WP_skip ?_
        have hwo : WO [(i2, .cells [.int .i64 x1.1.Kind, .str x1.1.Name.URI, .str x1.1.Name.Local, .sl 3 (List.map c_T_api_Attr x1.1.Attrs) 0, .sl 6 (List.map c_T_api_Node x1.1.Kids) 0, .str x1.1.Text])] [(i2, .cells [.int .i64 x1.1.Kind, .str x1.1.Name.URI, .str x1.1.Name.Local, .sl 3 (List.map c_T_api_Attr x1.1.Attrs) 0, .sl 6 (List.map c_T_api_Node x1.1.Kids) 0, .str x1.1.Text])] := (.keep .nil)
        exact ⟨(), hF, (hwo.spec ok).1, WS.mk' (.cons (.refl _) .nil) ok hwo⟩
    ·
      rintro ⟨⟩ s' hF ⟨ok, hws⟩
      refine WP_ws hws ?_
      clear hws s'
      refine C_seq ?_
      refine C_seq ?_
      refine C_reg (mdl []) ?_
      refine S_faP rfl ty_fd_45_0 ty_sz_3 ?_
      refine S_ldP (j := 0) ok rfl rfl rfl hi2 (p_one (v := .int .i64 x1.1.Kind) ty_ag_3 ty_sz_3 rfl) ?_
      refine S_bin rfl rfl (ev_eql ..) ?_
      refine S_m (v := .bool _) rfl ?_
      refine S_two (b := (x1.1.Kind == (3 : Int))) 4 52 (.bool ((x1.1.Kind == (3 : Int)) || (x1.1.Kind == (4 : Int)))) (fun hb36 => ?_) (fun hb36 => ?_) ?_
      ·
        refine S_off rfl rfl hb36 ?_
        refine S_offD ?_
        refine S_off rfl rfl hb36 ?_
        refine S_offD ?_
        refine S_off rfl rfl hb36 ?_
        refine S_offD ?_
        refine S_pickT (v := .bool _) rfl hb36 rfl ?_
        refine S_nil ?_
        refine .hd (or_t hb36) ?_
        repeat (first | with_reducible exact WS.refl _ | refine WS.add ?_ rfl)
      ·
        refine S_on rfl rfl hb36 ?_
        refine S_in ?_
        refine S_faP rfl ty_fd_45_0 ty_sz_3 ?_
        refine S_nil ?_
        refine S_on rfl rfl hb36 ?_
        refine S_in ?_
        refine S_ldP (j := 0) ok rfl rfl rfl hi2 (p_one (v := .int .i64 x1.1.Kind) ty_ag_3 ty_sz_3 rfl) ?_
        refine S_nil ?_
        refine S_on rfl rfl hb36 ?_
        refine S_in ?_
        refine S_bin rfl rfl (ev_eql ..) ?_
        refine S_nil ?_
        refine S_pickF (v := .bool _) rfl hb36 rfl ?_
        refine S_nil ?_
        refine .hd (or_f hb36) ?_
        repeat (first | with_reducible exact WS.refl _ | refine WS.add ?_ rfl)
      refine S_m (v := .bool _) rfl ?_
      refine S_two (b := ((x1.1.Kind == (3 : Int)) || (x1.1.Kind == (4 : Int)))) 4 57 (.bool (((x1.1.Kind == (3 : Int)) || (x1.1.Kind == (4 : Int))) || (x1.1.Kind == (5 : Int)))) (fun hb37 => ?_) (fun hb37 => ?_) ?_
      ·
        refine S_off rfl rfl hb37 ?_
        refine S_offD ?_
        refine S_off rfl rfl hb37 ?_
        refine S_offD ?_
        refine S_off rfl rfl hb37 ?_
        refine S_offD ?_
        refine S_pickT (v := .bool _) rfl hb37 rfl ?_
        refine S_nil ?_
        refine .hd (or_t hb37) ?_
        repeat (first | with_reducible exact WS.refl _ | refine WS.add ?_ rfl)
      ·
        refine S_on rfl rfl hb37 ?_
        refine S_in ?_
        refine S_faP rfl ty_fd_45_0 ty_sz_3 ?_
        refine S_nil ?_
        refine S_on rfl rfl hb37 ?_
        refine S_in ?_
        refine S_ldP (j := 0) ok rfl rfl rfl hi2 (p_one (v := .int .i64 x1.1.Kind) ty_ag_3 ty_sz_3 rfl) ?_
        refine S_nil ?_
        refine S_on rfl rfl hb37 ?_
        refine S_in ?_
        refine S_bin rfl rfl (ev_eql ..) ?_
        refine S_nil ?_
        refine S_pickF (v := .bool _) rfl hb37 rfl ?_
        refine S_nil ?_
        refine .hd (or_f hb37) ?_
        repeat (first | with_reducible exact WS.refl _ | refine WS.add ?_ rfl)
      refine S_nil ?_
      refine C_if (b := (((x1.1.Kind == (3 : Int)) || (x1.1.Kind == (4 : Int))) || (x1.1.Kind == (5 : Int)))) rfl hF (fun hb38 hF => ?_) (fun hb38 hF => ?_)
      ·
        refine C_seq ?_
        refine C_reg (mdl []) ?_
        refine S_faP rfl ty_fd_45_4 ty_sz_9 ?_
        refine S_ldP (j := 0) ok rfl rfl rfl hi2 (p_one (v := .str x1.1.Text) ty_ag_9 ty_sz_9 rfl) ?_
        refine S_a (v := .str _) rfl ?_
        refine S_a (v := .int _ _) rfl ?_
        refine S_nil ?_
        refine WP_ret ?_
        repeat (first | with_reducible refine Exit.sel_ret ?_ | with_reducible refine Exit.blk_ret ?_)
        refine C_ret (fn := Tryd.f19) rfl (.tmp (v := .str x1.1.Text) rfl (.tmp (v := .int .i64 (0 : Int)) rfl .nil)) ?_
        exact ⟨_, _, (.tupC (.cons (.refl _) (.cons (.refl _) (.nil)))), ok.wh, _, F_some hF, rfl, rfl⟩
      ·
        refine WP_skip ?_
        refine C_seq ?_
        refine C_reg (mdl []) ?_
        refine S_a (v := .str ([] : List UInt8)) rfl ?_
        refine S_nil ?_
        refine C_seq ?_
        refine C_reg (mdl []) ?_
        refine S_ldP (j := 0) ok rfl rfl rfl hi2 (p_agg (vs := c_T_api_Node x1.1) ty_ag_45 ty_sz_45 rfl (c_T_api_Node_eq x1.1).symm) ?_
        refine S_call (F_lecternref05_Flat_ok _ hF fun x39 _ hF => ?_) (.cons (.refl _) (.nil))
        refine S_a (v := .sl _ _ _) rfl ?_
        refine S_nil ?_
        refine C_join hF (fun (a51 : (List UInt8)) s' => OK h [] ∧ WS s' ⟨mkSl 78 [(10, .str a51)], Hp h []⟩) (fun J52 hF => ?_) ?_
        ·
          refine C_seq ?_
          refine C_reg (mdl []) ?_
          refine S_m (v := .sl _ _ _) rfl ?_
          refine S_slL rfl ty_sl_43 ty_sz_45 (bd_at rfl) bd_len hF (fun x53 _ hF => ?_)
          refine S_lenL rfl ty_sl_43 ?_
          refine S_m (v := .int _ _) rfl ?_
          refine S_nil ?_
          refine WP_block ?_
          refine C_loop (σ := (List UInt8) × Int) hF (fun (v : (List UInt8) × Int) s' => match v with | (a54, a55) => OK h [] ∧ WS s' ⟨mkSl 78 [(10, .str a54), (63, .sl 6 (List.map c_T_api_Node x53) 0), (64, .int .i64 (x53.length : Int)), (65, .int .i64 a55)], Hp h []⟩) ?_ ?_
          ·
            have hwo : WO [(i2, .cells [.int .i64 x1.1.Kind, .str x1.1.Name.URI, .str x1.1.Name.Local, .sl 3 (List.map c_T_api_Attr x1.1.Attrs) 0, .sl 6 (List.map c_T_api_Node x1.1.Kids) 0, .str x1.1.Text])] [] := (.drop .nil)
            exact ⟨(hwo.spec ok).1, WS.mk' (.cons (.refl _) (.cons (.refl _) (.cons (.refl _) (.cons (.refl _) .nil)))) ok hwo⟩
          ·
            rintro G56 hG57 rec58 ⟨a54, a55⟩ s' ih59 hF ⟨ok, hws⟩
            refine WP_ws hws ?_
            clear hws s'
            rw [F_lecternref08_Value_l1] at hF
            refine C_seq ?_
            refine C_reg (mdl []) ?_
            refine S_bin rfl rfl (ev_lss ..) ?_
            refine S_nil ?_
            refine C_seq ?_
            refine C_if (b := (decide (a55 < (x53.length : Int)))) rfl hF (fun hb60 hF => ?_) (fun hb60 hF => ?_)
            ·
              refine WP_skip ?_
              refine C_join hF (fun (a64 : (List UInt8)) s' => OK h [] ∧ WS s' ⟨mkSl 78 [(10, .str a64), (63, .sl 6 (List.map c_T_api_Node x53) 0), (64, .int .i64 (x53.length : Int)), (65, .int .i64 a55)], Hp h []⟩) (fun J65 hF => ?_) ?_
              ·
                refine WP_block ?_
                refine C_seq ?_
                refine C_reg (mdl [(13, 1)]) ?_
                refine S_ix rfl rfl ty_sl_43 ty_sz_45 hF (fun x66 _ hF => ?_)
                refine S_ldQ rfl (p_agg (vs := c_T_api_Node x66) ty_ag_45 ty_sz_45 (by rw [c_T_api_Node_eq]; rfl) (by rw [c_T_api_Node_eq]; rfl)) ?_
                refine S_all1 ok rfl ty_zc_45 ?_
                intro i67 hi67 ok
                refine S_st (j := 0) (cs' := [.int .i64 x66.Kind, .str x66.Name.URI, .str x66.Name.Local, .sl 3 (List.map c_T_api_Attr x66.Attrs) 0, .sl 6 (List.map c_T_api_Node x66.Kids) 0, .str x66.Text]) ok rfl (congrArg D.agg (c_T_api_Node_eq x66)) rfl hi67 rfl ty_sz_45 rfl rfl (fun ok => ?_)
                refine S_nil ?_
                refine C_seq ?_
                refine C_reg (mdl []) ?_
                refine S_faP rfl ty_fd_45_0 ty_sz_3 ?_
                refine S_ldP (j := 0) ok rfl rfl rfl hi67 (p_one (v := .int .i64 x66.Kind) ty_ag_3 ty_sz_3 rfl) ?_
                refine S_bin rfl rfl (ev_eql ..) ?_
                refine S_nil ?_
                refine C_if (b := (x66.Kind == (3 : Int))) rfl hF (fun hb68 hF => ?_) (fun hb68 hF => ?_)
                ·
                  refine C_reg (mdl []) ?_
                  refine S_m (v := .str _) rfl ?_
                  refine S_faP rfl ty_fd_45_4 ty_sz_9 ?_
                  refine S_ldP (j := 0) ok rfl rfl rfl hi67 (p_one (v := .str x66.Text) ty_ag_9 ty_sz_9 rfl) ?_
                  refine S_cat rfl rfl hF (fun hF => ?_)
                  refine S_a (v := .str _) rfl ?_
                  refine S_nil ?_
                  have hwo : WO [(i67, .cells [.int .i64 x66.Kind, .str x66.Name.URI, .str x66.Name.Local, .sl 3 (List.map c_T_api_Attr x66.Attrs) 0, .sl 6 (List.map c_T_api_Node x66.Kids) 0, .str x66.Text])] [] := (.drop .nil)
                  exact ⟨(a54 ++ x66.Text), hF, (hwo.spec ok).1, WS.mk' (.cons (.refl _) (.cons (.refl _) (.cons (.refl _) (.cons (.refl _) .nil)))) ok hwo⟩
                ·
                  refine WP_skip ?_
                  have hwo : WO [(i67, .cells [.int .i64 x66.Kind, .str x66.Name.URI, .str x66.Name.Local, .sl 3 (List.map c_T_api_Attr x66.Attrs) 0, .sl 6 (List.map c_T_api_Node x66.Kids) 0, .str x66.Text])] [] := (.drop .nil)
                  exact ⟨a54, hF, (hwo.spec ok).1, WS.mk' (.cons (.refl _) (.cons (.refl _) (.cons (.refl _) (.cons (.refl _) .nil)))) ok hwo⟩
              ·
                rintro a64 s' hF ⟨ok, hws⟩
                refine WP_ws hws ?_
                clear hws s'
                refine C_reg (mdl []) ?_
                refine S_bin rfl rfl (ev_add ..) ?_
                refine S_m (v := .int _ _) rfl ?_
                refine S_nil ?_
                refine ih59 (a64, (IntKind.wrap .i64 (a55 + (1 : Int)))) _ hF ?_
                have hwo : WO [] [] := .nil
                exact ⟨(hwo.spec ok).1, WS.mk' (.cons (.refl _) (.cons (.refl _) (.cons (.refl _) (.cons (.refl _) .nil)))) ok hwo⟩
            ·
              refine WP_exit ?_
              simp only [Exit.sel, Exit.blk, if_true, if_false, reduceIte, Nat.reduceEqDiff, Nat.succ_ne_zero, Nat.zero_ne_one, Nat.one_ne_zero]
              replace hF := hG57 _ (F_some hF)
              have hwo : WO [] [] := .nil
              exact ⟨a54, hF, (hwo.spec ok).1, WS.mk' (.cons (.refl _) .nil) ok hwo⟩
        ·
          rintro a51 s' hF ⟨ok, hws⟩
          refine WP_ws hws ?_
          clear hws s'
          refine C_seq ?_
          refine C_reg (mdl []) ?_
          refine S_m (v := .str _) rfl ?_
          refine S_a (v := .str _) rfl ?_
          refine S_a (v := .int _ _) rfl ?_
          refine S_nil ?_
          refine WP_ret ?_
          repeat (first | with_reducible refine Exit.sel_ret ?_ | with_reducible refine Exit.blk_ret ?_)
          refine C_ret (fn := Tryd.f19) rfl (.tmp (v := .str a51) rfl (.tmp (v := .int .i64 (0 : Int)) rfl .nil)) ?_
          exact ⟨_, _, (.tupC (.cons (.refl _) (.cons (.refl _) (.nil)))), ok.wh, _, F_some hF, rfl, rfl⟩
theorem F_lecternref08_Value_ok {β : Type} {f : (List UInt8) × Int → Option β} {G : β → Prop} {R : D → Heap → Prop} {p0 : T_api_Node} {p1 : T_trail_Trail} (h : Heap) (hF : OptP ((F_lecternref08_Value p0 p1).bind f) G) (hk : ∀ r, F_lecternref08_Value p0 p1 = some r → OptP (f r) G → R (.tup [.str r.1, .int .i64 r.2]) h) : CallsA Tryd.prog 19 [.agg (c_T_api_Node p0), .agg (c_T_trail_Trail p1)] h R := by
  obtain ⟨r0, hr, hF⟩ := F_bind hF
  refine (F_lecternref08_Value_w (G := fun r => r = r0) p0 p1 h ⟨r0, hr, rfl⟩).mono ?_
  rintro _ _ ⟨r, rfl, rfl, rfl⟩
  exact hk _ hr hF
theorem F_lecternlaw08_TrailValues_w (p0 : T_api_Node) (p1 : T_trail_Trail) {G : Bool → Prop} (h : Heap) (hF : OptP (F_lecternlaw08_TrailValues p0 p1) G) : CallsA Tryd.prog 5 [.agg (c_T_api_Node p0), .agg (c_T_trail_Trail p1)] h fun d h' => ∃ r, G r ∧ d = .bool r := by
  refine CallsA.ret ?_
  refine C_body Tryd.func5 rfl en_5 Tryd.ntmps5 rfl (fun ok => ?_)
  rw [F_lecternlaw08_TrailValues] at hF
  refine C_seq ?_
  refine C_reg (mdl []) ?_
  refine S_box0 rfl rfl rfl rfl ?_
  refine S_box0 rfl rfl rfl rfl ?_
  refine S_a (v := .bool _) rfl ?_
  refine S_nil ?_
  refine C_seq ?_
  refine C_seq ?_
  refine C_reg (mdl []) ?_
  refine S_call (F_lecternlaw08_awake_ok _ hF fun x1 _ hF => ?_) (.nil)
  refine S_un rfl (ev_not _) ?_
  refine S_nil ?_
  refine C_if (b := (!x1)) rfl hF (fun hb2 hF => ?_) (fun hb2 hF => ?_)
  ·
    refine C_seq ?_
    refine C_reg (mdl []) ?_
    refine S_a (v := .bool _) rfl ?_
    refine S_nil ?_
    refine WP_ret ?_
    repeat (first | with_reducible refine Exit.sel_ret ?_ | with_reducible refine Exit.blk_ret ?_)
    refine C_ret (fn := Tryd.f5) rfl (.tmp (v := .bool false) rfl .nil) ?_
    exact ⟨_, _, (.refl _), WH.refl _, _, F_some hF, rfl⟩
  ·
    refine WP_skip ?_
    refine C_seq ?_
    refine C_reg (mdl []) ?_
    refine S_ldQ rfl (p_agg (vs := c_T_api_Node p0) ty_ag_45 ty_sz_45 (by rw [c_T_api_Node_eq]; rfl) (by rw [c_T_api_Node_eq]; rfl)) ?_
    refine S_ldQ rfl (p_agg (vs := c_T_trail_Trail p1) ty_ag_26 ty_sz_26 rfl rfl) ?_
    refine S_call (F_trail_Value_ok _ hF fun x3 _ hF => ?_) (.cons (.refl _) (.cons (.refl _) (.nil)))
    refine S_m (v := .tup _) rfl ?_
    refine S_ext rfl rfl ?_
    refine S_ext rfl rfl ?_
    refine S_a (v := .str _) rfl ?_
    refine S_a (v := .int _ _) rfl ?_
    refine S_nil ?_
    refine C_seq ?_
    refine C_drw (mdl [(18, 3), (19, 3)]) (by kernel_rfl) (by kernel_rfl) ?_
    refine S_ldQ rfl (p_agg (vs := c_T_api_Node p0) ty_ag_45 ty_sz_45 (by rw [c_T_api_Node_eq]; rfl) (by rw [c_T_api_Node_eq]; rfl)) ?_
    refine S_ldQ rfl (p_agg (vs := c_T_trail_Trail p1) ty_ag_26 ty_sz_26 rfl rfl) ?_
    refine S_call (F_lecternlaw08_doc_ok _ hF fun x4 _ hF => ?_) (.cons (.refl _) (.nil))
    refine S_call (F_lecternref08_Value_ok _ hF fun x5 _ hF => ?_) (.cons (.refl _) (.cons (.refl _) (.nil)))
    refine S_m (v := .tup _) rfl ?_
    refine S_ext rfl rfl ?_
    refine S_ext rfl rfl ?_
    refine S_a (v := .str _) rfl ?_
    refine S_a (v := .int _ _) rfl ?_
    refine S_nil ?_
    refine C_seq ?_
    refine C_reg (mdl []) ?_
    refine S_m (v := .str _) rfl ?_
    refine S_m (v := .str _) rfl ?_
    refine S_bin rfl rfl e_seql ?_
    refine S_m (v := .bool _) rfl ?_
    refine S_two (b := (x3.1 == x5.1)) 4 31 (.bool ((x3.1 == x5.1) && (x3.2 == x5.2))) (fun hb6 => ?_) (fun hb6 => ?_) ?_
    ·
      refine S_on rfl rfl hb6 ?_
      refine S_in ?_
      refine S_m (v := .int _ _) rfl ?_
      refine S_nil ?_
      refine S_on rfl rfl hb6 ?_
      refine S_in ?_
      refine S_m (v := .int _ _) rfl ?_
      refine S_nil ?_
      refine S_on rfl rfl hb6 ?_
      refine S_in ?_
      refine S_bin rfl rfl (ev_eql ..) ?_
      refine S_nil ?_
      refine S_pickT (v := .bool _) rfl hb6 rfl ?_
      refine S_nil ?_
      refine .hd (and_t hb6) ?_
      repeat (first | with_reducible exact WS.refl _ | refine WS.add ?_ rfl)
    ·
      refine S_off rfl rfl hb6 ?_
      refine S_offD ?_
      refine S_off rfl rfl hb6 ?_
      refine S_offD ?_
      refine S_off rfl rfl hb6 ?_
      refine S_offD ?_
      refine S_pickF (v := .bool _) rfl hb6 rfl ?_
      refine S_nil ?_
      refine .hd (and_f hb6) ?_
      repeat (first | with_reducible exact WS.refl _ | refine WS.add ?_ rfl)
    refine S_a (v := .bool _) rfl ?_
    refine S_nil ?_
    refine WP_ret ?_
    repeat (first | with_reducible refine Exit.sel_ret ?_ | with_reducible refine Exit.blk_ret ?_)
    refine C_ret (fn := Tryd.f5) rfl (.tmp (v := .bool ((x3.1 == x5.1) && (x3.2 == x5.2))) rfl .nil) ?_
    exact ⟨_, _, (.refl _), WH.refl _, _, F_some hF, rfl⟩
theorem F_lecternlaw08_TrailJoins_w (p0 : T_api_Node) (p1 : List Int) {G : Bool → Prop} (h : Heap) (hF : OptP (F_lecternlaw08_TrailJoins p0 p1) G) : CallsA Tryd.prog 6 [.agg (c_T_api_Node p0), .sl 1 (List.map c_i64 p1) 0] h fun d h' => ∃ r, G r ∧ d = .bool r := by
  refine CallsA.ret ?_
  refine C_body Tryd.func6 rfl en_6 Tryd.ntmps6 rfl (fun ok => ?_)
  rw [F_lecternlaw08_TrailJoins] at hF
  refine C_seq ?_
  refine C_reg (mdl []) ?_
  refine S_box0 rfl rfl rfl rfl ?_
  refine S_a (v := .bool _) rfl ?_
  refine S_nil ?_
  refine C_seq ?_
  refine C_seq ?_
  refine C_reg (mdl []) ?_
  refine S_call (F_lecternlaw08_awake_ok _ hF fun x1 _ hF => ?_) (.nil)
  refine S_un rfl (ev_not _) ?_
  refine S_nil ?_
  refine C_if (b := (!x1)) rfl hF (fun hb2 hF => ?_) (fun hb2 hF => ?_)
  ·
    refine C_seq ?_
    refine C_reg (mdl []) ?_
    refine S_a (v := .bool _) rfl ?_
    refine S_nil ?_
    refine WP_ret ?_
    repeat (first | with_reducible refine Exit.sel_ret ?_ | with_reducible refine Exit.blk_ret ?_)
    refine C_ret (fn := Tryd.f6) rfl (.tmp (v := .bool false) rfl .nil) ?_
    exact ⟨_, _, (.refl _), WH.refl _, _, F_some hF, rfl⟩
  ·
    refine WP_skip ?_
    refine C_seq ?_
    refine C_reg (mdl [(5, 1)]) ?_
    refine S_ldQ rfl (p_agg (vs := c_T_api_Node p0) ty_ag_45 ty_sz_45 (by rw [c_T_api_Node_eq]; rfl) (by rw [c_T_api_Node_eq]; rfl)) ?_
    refine S_m (v := .sl _ _ _) rfl ?_
    refine S_call (F_lecternref05_At_ok _ hF fun x3 _ hF => ?_) (.cons (.refl _) (.cons (.refl _) (.nil)))
    refine S_m (v := .tup _) rfl ?_
    refine S_ext rfl rfl ?_
    refine S_ext rfl rfl ?_
    refine S_all1 ok rfl ty_zc_45 ?_
    intro i4 hi4 ok
    refine S_st (j := 0) (cs' := [.int .i64 x3.1.Kind, .str x3.1.Name.URI, .str x3.1.Name.Local, .sl 3 (List.map c_T_api_Attr x3.1.Attrs) 0, .sl 6 (List.map c_T_api_Node x3.1.Kids) 0, .str x3.1.Text]) ok rfl (congrArg D.agg (c_T_api_Node_eq x3.1)) rfl hi4 rfl ty_sz_45 rfl rfl (fun ok => ?_)
    refine S_a (v := .bool _) rfl ?_
    refine S_nil ?_
    refine C_seq ?_
    refine C_seq ?_
    refine C_reg (mdl []) ?_
    refine S_m (v := .bool _) rfl ?_
    refine S_un rfl (ev_not _) ?_
    refine S_m (v := .bool _) rfl ?_
    refine S_two (b := (!x3.2)) 9 34 (.bool ((!x3.2) || ((x3.1.Kind != (1 : Int)) && (x3.1.Kind != (2 : Int))))) (fun hb5 => ?_) (fun hb5 => ?_) ?_
    ·
      refine S_off rfl rfl hb5 ?_
      refine S_offD ?_
      refine S_off rfl rfl hb5 ?_
      refine S_offD ?_
      refine S_off rfl rfl hb5 ?_
      refine S_offD ?_
      refine S_off rfl rfl hb5 ?_
      refine S_offD ?_
      refine S_off2 rfl rfl ?_
      refine S_offD ?_
      refine S_off2 rfl rfl ?_
      refine S_offD ?_
      refine S_off2 rfl rfl ?_
      refine S_offD ?_
      refine S_off rfl rfl hb5 ?_
      refine S_offD ?_
      refine S_pickT (v := .bool _) rfl hb5 rfl ?_
      refine S_nil ?_
      refine .hd (or_t hb5) ?_
      repeat (first | with_reducible exact WS.refl _ | refine WS.add ?_ rfl)
    ·
      refine S_on rfl rfl hb5 ?_
      refine S_in ?_
      refine S_faP rfl ty_fd_45_0 ty_sz_3 ?_
      refine S_nil ?_
      refine S_on rfl rfl hb5 ?_
      refine S_in ?_
      refine S_ldP (j := 0) ok rfl rfl rfl hi4 (p_one (v := .int .i64 x3.1.Kind) ty_ag_3 ty_sz_3 rfl) ?_
      refine S_nil ?_
      refine S_on rfl rfl hb5 ?_
      refine S_in ?_
      refine S_bin rfl rfl (ev_neq ..) ?_
      refine S_nil ?_
      refine S_on rfl rfl hb5 ?_
      refine S_in ?_
      refine S_m (v := .bool _) rfl ?_
      refine S_nil ?_
      refine S_two (b := (x3.1.Kind != (1 : Int))) 4 33 (.bool ((x3.1.Kind != (1 : Int)) && (x3.1.Kind != (2 : Int)))) (fun hb7 => ?_) (fun hb7 => ?_) ?_
      ·
        refine S_on rfl rfl hb7 ?_
        refine S_in ?_
        refine S_faP rfl ty_fd_45_0 ty_sz_3 ?_
        refine S_nil ?_
        refine S_on rfl rfl hb7 ?_
        refine S_in ?_
        refine S_ldP (j := 0) ok rfl rfl rfl hi4 (p_one (v := .int .i64 x3.1.Kind) ty_ag_3 ty_sz_3 rfl) ?_
        refine S_nil ?_
        refine S_on rfl rfl hb7 ?_
        refine S_in ?_
        refine S_bin rfl rfl (ev_neq ..) ?_
        refine S_nil ?_
        refine S_on rfl rfl hb5 ?_
        refine S_in ?_
        refine S_pickT (v := .bool _) rfl hb7 rfl ?_
        refine S_nil ?_
        refine S_nil ?_
        refine .hd (and_t hb7) ?_
        repeat (first | with_reducible exact WS.refl _ | refine WS.add ?_ rfl)
      ·
        refine S_off rfl rfl hb7 ?_
        refine S_offD ?_
        refine S_off rfl rfl hb7 ?_
        refine S_offD ?_
        refine S_off rfl rfl hb7 ?_
        refine S_offD ?_
        refine S_on rfl rfl hb5 ?_
        refine S_in ?_
        refine S_pickF (v := .bool _) rfl hb7 rfl ?_
        refine S_nil ?_
        refine S_nil ?_
        refine .hd (and_f hb7) ?_
        repeat (first | with_reducible exact WS.refl _ | refine WS.add ?_ rfl)
      refine S_pickF (v := .bool _) rfl hb5 rfl ?_
      refine S_nil ?_
      refine .hd (or_f hb5) ?_
      repeat (first | with_reducible exact WS.refl _ | refine WS.add ?_ rfl)
    refine S_nil ?_
    refine C_if (b := ((!x3.2) || ((x3.1.Kind != (1 : Int)) && (x3.1.Kind != (2 : Int))))) rfl hF (fun hb8 hF => ?_) (fun hb8 hF => ?_)
    ·
      refine C_seq ?_
      refine C_reg (mdl []) ?_
      refine S_a (v := .bool _) rfl ?_
      refine S_nil ?_
      refine WP_ret ?_
      repeat (first | with_reducible refine Exit.sel_ret ?_ | with_reducible refine Exit.blk_ret ?_)
      refine C_ret (fn := Tryd.f6) rfl (.tmp (v := .bool true) rfl .nil) ?_
      exact ⟨_, _, (.refl _), WH.refl _, _, F_some hF, rfl⟩
    ·
      refine WP_skip ?_
      refine C_seq ?_
      refine C_reg (mdl []) ?_
      refine S_ldQ rfl (p_agg (vs := c_T_api_Node p0) ty_ag_45 ty_sz_45 (by rw [c_T_api_Node_eq]; rfl) (by rw [c_T_api_Node_eq]; rfl)) ?_
      refine S_m (v := .sl _ _ _) rfl ?_
      refine S_bld (v := .agg (c_T_trail_Trail (⟨p1, false, (⟨([] : List UInt8), ([] : List UInt8)⟩ : T_api_Name)⟩ : T_trail_Trail))) (b_st ty_zc_26 ty_pl_26 rfl) ?_
      refine S_call (F_trail_Value_ok _ hF fun x9 _ hF => ?_) (.cons (.refl _) (.cons (.refl _) (.nil)))
      refine S_m (v := .tup _) rfl ?_
      refine S_ext rfl rfl ?_
      refine S_ext rfl rfl ?_
      refine S_a (v := .str _) rfl ?_
      refine S_a (v := .int _ _) rfl ?_
      refine S_nil ?_
      refine C_seq ?_
      refine C_reg (mdl []) ?_
      refine S_a (v := .str ([] : List UInt8)) rfl ?_
      refine S_nil ?_
      refine C_join hF (fun (a33 : (List UInt8)) s' => OK h [] ∧ WS s' ⟨mkSl 108 [(7, .str x9.1), (8, .int .i64 x9.2), (9, .str a33)], Hp h []⟩) (fun J34 hF => ?_) ?_
      ·
        refine C_seq ?_
        refine C_reg (mdl []) ?_
        refine S_faP rfl ty_fd_45_3 ty_sz_43 ?_
        refine S_ldP (j := 0) ok rfl rfl rfl hi4 (p_one (v := .sl 6 (List.map c_T_api_Node x3.1.Kids) 0) ty_ag_43 ty_sz_43 rfl) ?_
        refine S_lenL rfl ty_sl_43 ?_
        refine S_m (v := .int _ _) rfl ?_
        refine S_nil ?_
        refine WP_block ?_
        refine C_loop (σ := (List UInt8) × Int) hF (fun (v : (List UInt8) × Int) s' => match v with | (a35, a36) => OK h [] ∧ WS s' ⟨mkSl 108 [(1, .sl 1 (List.map c_i64 p1) 0), (2, .iptr (c_T_api_Node p0)), (7, .str x9.1), (8, .int .i64 x9.2), (9, .str a35), (43, .sl 6 (List.map c_T_api_Node x3.1.Kids) 0), (44, .int .i64 (x3.1.Kids.length : Int)), (45, .int .i64 a36)], Hp h []⟩) ?_ ?_
        ·
          have hwo : WO [(i4, .cells [.int .i64 x3.1.Kind, .str x3.1.Name.URI, .str x3.1.Name.Local, .sl 3 (List.map c_T_api_Attr x3.1.Attrs) 0, .sl 6 (List.map c_T_api_Node x3.1.Kids) 0, .str x3.1.Text])] [] := (.drop .nil)
          exact ⟨(hwo.spec ok).1, WS.mk' (.cons (.refl _) (.cons (.refl _) (.cons (.refl _) (.cons (.refl _) (.cons (.refl _) (.cons (.refl _) (.cons (.refl _) (.cons (.refl _) .nil)))))))) ok hwo⟩
        ·
          rintro G37 hG38 rec39 ⟨a35, a36⟩ s' ih40 hF ⟨ok, hws⟩
          refine WP_ws hws ?_
          clear hws s'
          rw [F_lecternlaw08_TrailJoins_l0] at hF
          refine C_seq ?_
          refine C_reg (mdl []) ?_
          refine S_bin rfl rfl (ev_lss ..) ?_
          refine S_nil ?_
          refine C_seq ?_
          refine C_if (b := (decide (a36 < (x3.1.Kids.length : Int)))) rfl hF (fun hb41 hF => ?_) (fun hb41 hF => ?_)
          ·
            refine WP_skip ?_
            refine C_seq ?_
            refine WP_block ?_
            refine C_seq ?_
            refine C_reg (mdl [(11, 1)]) ?_
            refine S_m (v := .int _ _) rfl ?_
            refine S_ix rfl rfl ty_sl_43 ty_sz_45 hF (fun x42 _ hF => ?_)
            refine S_ldQ rfl (p_agg (vs := c_T_api_Node x42) ty_ag_45 ty_sz_45 (by rw [c_T_api_Node_eq]; rfl) (by rw [c_T_api_Node_eq]; rfl)) ?_
            refine S_all1 ok rfl ty_zc_45 ?_
            intro i43 hi43 ok
            refine S_a (v := .int _ _) rfl ?_
            refine S_st (j := 0) (cs' := [.int .i64 x42.Kind, .str x42.Name.URI, .str x42.Name.Local, .sl 3 (List.map c_T_api_Attr x42.Attrs) 0, .sl 6 (List.map c_T_api_Node x42.Kids) 0, .str x42.Text]) ok rfl (congrArg D.agg (c_T_api_Node_eq x42)) rfl hi43 rfl ty_sz_45 rfl rfl (fun ok => ?_)
            refine S_nil ?_
            refine C_seq ?_
            refine C_reg (mdl [(50, 2), (52, 2), (55, 2)]) ?_
            refine S_lit2 (cs := []) (es := (List.map c_i64 ([] : List Int))) ok rfl ty_el_22 rfl (by kernel_rfl) (by kernel_rfl) ?_
            intro r44 hr44 ok
            refine S_m (v := .sl _ _ _) rfl ?_
            refine S_app (j := 0) ok rfl rfl rfl rfl hr44 ty_el_22 ty_ni_22 hF ?_
            intro r45 hr45 ok hF
            refine S_m (v := .int _ _) rfl ?_
            refine S_lit0 (cs := [.int .i64 a36]) (es := (List.map c_i64 [a36])) rfl ty_el_22 rfl (by kernel_rfl) (by kernel_rfl) ?_
            refine S_app (j := 0) ok rfl rfl rfl rfl hr45 ty_el_22 ty_ni_22 hF ?_
            intro r46 hr46 ok hF
            refine S_a (v := .sl _ _ _) rfl ?_
            refine S_one 12 (v := .sl 1 (List.map c_i64 ((([] : List Int) ++ p1) ++ [a36])) 0) (.zero _ _ _) ?_
            refine S_nil ?_
            refine C_seq ?_
            refine C_reg (mdl []) ?_
            refine S_ldQ rfl (p_agg (vs := c_T_api_Node p0) ty_ag_45 ty_sz_45 (by rw [c_T_api_Node_eq]; rfl) (by rw [c_T_api_Node_eq]; rfl)) ?_
            refine S_m (v := .sl _ _ _) rfl ?_
            refine S_bld (v := .agg (c_T_trail_Trail (⟨((([] : List Int) ++ p1) ++ [a36]), false, (⟨([] : List UInt8), ([] : List UInt8)⟩ : T_api_Name)⟩ : T_trail_Trail))) (b_st ty_zc_26 ty_pl_26 rfl) ?_
            refine S_call (F_trail_Value_ok _ hF fun x47 _ hF => ?_) (.cons (.refl _) (.cons (.refl _) (.nil)))
            refine S_m (v := .tup _) rfl ?_
            refine S_ext rfl rfl ?_
            refine S_ext rfl rfl ?_
            refine S_a (v := .str _) rfl ?_
            refine S_a (v := .int _ _) rfl ?_
            refine S_nil ?_
            refine C_seq ?_
            refine C_seq ?_
            refine C_reg (mdl []) ?_
            refine S_m (v := .int _ _) rfl ?_
            refine S_bin rfl rfl (ev_neq ..) ?_
            refine S_nil ?_
            refine C_if (b := (x47.2 != (0 : Int))) rfl hF (fun hb48 hF => ?_) (fun hb48 hF => ?_)
            ·
              refine C_seq ?_
              refine C_reg (mdl []) ?_
              refine S_a (v := .bool _) rfl ?_
              refine S_nil ?_
              refine WP_ret ?_
              replace hF := hG38 _ (F_some hF)
              repeat (first | with_reducible refine Exit.sel_ret ?_ | with_reducible refine Exit.blk_ret ?_)
              refine C_ret (fn := Tryd.f6) rfl (.tmp (v := .bool false) rfl .nil) ?_
              exact ⟨_, _, (.refl _), WH.refl _, _, F_some hF, rfl⟩
            ·
              refine WP_skip ?_
              refine C_join hF (fun (a51 : (List UInt8)) s' => OK h [(i43, .cells [.int .i64 x42.Kind, .str x42.Name.URI, .str x42.Name.Local, .sl 3 (List.map c_T_api_Attr x42.Attrs) 0, .sl 6 (List.map c_T_api_Node x42.Kids) 0, .str x42.Text])] ∧ WS s' ⟨mkSl 108 [(1, .sl 1 (List.map c_i64 p1) 0), (2, .iptr (c_T_api_Node p0)), (7, .str x9.1), (8, .int .i64 x9.2), (9, .str a51), (11, .ptr i43 0), (43, .sl 6 (List.map c_T_api_Node x3.1.Kids) 0), (44, .int .i64 (x3.1.Kids.length : Int)), (45, .int .i64 a36)], Hp h [(i43, .cells [.int .i64 x42.Kind, .str x42.Name.URI, .str x42.Name.Local, .sl 3 (List.map c_T_api_Attr x42.Attrs) 0, .sl 6 (List.map c_T_api_Node x42.Kids) 0, .str x42.Text])]⟩) (fun J52 hF => ?_) ?_
              ·
                refine C_seq ?_
                refine C_reg (mdl []) ?_
                refine S_faP rfl ty_fd_45_0 ty_sz_3 ?_
                refine S_ldP (j := 1) ok rfl rfl rfl hi43 (p_one (v := .int .i64 x42.Kind) ty_ag_3 ty_sz_3 rfl) ?_
                refine S_bin rfl rfl (ev_eql ..) ?_
                refine S_m (v := .bool _) rfl ?_
                refine S_two (b := (x42.Kind == (3 : Int))) 4 72 (.bool ((x42.Kind == (3 : Int)) || (x42.Kind == (2 : Int)))) (fun hb53 => ?_) (fun hb53 => ?_) ?_
                ·
                  refine S_off rfl rfl hb53 ?_
                  refine S_offD ?_
                  refine S_off rfl rfl hb53 ?_
                  refine S_offD ?_
                  refine S_off rfl rfl hb53 ?_
                  refine S_offD ?_
                  refine S_pickT (v := .bool _) rfl hb53 rfl ?_
                  refine S_nil ?_
                  refine .hd (or_t hb53) ?_
                  repeat (first | with_reducible exact WS.refl _ | refine WS.add ?_ rfl)
                ·
                  refine S_on rfl rfl hb53 ?_
                  refine S_in ?_
                  refine S_faP rfl ty_fd_45_0 ty_sz_3 ?_
                  refine S_nil ?_
                  refine S_on rfl rfl hb53 ?_
                  refine S_in ?_
                  refine S_ldP (j := 1) ok rfl rfl rfl hi43 (p_one (v := .int .i64 x42.Kind) ty_ag_3 ty_sz_3 rfl) ?_
                  refine S_nil ?_
                  refine S_on rfl rfl hb53 ?_
                  refine S_in ?_
                  refine S_bin rfl rfl (ev_eql ..) ?_
                  refine S_nil ?_
                  refine S_pickF (v := .bool _) rfl hb53 rfl ?_
                  refine S_nil ?_
                  refine .hd (or_f hb53) ?_
                  repeat (first | with_reducible exact WS.refl _ | refine WS.add ?_ rfl)
                refine S_nil ?_
                refine C_if (b := ((x42.Kind == (3 : Int)) || (x42.Kind == (2 : Int)))) rfl hF (fun hb54 hF => ?_) (fun hb54 hF => ?_)
                ·
                  refine C_reg (mdl []) ?_
                  refine S_m (v := .str _) rfl ?_
                  refine S_m (v := .str _) rfl ?_
                  refine S_cat rfl rfl hF (fun hF => ?_)
                  refine S_a (v := .str _) rfl ?_
                  refine S_nil ?_
                  have hwo : WO [(r46, .room), (i43, .cells [.int .i64 x42.Kind, .str x42.Name.URI, .str x42.Name.Local, .sl 3 (List.map c_T_api_Attr x42.Attrs) 0, .sl 6 (List.map c_T_api_Node x42.Kids) 0, .str x42.Text])] [(i43, .cells [.int .i64 x42.Kind, .str x42.Name.URI, .str x42.Name.Local, .sl 3 (List.map c_T_api_Attr x42.Attrs) 0, .sl 6 (List.map c_T_api_Node x42.Kids) 0, .str x42.Text])] := (.drop (.keep .nil))
                  exact ⟨(a35 ++ x47.1), hF, (hwo.spec ok).1, WS.mk' (.cons (.refl _) (.cons (.refl _) (.cons (.refl _) (.cons (.refl _) (.cons (.refl _) (.cons (.refl _) (.cons (.refl _) (.cons (.refl _) (.cons (.refl _) .nil))))))))) ok hwo⟩
                ·
                  refine WP_skip ?_
                  have hwo : WO [(r46, .room), (i43, .cells [.int .i64 x42.Kind, .str x42.Name.URI, .str x42.Name.Local, .sl 3 (List.map c_T_api_Attr x42.Attrs) 0, .sl 6 (List.map c_T_api_Node x42.Kids) 0, .str x42.Text])] [(i43, .cells [.int .i64 x42.Kind, .str x42.Name.URI, .str x42.Name.Local, .sl 3 (List.map c_T_api_Attr x42.Attrs) 0, .sl 6 (List.map c_T_api_Node x42.Kids) 0, .str x42.Text])] := (.drop (.keep .nil))
                  exact ⟨a35, hF, (hwo.spec ok).1, WS.mk' (.cons (.refl _) (.cons (.refl _) (.cons (.refl _) (.cons (.refl _) (.cons (.refl _) (.cons (.refl _) (.cons (.refl _) (.cons (.refl _) (.cons (.refl _) .nil))))))))) ok hwo⟩
              ·
                rintro a51 s' hF ⟨ok, hws⟩
                refine WP_ws hws ?_
                clear hws s'
                refine C_seq ?_
                refine C_reg (mdl []) ?_
                refine S_faP rfl ty_fd_45_0 ty_sz_3 ?_
                refine S_ldP (j := 0) ok rfl rfl rfl hi43 (p_one (v := .int .i64 x42.Kind) ty_ag_3 ty_sz_3 rfl) ?_
                refine S_bin rfl rfl (ev_eql ..) ?_
                refine S_m (v := .bool _) rfl ?_
                refine S_two (b := (x42.Kind == (1 : Int))) 20 99 (.bool ((x42.Kind == (1 : Int)) || ((((decide (x42.Kind < (1 : Int))) || (decide ((5 : Int) < x42.Kind))) || (x42.Kind != (2 : Int))) && (decide ((0 : Int) < (x42.Kids.length : Int)))))) (fun hb55 => ?_) (fun hb55 => ?_) ?_
                ·
                  refine S_off rfl rfl hb55 ?_
                  refine S_offD ?_
                  refine S_off rfl rfl hb55 ?_
                  refine S_offD ?_
                  refine S_off rfl rfl hb55 ?_
                  refine S_offD ?_
                  refine S_off rfl rfl hb55 ?_
                  refine S_offD ?_
                  refine S_off2 rfl rfl ?_
                  refine S_offD ?_
                  refine S_off2 rfl rfl ?_
                  refine S_offD ?_
                  refine S_off2 rfl rfl ?_
                  refine S_offD ?_
                  refine S_off rfl rfl hb55 ?_
                  refine S_offD ?_
                  refine S_off rfl rfl hb55 ?_
                  refine S_offD ?_
                  refine S_off2 rfl rfl ?_
                  refine S_offD ?_
                  refine S_off2 rfl rfl ?_
                  refine S_offD ?_
                  refine S_off2 rfl rfl ?_
                  refine S_offD ?_
                  refine S_off rfl rfl hb55 ?_
                  refine S_offD ?_
                  refine S_off rfl rfl hb55 ?_
                  refine S_offD ?_
                  refine S_off2 rfl rfl ?_
                  refine S_offD ?_
                  refine S_off2 rfl rfl ?_
                  refine S_offD ?_
                  refine S_off2 rfl rfl ?_
                  refine S_offD ?_
                  refine S_off2 rfl rfl ?_
                  refine S_offD ?_
                  refine S_off rfl rfl hb55 ?_
                  refine S_offD ?_
                  refine S_pickT (v := .bool _) rfl hb55 rfl ?_
                  refine S_nil ?_
                  refine .hd (or_t hb55) ?_
                  repeat (first | with_reducible exact WS.refl _ | refine WS.add ?_ rfl)
                ·
                  refine S_on rfl rfl hb55 ?_
                  refine S_in ?_
                  refine S_faP rfl ty_fd_45_0 ty_sz_3 ?_
                  refine S_nil ?_
                  refine S_on rfl rfl hb55 ?_
                  refine S_in ?_
                  refine S_ldP (j := 0) ok rfl rfl rfl hi43 (p_one (v := .int .i64 x42.Kind) ty_ag_3 ty_sz_3 rfl) ?_
                  refine S_nil ?_
                  refine S_on rfl rfl hb55 ?_
                  refine S_in ?_
                  refine S_bin rfl rfl (ev_lss ..) ?_
                  refine S_nil ?_
                  refine S_on rfl rfl hb55 ?_
                  refine S_in ?_
                  refine S_m (v := .bool _) rfl ?_
                  refine S_nil ?_
                  refine S_two (b := (decide (x42.Kind < (1 : Int)))) 4 87 (.bool ((decide (x42.Kind < (1 : Int))) || (decide ((5 : Int) < x42.Kind)))) (fun hb59 => ?_) (fun hb59 => ?_) ?_
                  ·
                    refine S_off rfl rfl hb59 ?_
                    refine S_offD ?_
                    refine S_off rfl rfl hb59 ?_
                    refine S_offD ?_
                    refine S_off rfl rfl hb59 ?_
                    refine S_offD ?_
                    refine S_on rfl rfl hb55 ?_
                    refine S_in ?_
                    refine S_pickT (v := .bool _) rfl hb59 rfl ?_
                    refine S_nil ?_
                    refine S_nil ?_
                    refine .hd (or_t hb59) ?_
                    repeat (first | with_reducible exact WS.refl _ | refine WS.add ?_ rfl)
                  ·
                    refine S_on rfl rfl hb59 ?_
                    refine S_in ?_
                    refine S_faP rfl ty_fd_45_0 ty_sz_3 ?_
                    refine S_nil ?_
                    refine S_on rfl rfl hb59 ?_
                    refine S_in ?_
                    refine S_ldP (j := 0) ok rfl rfl rfl hi43 (p_one (v := .int .i64 x42.Kind) ty_ag_3 ty_sz_3 rfl) ?_
                    refine S_nil ?_
                    refine S_on rfl rfl hb59 ?_
                    refine S_in ?_
                    refine S_bin rfl rfl (ev_gtr ..) ?_
                    refine S_nil ?_
                    refine S_on rfl rfl hb55 ?_
                    refine S_in ?_
                    refine S_pickF (v := .bool _) rfl hb59 rfl ?_
                    refine S_nil ?_
                    refine S_nil ?_
                    refine .hd (or_f hb59) ?_
                    repeat (first | with_reducible exact WS.refl _ | refine WS.add ?_ rfl)
                  refine S_on rfl rfl hb55 ?_
                  refine S_in ?_
                  refine S_m (v := .bool _) rfl ?_
                  refine S_nil ?_
                  refine S_two (b := ((decide (x42.Kind < (1 : Int))) || (decide ((5 : Int) < x42.Kind)))) 4 92 (.bool (((decide (x42.Kind < (1 : Int))) || (decide ((5 : Int) < x42.Kind))) || (x42.Kind != (2 : Int)))) (fun hb60 => ?_) (fun hb60 => ?_) ?_
                  ·
                    refine S_off rfl rfl hb60 ?_
                    refine S_offD ?_
                    refine S_off rfl rfl hb60 ?_
                    refine S_offD ?_
                    refine S_off rfl rfl hb60 ?_
                    refine S_offD ?_
                    refine S_on rfl rfl hb55 ?_
                    refine S_in ?_
                    refine S_pickT (v := .bool _) rfl hb60 rfl ?_
                    refine S_nil ?_
                    refine S_nil ?_
                    refine .hd (or_t hb60) ?_
                    repeat (first | with_reducible exact WS.refl _ | refine WS.add ?_ rfl)
                  ·
                    refine S_on rfl rfl hb60 ?_
                    refine S_in ?_
                    refine S_faP rfl ty_fd_45_0 ty_sz_3 ?_
                    refine S_nil ?_
                    refine S_on rfl rfl hb60 ?_
                    refine S_in ?_
                    refine S_ldP (j := 0) ok rfl rfl rfl hi43 (p_one (v := .int .i64 x42.Kind) ty_ag_3 ty_sz_3 rfl) ?_
                    refine S_nil ?_
                    refine S_on rfl rfl hb60 ?_
                    refine S_in ?_
                    refine S_bin rfl rfl (ev_neq ..) ?_
                    refine S_nil ?_
                    refine S_on rfl rfl hb55 ?_
                    refine S_in ?_
                    refine S_pickF (v := .bool _) rfl hb60 rfl ?_
                    refine S_nil ?_
                    refine S_nil ?_
                    refine .hd (or_f hb60) ?_
                    repeat (first | with_reducible exact WS.refl _ | refine WS.add ?_ rfl)
                  refine S_on rfl rfl hb55 ?_
                  refine S_in ?_
                  refine S_m (v := .bool _) rfl ?_
                  refine S_nil ?_
                  refine S_two (b := (((decide (x42.Kind < (1 : Int))) || (decide ((5 : Int) < x42.Kind))) || (x42.Kind != (2 : Int)))) 5 98 (.bool ((((decide (x42.Kind < (1 : Int))) || (decide ((5 : Int) < x42.Kind))) || (x42.Kind != (2 : Int))) && (decide ((0 : Int) < (x42.Kids.length : Int))))) (fun hb61 => ?_) (fun hb61 => ?_) ?_
                  ·
                    refine S_on rfl rfl hb61 ?_
                    refine S_in ?_
                    refine S_faP rfl ty_fd_45_3 ty_sz_43 ?_
                    refine S_nil ?_
                    refine S_on rfl rfl hb61 ?_
                    refine S_in ?_
                    refine S_ldP (j := 0) ok rfl rfl rfl hi43 (p_one (v := .sl 6 (List.map c_T_api_Node x42.Kids) 0) ty_ag_43 ty_sz_43 rfl) ?_
                    refine S_nil ?_
                    refine S_on rfl rfl hb61 ?_
                    refine S_in ?_
                    refine S_lenL rfl ty_sl_43 ?_
                    refine S_nil ?_
                    refine S_on rfl rfl hb61 ?_
                    refine S_in ?_
                    refine S_bin rfl rfl (ev_gtr ..) ?_
                    refine S_nil ?_
                    refine S_on rfl rfl hb55 ?_
                    refine S_in ?_
                    refine S_pickT (v := .bool _) rfl hb61 rfl ?_
                    refine S_nil ?_
                    refine S_nil ?_
                    refine .hd (and_t hb61) ?_
                    repeat (first | with_reducible exact WS.refl _ | refine WS.add ?_ rfl)
                  ·
                    refine S_off rfl rfl hb61 ?_
                    refine S_offD ?_
                    refine S_off rfl rfl hb61 ?_
                    refine S_offD ?_
                    refine S_off rfl rfl hb61 ?_
                    refine S_offD ?_
                    refine S_off rfl rfl hb61 ?_
                    refine S_offD ?_
                    refine S_on rfl rfl hb55 ?_
                    refine S_in ?_
                    refine S_pickF (v := .bool _) rfl hb61 rfl ?_
                    refine S_nil ?_
                    refine S_nil ?_
                    refine .hd (and_f hb61) ?_
                    repeat (first | with_reducible exact WS.refl _ | refine WS.add ?_ rfl)
                  refine S_pickF (v := .bool _) rfl hb55 rfl ?_
                  refine S_nil ?_
                  refine .hd (or_f hb55) ?_
                  repeat (first | with_reducible exact WS.refl _ | refine WS.add ?_ rfl)
                refine S_nil ?_
                refine C_if (b := ((x42.Kind == (1 : Int)) || ((((decide (x42.Kind < (1 : Int))) || (decide ((5 : Int) < x42.Kind))) || (x42.Kind != (2 : Int))) && (decide ((0 : Int) < (x42.Kids.length : Int)))))) rfl hF (fun hb62 hF => ?_) (fun hb62 hF => ?_)
                ·
                  refine C_seq ?_
                  refine C_reg (mdl []) ?_
                  refine S_a (v := .bool _) rfl ?_
                  refine S_nil ?_
                  refine WP_ret ?_
                  replace hF := hG38 _ (F_some hF)
                  repeat (first | with_reducible refine Exit.sel_ret ?_ | with_reducible refine Exit.blk_ret ?_)
                  refine C_ret (fn := Tryd.f6) rfl (.tmp (v := .bool true) rfl .nil) ?_
                  exact ⟨_, _, (.refl _), WH.refl _, _, F_some hF, rfl⟩
                ·
                  refine WP_skip ?_
                  refine C_reg (mdl []) ?_
                  refine S_bin rfl rfl (ev_add ..) ?_
                  refine S_m (v := .int _ _) rfl ?_
                  refine S_nil ?_
                  refine ih40 (a51, (IntKind.wrap .i64 (a36 + (1 : Int)))) _ hF ?_
                  have hwo : WO [(i43, .cells [.int .i64 x42.Kind, .str x42.Name.URI, .str x42.Name.Local, .sl 3 (List.map c_T_api_Attr x42.Attrs) 0, .sl 6 (List.map c_T_api_Node x42.Kids) 0, .str x42.Text])] [] := (.drop .nil)
                  exact ⟨(hwo.spec ok).1, WS.mk' (.cons (.refl _) (.cons (.refl _) (.cons (.refl _) (.cons (.refl _) (.cons (.refl _) (.cons (.refl _) (.cons (.refl _) (.cons (.refl _) .nil)))))))) ok hwo⟩
          ·
            refine WP_exit ?_
            simp only [Exit.sel, Exit.blk, if_true, if_false, reduceIte, Nat.reduceEqDiff, Nat.succ_ne_zero, Nat.zero_ne_one, Nat.one_ne_zero]
            replace hF := hG38 _ (F_some hF)
            have hwo : WO [] [] := .nil
            exact ⟨a35, hF, (hwo.spec ok).1, WS.mk' (.cons (.refl _) (.cons (.refl _) (.cons (.refl _) .nil))) ok hwo⟩
      ·
        rintro a33 s' hF ⟨ok, hws⟩
        refine WP_ws hws ?_
        clear hws s'
        refine C_seq ?_
        refine C_reg (mdl []) ?_
        refine S_m (v := .int _ _) rfl ?_
        refine S_bin rfl rfl (ev_eql ..) ?_
        refine S_m (v := .bool _) rfl ?_
        refine S_two (b := (x9.2 == (0 : Int))) 4 107 (.bool ((x9.2 == (0 : Int)) && (x9.1 == a33))) (fun hb63 => ?_) (fun hb63 => ?_) ?_
        ·
          refine S_on rfl rfl hb63 ?_
          refine S_in ?_
          refine S_m (v := .str _) rfl ?_
          refine S_nil ?_
          refine S_on rfl rfl hb63 ?_
          refine S_in ?_
          refine S_m (v := .str _) rfl ?_
          refine S_nil ?_
          refine S_on rfl rfl hb63 ?_
          refine S_in ?_
          refine S_bin rfl rfl e_seql ?_
          refine S_nil ?_
          refine S_pickT (v := .bool _) rfl hb63 rfl ?_
          refine S_nil ?_
          refine .hd (and_t hb63) ?_
          repeat (first | with_reducible exact WS.refl _ | refine WS.add ?_ rfl)
        ·
          refine S_off rfl rfl hb63 ?_
          refine S_offD ?_
          refine S_off rfl rfl hb63 ?_
          refine S_offD ?_
          refine S_off rfl rfl hb63 ?_
          refine S_offD ?_
          refine S_pickF (v := .bool _) rfl hb63 rfl ?_
          refine S_nil ?_
          refine .hd (and_f hb63) ?_
          repeat (first | with_reducible exact WS.refl _ | refine WS.add ?_ rfl)
        refine S_a (v := .bool _) rfl ?_
        refine S_nil ?_
        refine WP_ret ?_
        repeat (first | with_reducible refine Exit.sel_ret ?_ | with_reducible refine Exit.blk_ret ?_)
        refine C_ret (fn := Tryd.f6) rfl (.tmp (v := .bool ((x9.2 == (0 : Int)) && (x9.1 == a33))) rfl .nil) ?_
        exact ⟨_, _, (.refl _), WH.refl _, _, F_some hF, rfl⟩
theorem F_slices_Equal_int_int_w (p0 : List Int) (p1 : List Int) {G : Bool → Prop} (h : Heap) (hF : OptP (F_slices_Equal_int_int p0 p1) G) : CallsA Tryd.prog 40 [.sl 1 (List.map c_i64 p0) 0, .sl 1 (List.map c_i64 p1) 0] h fun d h' => ∃ r, G r ∧ d = .bool r ∧ h' = h := by
  refine CallsA.ret ?_
  refine C_body Tryd.func40 rfl en_40 Tryd.ntmps40 rfl (fun ok => ?_)
  rw [F_slices_Equal_int_int] at hF
  refine C_seq ?_
  refine C_reg (mdl []) ?_
  refine S_a (v := .bool _) rfl ?_
  refine S_nil ?_
  refine C_seq ?_
  refine C_seq ?_
  refine C_reg (mdl []) ?_
  refine S_m (v := .sl _ _ _) rfl ?_
  refine S_lenL rfl ty_sl_22 ?_
  refine S_m (v := .sl _ _ _) rfl ?_
  refine S_lenL rfl ty_sl_22 ?_
  refine S_bin rfl rfl (ev_neq ..) ?_
  refine S_nil ?_
  refine C_if (b := ((p0.length : Int) != (p1.length : Int))) rfl hF (fun hb1 hF => ?_) (fun hb1 hF => ?_)
  ·
    refine C_seq ?_
    refine C_reg (mdl []) ?_
    refine S_a (v := .bool _) rfl ?_
    refine S_nil ?_
    refine WP_ret ?_
    repeat (first | with_reducible refine Exit.sel_ret ?_ | with_reducible refine Exit.blk_ret ?_)
    refine C_ret (fn := Tryd.f40) rfl (.tmp (v := .bool false) rfl .nil) ?_
    exact ⟨_, _, (.refl _), ok.wh, _, F_some hF, rfl, rfl⟩
  ·
    refine WP_skip ?_
    refine C_join hF (fun (_ : Unit) s' => OK h [] ∧ WS s' ⟨mkSl 26 [], Hp h []⟩) (fun J7 hF => ?_) ?_
    ·
      refine C_seq ?_
      refine C_reg (mdl []) ?_
      refine S_m (v := .sl _ _ _) rfl ?_
      refine S_lenL rfl ty_sl_22 ?_
      refine S_m (v := .int _ _) rfl ?_
      refine S_nil ?_
      refine WP_block ?_
      refine C_loop (σ := Int) hF (fun (a8 : Int) s' => OK h [] ∧ WS s' ⟨mkSl 26 [(0, .sl 1 (List.map c_i64 p0) 0), (1, .sl 1 (List.map c_i64 p1) 0), (12, .int .i64 (p0.length : Int)), (13, .int .i64 a8)], Hp h []⟩) ?_ ?_
      ·
        have hwo : WO [] [] := .nil
        exact ⟨(hwo.spec ok).1, WS.mk' (.cons (.refl _) (.cons (.refl _) (.cons (.refl _) (.cons (.refl _) .nil)))) ok hwo⟩
      ·
        rintro G9 hG10 rec11 a8 s' ih12 hF ⟨ok, hws⟩
        refine WP_ws hws ?_
        clear hws s'
        rw [F_slices_Equal_int_int_l0] at hF
        refine C_seq ?_
        refine C_reg (mdl []) ?_
        refine S_bin rfl rfl (ev_lss ..) ?_
        refine S_nil ?_
        refine C_seq ?_
        refine C_if (b := (decide (a8 < (p0.length : Int)))) rfl hF (fun hb13 hF => ?_) (fun hb13 hF => ?_)
        ·
          refine WP_skip ?_
          refine C_seq ?_
          refine WP_block ?_
          refine C_seq ?_
          refine C_reg (mdl []) ?_
          refine S_m (v := .int _ _) rfl ?_
          refine S_a (v := .int _ _) rfl ?_
          refine S_nil ?_
          refine C_seq ?_
          refine C_drw (mdl [(19, 3), (23, 3)]) (by kernel_rfl) (by kernel_rfl) ?_
          refine S_m (v := .sl _ _ _) rfl ?_
          refine S_m (v := .int _ _) rfl ?_
          refine S_ix rfl rfl ty_sl_22 ty_sz_3 hF (fun x14 _ hF => ?_)
          refine S_ldQ rfl (p_one ty_ag_3 ty_sz_3 rfl) ?_
          refine S_m (v := .sl _ _ _) rfl ?_
          refine S_m (v := .int _ _) rfl ?_
          refine S_ix rfl rfl ty_sl_22 ty_sz_3 hF (fun x15 _ hF => ?_)
          refine S_ldQ rfl (p_one ty_ag_3 ty_sz_3 rfl) ?_
          refine S_bin rfl rfl (ev_neq ..) ?_
          refine S_nil ?_
          refine C_if (b := (x14 != x15)) rfl hF (fun hb16 hF => ?_) (fun hb16 hF => ?_)
          ·
            refine C_seq ?_
            refine C_reg (mdl []) ?_
            refine S_a (v := .bool _) rfl ?_
            refine S_nil ?_
            refine WP_ret ?_
            replace hF := hG10 _ (F_some hF)
            repeat (first | with_reducible refine Exit.sel_ret ?_ | with_reducible refine Exit.blk_ret ?_)
            refine C_ret (fn := Tryd.f40) rfl (.tmp (v := .bool false) rfl .nil) ?_
            exact ⟨_, _, (.refl _), ok.wh, _, F_some hF, rfl, rfl⟩
          ·
            refine WP_skip ?_
            refine C_reg (mdl []) ?_
            refine S_bin rfl rfl (ev_add ..) ?_
            refine S_m (v := .int _ _) rfl ?_
            refine S_nil ?_
            refine ih12 (IntKind.wrap .i64 (a8 + (1 : Int))) _ hF ?_
            have hwo : WO [] [] := .nil
            exact ⟨(hwo.spec ok).1, WS.mk' (.cons (.refl _) (.cons (.refl _) (.cons (.refl _) (.cons (.refl _) .nil)))) ok hwo⟩
        ·
          refine WP_exit ?_
          simp only [Exit.sel, Exit.blk, if_true, if_false, reduceIte, Nat.reduceEqDiff, Nat.succ_ne_zero, Nat.zero_ne_one, Nat.one_ne_zero]
          replace hF := hG10 _ (F_some hF)
          have hwo : WO [] [] := .nil
          exact ⟨(), hF, (hwo.spec ok).1, WS.mk' .nil ok hwo⟩
    ·
      rintro ⟨⟩ s' hF ⟨ok, hws⟩
      refine WP_ws hws ?_
      clear hws s'
      refine C_seq ?_
      refine C_reg (mdl []) ?_
      refine S_a (v := .bool _) rfl ?_
      refine S_nil ?_
      refine WP_ret ?_
      repeat (first | with_reducible refine Exit.sel_ret ?_ | with_reducible refine Exit.blk_ret ?_)
      refine C_ret (fn := Tryd.f40) rfl (.tmp (v := .bool true) rfl .nil) ?_
      exact ⟨_, _, (.refl _), ok.wh, _, F_some hF, rfl, rfl⟩
theorem F_slices_Equal_int_int_ok {β : Type} {f : Bool → Option β} {G : β → Prop} {R : D → Heap → Prop} {p0 : List Int} {p1 : List Int} (h : Heap) (hF : OptP ((F_slices_Equal_int_int p0 p1).bind f) G) (hk : ∀ r, F_slices_Equal_int_int p0 p1 = some r → OptP (f r) G → R (.bool r) h) : CallsA Tryd.prog 40 [.sl 1 (List.map c_i64 p0) 0, .sl 1 (List.map c_i64 p1) 0] h R := by
  obtain ⟨r0, hr, hF⟩ := F_bind hF
  refine (F_slices_Equal_int_int_w (G := fun r => r = r0) p0 p1 h ⟨r0, hr, rfl⟩).mono ?_
  rintro _ _ ⟨r, rfl, rfl, rfl⟩
  exact hk _ hr hF
theorem F_trail_Under_w (p0 : T_trail_Trail) (p1 : T_trail_Trail) {G : Bool → Prop} (h : Heap) (hF : OptP (F_trail_Under p0 p1) G) : CallsA Tryd.prog 21 [.agg (c_T_trail_Trail p0), .agg (c_T_trail_Trail p1)] h fun d h' => ∃ r, G r ∧ d = .bool r ∧ h' = h := by
  refine CallsA.ret ?_
  refine C_body Tryd.func21 rfl en_21 Tryd.ntmps21 rfl (fun ok => ?_)
  rw [F_trail_Under] at hF
  refine C_seq ?_
  refine C_reg (mdl []) ?_
  refine S_box0 rfl rfl rfl rfl ?_
  refine S_box0 rfl rfl rfl rfl ?_
  refine S_a (v := .bool _) rfl ?_
  refine S_nil ?_
  refine C_seq ?_
  refine C_seq ?_
  refine C_reg (mdl []) ?_
  refine S_faQ rfl ty_fd_26_1 ty_sz_4 rfl ?_
  refine S_ldQ rfl (p_one ty_ag_4 ty_sz_4 rfl) ?_
  refine S_nil ?_
  refine C_if (b := p0.Attr) rfl hF (fun hb1 hF => ?_) (fun hb1 hF => ?_)
  ·
    refine C_seq ?_
    refine C_reg (mdl []) ?_
    refine S_ldQ rfl (p_agg (vs := c_T_trail_Trail p0) ty_ag_26 ty_sz_26 rfl rfl) ?_
    refine S_ldQ rfl (p_agg (vs := c_T_trail_Trail p1) ty_ag_26 ty_sz_26 rfl rfl) ?_
    refine S_call (F_trail_Compare_ok _ hF fun x2 _ hF => ?_) (.cons (.refl _) (.cons (.refl _) (.nil)))
    refine S_bin rfl rfl (ev_eql ..) ?_
    refine S_a (v := .bool _) rfl ?_
    refine S_nil ?_
    refine WP_ret ?_
    repeat (first | with_reducible refine Exit.sel_ret ?_ | with_reducible refine Exit.blk_ret ?_)
    refine C_ret (fn := Tryd.f21) rfl (.tmp (v := .bool (x2 == (0 : Int))) rfl .nil) ?_
    exact ⟨_, _, (.refl _), ok.wh, _, F_some hF, rfl, rfl⟩
  ·
    refine WP_skip ?_
    refine C_join hF (fun (a7 : Bool) s' => OK h [] ∧ WS s' ⟨mkSl 29 [(4, .bool a7)], Hp h []⟩) (fun J8 hF => ?_) ?_
    ·
      refine C_drw (mdl [(12, 3), (15, 3), (20, 3), (22, 3), (24, 3)]) (by kernel_rfl) (by kernel_rfl) ?_
      refine S_faQ rfl ty_fd_26_0 ty_sz_22 rfl ?_
      refine S_ldQ rfl (p_one ty_ag_22 ty_sz_22 rfl) ?_
      refine S_lenL rfl ty_sl_22 ?_
      refine S_faQ rfl ty_fd_26_0 ty_sz_22 rfl ?_
      refine S_ldQ rfl (p_one ty_ag_22 ty_sz_22 rfl) ?_
      refine S_lenL rfl ty_sl_22 ?_
      refine S_bin rfl rfl (ev_geq ..) ?_
      refine S_m (v := .bool _) rfl ?_
      refine S_if (b := (decide ((p0.Steps.length : Int) ≤ (p1.Steps.length : Int)))) hF (fun hb9 hF => ?_) (fun hb10 hF => ?_)
      ·
        refine S_on rfl rfl hb9 ?_
        refine S_in ?_
        refine S_faQ rfl ty_fd_26_0 ty_sz_22 rfl ?_
        refine S_nil ?_
        refine S_on rfl rfl hb9 ?_
        refine S_in ?_
        refine S_ldQ rfl (p_one ty_ag_22 ty_sz_22 rfl) ?_
        refine S_nil ?_
        refine S_on rfl rfl hb9 ?_
        refine S_in ?_
        refine S_faQ rfl ty_fd_26_0 ty_sz_22 rfl ?_
        refine S_nil ?_
        refine S_on rfl rfl hb9 ?_
        refine S_in ?_
        refine S_ldQ rfl (p_one ty_ag_22 ty_sz_22 rfl) ?_
        refine S_nil ?_
        refine S_on rfl rfl hb9 ?_
        refine S_in ?_
        refine S_faQ rfl ty_fd_26_0 ty_sz_22 rfl ?_
        refine S_nil ?_
        refine S_on rfl rfl hb9 ?_
        refine S_in ?_
        refine S_ldQ rfl (p_one ty_ag_22 ty_sz_22 rfl) ?_
        refine S_nil ?_
        refine S_on rfl rfl hb9 ?_
        refine S_in ?_
        refine S_lenL rfl ty_sl_22 ?_
        refine S_nil ?_
        refine S_on rfl rfl hb9 ?_
        refine S_in ?_
        refine S_slL rfl ty_sl_22 ty_sz_3 bd_no (bd_at rfl) hF (fun x11 _ hF => ?_)
        refine S_nil ?_
        refine S_on rfl rfl hb9 ?_
        refine S_in ?_
        refine S_call (F_slices_Equal_int_int_ok _ hF fun x12 _ hF => ?_) (.cons (.refl _) (.cons (.refl _) (.nil)))
        refine S_nil ?_
        refine S_pickT (v := .bool _) rfl hb9 rfl ?_
        refine S_a (v := .bool _) rfl ?_
        refine S_nil ?_
        have hwo : WO [] [] := .nil
        exact ⟨x12, hF, (hwo.spec ok).1, WS.mk' (.cons (.refl _) .nil) ok hwo⟩
      ·
        refine S_off rfl rfl hb10 ?_
        refine S_offD ?_
        refine S_off rfl rfl hb10 ?_
        refine S_offD ?_
        refine S_off rfl rfl hb10 ?_
        refine S_offD ?_
        refine S_off rfl rfl hb10 ?_
        refine S_offD ?_
        refine S_off rfl rfl hb10 ?_
        refine S_offD ?_
        refine S_off rfl rfl hb10 ?_
        refine S_offD ?_
        refine S_off rfl rfl hb10 ?_
        refine S_offD ?_
        refine S_off rfl rfl hb10 ?_
        refine S_offD ?_
        refine S_off rfl rfl hb10 ?_
        refine S_offD ?_
        refine S_pickF (v := .bool _) rfl hb10 rfl ?_
        refine S_a (v := .bool _) rfl ?_
        refine S_nil ?_
        have hwo : WO [] [] := .nil
        exact ⟨false, hF, (hwo.spec ok).1, WS.mk' (.cons (.refl _) .nil) ok hwo⟩
    ·
      rintro a7 s' hF ⟨ok, hws⟩
      refine WP_ws hws ?_
      clear hws s'
      refine WP_ret ?_
      repeat (first | with_reducible refine Exit.sel_ret ?_ | with_reducible refine Exit.blk_ret ?_)
      refine C_ret (fn := Tryd.f21) rfl (.tmp (v := .bool a7) rfl .nil) ?_
      exact ⟨_, _, (.refl _), ok.wh, _, F_some hF, rfl, rfl⟩
theorem F_trail_Under_ok {β : Type} {f : Bool → Option β} {G : β → Prop} {R : D → Heap → Prop} {p0 : T_trail_Trail} {p1 : T_trail_Trail} (h : Heap) (hF : OptP ((F_trail_Under p0 p1).bind f) G) (hk : ∀ r, F_trail_Under p0 p1 = some r → OptP (f r) G → R (.bool r) h) : CallsA Tryd.prog 21 [.agg (c_T_trail_Trail p0), .agg (c_T_trail_Trail p1)] h R := by
  obtain ⟨r0, hr, hF⟩ := F_bind hF
  refine (F_trail_Under_w (G := fun r => r = r0) p0 p1 h ⟨r0, hr, rfl⟩).mono ?_
  rintro _ _ ⟨r, rfl, rfl, rfl⟩
  exact hk _ hr hF
theorem F_lecternlaw08_TrailOrders_w (p0 : T_trail_Trail) (p1 : T_trail_Trail) (p2 : T_trail_Trail) {G : Bool → Prop} (h : Heap) (hF : OptP (F_lecternlaw08_TrailOrders p0 p1 p2) G) : CallsA Tryd.prog 7 [.agg (c_T_trail_Trail p0), .agg (c_T_trail_Trail p1), .agg (c_T_trail_Trail p2)] h fun d h' => ∃ r, G r ∧ d = .bool r := by
  refine CallsA.ret ?_
  refine C_body Tryd.func7 rfl en_7 Tryd.ntmps7 rfl (fun ok => ?_)
  rw [F_lecternlaw08_TrailOrders] at hF
  refine C_seq ?_
  refine C_reg (mdl []) ?_
  refine S_box0 rfl rfl rfl rfl ?_
  refine S_box0 rfl rfl rfl rfl ?_
  refine S_box0 rfl rfl rfl rfl ?_
  refine S_a (v := .bool _) rfl ?_
  refine S_nil ?_
  refine C_seq ?_
  refine C_seq ?_
  refine C_reg (mdl []) ?_
  refine S_call (F_lecternlaw08_awake_ok _ hF fun x1 _ hF => ?_) (.nil)
  refine S_un rfl (ev_not _) ?_
  refine S_nil ?_
  refine C_if (b := (!x1)) rfl hF (fun hb2 hF => ?_) (fun hb2 hF => ?_)
  ·
    refine C_seq ?_
    refine C_reg (mdl []) ?_
    refine S_a (v := .bool _) rfl ?_
    refine S_nil ?_
    refine WP_ret ?_
    repeat (first | with_reducible refine Exit.sel_ret ?_ | with_reducible refine Exit.blk_ret ?_)
    refine C_ret (fn := Tryd.f7) rfl (.tmp (v := .bool false) rfl .nil) ?_
    exact ⟨_, _, (.refl _), WH.refl _, _, F_some hF, rfl⟩
  ·
    refine WP_skip ?_
    refine C_seq ?_
    refine C_plan (mdl [(12, 3), (13, 3), (15, 3), (16, 3), (18, 3), (19, 3)]) [0, 1, 3, 4, 6, 7, 2, 5, 8, 9, 10, 11] [_, _, _, _, _, _, _, _, _, _, _, _] (by kernel_rfl) rfl rfl (by kernel_rfl) ?_
    refine S_ldQ rfl (p_agg (vs := c_T_trail_Trail p0) ty_ag_26 ty_sz_26 rfl rfl) ?_
    refine S_ldQ rfl (p_agg (vs := c_T_trail_Trail p1) ty_ag_26 ty_sz_26 rfl rfl) ?_
    refine S_ldQ rfl (p_agg (vs := c_T_trail_Trail p1) ty_ag_26 ty_sz_26 rfl rfl) ?_
    refine S_ldQ rfl (p_agg (vs := c_T_trail_Trail p2) ty_ag_26 ty_sz_26 rfl rfl) ?_
    refine S_ldQ rfl (p_agg (vs := c_T_trail_Trail p0) ty_ag_26 ty_sz_26 rfl rfl) ?_
    refine S_ldQ rfl (p_agg (vs := c_T_trail_Trail p2) ty_ag_26 ty_sz_26 rfl rfl) ?_
    refine S_call (F_trail_Compare_ok _ hF fun x3 _ hF => ?_) (.cons (.refl _) (.cons (.refl _) (.nil)))
    refine S_call (F_trail_Compare_ok _ hF fun x4 _ hF => ?_) (.cons (.refl _) (.cons (.refl _) (.nil)))
    refine S_call (F_trail_Compare_ok _ hF fun x5 _ hF => ?_) (.cons (.refl _) (.cons (.refl _) (.nil)))
    refine S_a (v := .int _ _) rfl ?_
    refine S_a (v := .int _ _) rfl ?_
    refine S_a (v := .int _ _) rfl ?_
    refine S_nil ?_
    refine C_seq ?_
    refine C_seq ?_
    refine C_reg (mdl []) ?_
    refine S_m (v := .int _ _) rfl ?_
    refine S_ldQ rfl (p_agg (vs := c_T_trail_Trail p1) ty_ag_26 ty_sz_26 rfl rfl) ?_
    refine S_ldQ rfl (p_agg (vs := c_T_trail_Trail p0) ty_ag_26 ty_sz_26 rfl rfl) ?_
    refine S_call (F_trail_Compare_ok _ hF fun x6 _ hF => ?_) (.cons (.refl _) (.cons (.refl _) (.nil)))
    refine S_un rfl (ev_neg ..) ?_
    refine S_bin rfl rfl (ev_neq ..) ?_
    refine S_m (v := .bool _) rfl ?_
    refine S_two (b := (x3 != (IntKind.wrap .i64 (0 - x6)))) 11 38 (.bool ((x3 != (IntKind.wrap .i64 (0 - x6))) || (((decide (x3 ≤ (0 : Int))) && (decide (x4 ≤ (0 : Int)))) && (decide ((0 : Int) < x5))))) (fun hb7 => ?_) (fun hb7 => ?_) ?_
    ·
      refine S_off rfl rfl hb7 ?_
      refine S_offD ?_
      refine S_off rfl rfl hb7 ?_
      refine S_offD ?_
      refine S_off rfl rfl hb7 ?_
      refine S_offD ?_
      refine S_off2 rfl rfl ?_
      refine S_offD ?_
      refine S_off2 rfl rfl ?_
      refine S_offD ?_
      refine S_off rfl rfl hb7 ?_
      refine S_offD ?_
      refine S_off rfl rfl hb7 ?_
      refine S_offD ?_
      refine S_off2 rfl rfl ?_
      refine S_offD ?_
      refine S_off2 rfl rfl ?_
      refine S_offD ?_
      refine S_off rfl rfl hb7 ?_
      refine S_offD ?_
      refine S_pickT (v := .bool _) rfl hb7 rfl ?_
      refine S_nil ?_
      refine .hd (or_t hb7) ?_
      repeat (first | with_reducible exact WS.refl _ | refine WS.add ?_ rfl)
    ·
      refine S_on rfl rfl hb7 ?_
      refine S_in ?_
      refine S_m (v := .int _ _) rfl ?_
      refine S_nil ?_
      refine S_on rfl rfl hb7 ?_
      refine S_in ?_
      refine S_bin rfl rfl (ev_leq ..) ?_
      refine S_nil ?_
      refine S_on rfl rfl hb7 ?_
      refine S_in ?_
      refine S_m (v := .bool _) rfl ?_
      refine S_nil ?_
      refine S_two (b := (decide (x3 ≤ (0 : Int)))) 3 33 (.bool ((decide (x3 ≤ (0 : Int))) && (decide (x4 ≤ (0 : Int))))) (fun hb10 => ?_) (fun hb10 => ?_) ?_
      ·
        refine S_on rfl rfl hb10 ?_
        refine S_in ?_
        refine S_m (v := .int _ _) rfl ?_
        refine S_nil ?_
        refine S_on rfl rfl hb10 ?_
        refine S_in ?_
        refine S_bin rfl rfl (ev_leq ..) ?_
        refine S_nil ?_
        refine S_on rfl rfl hb7 ?_
        refine S_in ?_
        refine S_pickT (v := .bool _) rfl hb10 rfl ?_
        refine S_nil ?_
        refine S_nil ?_
        refine .hd (and_t hb10) ?_
        repeat (first | with_reducible exact WS.refl _ | refine WS.add ?_ rfl)
      ·
        refine S_off rfl rfl hb10 ?_
        refine S_offD ?_
        refine S_off rfl rfl hb10 ?_
        refine S_offD ?_
        refine S_on rfl rfl hb7 ?_
        refine S_in ?_
        refine S_pickF (v := .bool _) rfl hb10 rfl ?_
        refine S_nil ?_
        refine S_nil ?_
        refine .hd (and_f hb10) ?_
        repeat (first | with_reducible exact WS.refl _ | refine WS.add ?_ rfl)
      refine S_on rfl rfl hb7 ?_
      refine S_in ?_
      refine S_m (v := .bool _) rfl ?_
      refine S_nil ?_
      refine S_two (b := ((decide (x3 ≤ (0 : Int))) && (decide (x4 ≤ (0 : Int))))) 3 37 (.bool (((decide (x3 ≤ (0 : Int))) && (decide (x4 ≤ (0 : Int)))) && (decide ((0 : Int) < x5)))) (fun hb11 => ?_) (fun hb11 => ?_) ?_
      ·
        refine S_on rfl rfl hb11 ?_
        refine S_in ?_
        refine S_m (v := .int _ _) rfl ?_
        refine S_nil ?_
        refine S_on rfl rfl hb11 ?_
        refine S_in ?_
        refine S_bin rfl rfl (ev_gtr ..) ?_
        refine S_nil ?_
        refine S_on rfl rfl hb7 ?_
        refine S_in ?_
        refine S_pickT (v := .bool _) rfl hb11 rfl ?_
        refine S_nil ?_
        refine S_nil ?_
        refine .hd (and_t hb11) ?_
        repeat (first | with_reducible exact WS.refl _ | refine WS.add ?_ rfl)
      ·
        refine S_off rfl rfl hb11 ?_
        refine S_offD ?_
        refine S_off rfl rfl hb11 ?_
        refine S_offD ?_
        refine S_on rfl rfl hb7 ?_
        refine S_in ?_
        refine S_pickF (v := .bool _) rfl hb11 rfl ?_
        refine S_nil ?_
        refine S_nil ?_
        refine .hd (and_f hb11) ?_
        repeat (first | with_reducible exact WS.refl _ | refine WS.add ?_ rfl)
      refine S_pickF (v := .bool _) rfl hb7 rfl ?_
      refine S_nil ?_
      refine .hd (or_f hb7) ?_
      repeat (first | with_reducible exact WS.refl _ | refine WS.add ?_ rfl)
    refine S_m (v := .bool _) rfl ?_
    refine S_two (b := ((x3 != (IntKind.wrap .i64 (0 - x6))) || (((decide (x3 ≤ (0 : Int))) && (decide (x4 ≤ (0 : Int)))) && (decide ((0 : Int) < x5))))) 11 50 (.bool (((x3 != (IntKind.wrap .i64 (0 - x6))) || (((decide (x3 ≤ (0 : Int))) && (decide (x4 ≤ (0 : Int)))) && (decide ((0 : Int) < x5)))) || (((decide ((0 : Int) ≤ x3)) && (decide ((0 : Int) ≤ x4))) && (decide (x5 < (0 : Int)))))) (fun hb12 => ?_) (fun hb12 => ?_) ?_
    ·
      refine S_off rfl rfl hb12 ?_
      refine S_offD ?_
      refine S_off rfl rfl hb12 ?_
      refine S_offD ?_
      refine S_off rfl rfl hb12 ?_
      refine S_offD ?_
      refine S_off2 rfl rfl ?_
      refine S_offD ?_
      refine S_off2 rfl rfl ?_
      refine S_offD ?_
      refine S_off rfl rfl hb12 ?_
      refine S_offD ?_
      refine S_off rfl rfl hb12 ?_
      refine S_offD ?_
      refine S_off2 rfl rfl ?_
      refine S_offD ?_
      refine S_off2 rfl rfl ?_
      refine S_offD ?_
      refine S_off rfl rfl hb12 ?_
      refine S_offD ?_
      refine S_pickT (v := .bool _) rfl hb12 rfl ?_
      refine S_nil ?_
      refine .hd (or_t hb12) ?_
      repeat (first | with_reducible exact WS.refl _ | refine WS.add ?_ rfl)
    ·
      refine S_on rfl rfl hb12 ?_
      refine S_in ?_
      refine S_m (v := .int _ _) rfl ?_
      refine S_nil ?_
      refine S_on rfl rfl hb12 ?_
      refine S_in ?_
      refine S_bin rfl rfl (ev_geq ..) ?_
      refine S_nil ?_
      refine S_on rfl rfl hb12 ?_
      refine S_in ?_
      refine S_m (v := .bool _) rfl ?_
      refine S_nil ?_
      refine S_two (b := (decide ((0 : Int) ≤ x3))) 3 45 (.bool ((decide ((0 : Int) ≤ x3)) && (decide ((0 : Int) ≤ x4)))) (fun hb15 => ?_) (fun hb15 => ?_) ?_
      ·
        refine S_on rfl rfl hb15 ?_
        refine S_in ?_
        refine S_m (v := .int _ _) rfl ?_
        refine S_nil ?_
        refine S_on rfl rfl hb15 ?_
        refine S_in ?_
        refine S_bin rfl rfl (ev_geq ..) ?_
        refine S_nil ?_
        refine S_on rfl rfl hb12 ?_
        refine S_in ?_
        refine S_pickT (v := .bool _) rfl hb15 rfl ?_
        refine S_nil ?_
        refine S_nil ?_
        refine .hd (and_t hb15) ?_
        repeat (first | with_reducible exact WS.refl _ | refine WS.add ?_ rfl)
      ·
        refine S_off rfl rfl hb15 ?_
        refine S_offD ?_
        refine S_off rfl rfl hb15 ?_
        refine S_offD ?_
        refine S_on rfl rfl hb12 ?_
        refine S_in ?_
        refine S_pickF (v := .bool _) rfl hb15 rfl ?_
        refine S_nil ?_
        refine S_nil ?_
        refine .hd (and_f hb15) ?_
        repeat (first | with_reducible exact WS.refl _ | refine WS.add ?_ rfl)
      refine S_on rfl rfl hb12 ?_
      refine S_in ?_
      refine S_m (v := .bool _) rfl ?_
      refine S_nil ?_
      refine S_two (b := ((decide ((0 : Int) ≤ x3)) && (decide ((0 : Int) ≤ x4)))) 3 49 (.bool (((decide ((0 : Int) ≤ x3)) && (decide ((0 : Int) ≤ x4))) && (decide (x5 < (0 : Int))))) (fun hb16 => ?_) (fun hb16 => ?_) ?_
      ·
        refine S_on rfl rfl hb16 ?_
        refine S_in ?_
        refine S_m (v := .int _ _) rfl ?_
        refine S_nil ?_
        refine S_on rfl rfl hb16 ?_
        refine S_in ?_
        refine S_bin rfl rfl (ev_lss ..) ?_
        refine S_nil ?_
        refine S_on rfl rfl hb12 ?_
        refine S_in ?_
        refine S_pickT (v := .bool _) rfl hb16 rfl ?_
        refine S_nil ?_
        refine S_nil ?_
        refine .hd (and_t hb16) ?_
        repeat (first | with_reducible exact WS.refl _ | refine WS.add ?_ rfl)
      ·
        refine S_off rfl rfl hb16 ?_
        refine S_offD ?_
        refine S_off rfl rfl hb16 ?_
        refine S_offD ?_
        refine S_on rfl rfl hb12 ?_
        refine S_in ?_
        refine S_pickF (v := .bool _) rfl hb16 rfl ?_
        refine S_nil ?_
        refine S_nil ?_
        refine .hd (and_f hb16) ?_
        repeat (first | with_reducible exact WS.refl _ | refine WS.add ?_ rfl)
      refine S_pickF (v := .bool _) rfl hb12 rfl ?_
      refine S_nil ?_
      refine .hd (or_f hb12) ?_
      repeat (first | with_reducible exact WS.refl _ | refine WS.add ?_ rfl)
    refine S_m (v := .bool _) rfl ?_
    refine S_two (b := (((x3 != (IntKind.wrap .i64 (0 - x6))) || (((decide (x3 ≤ (0 : Int))) && (decide (x4 ≤ (0 : Int)))) && (decide ((0 : Int) < x5)))) || (((decide ((0 : Int) ≤ x3)) && (decide ((0 : Int) ≤ x4))) && (decide (x5 < (0 : Int)))))) 8 59 (.bool ((((x3 != (IntKind.wrap .i64 (0 - x6))) || (((decide (x3 ≤ (0 : Int))) && (decide (x4 ≤ (0 : Int)))) && (decide ((0 : Int) < x5)))) || (((decide ((0 : Int) ≤ x3)) && (decide ((0 : Int) ≤ x4))) && (decide (x5 < (0 : Int))))) || ((x3 == (0 : Int)) && (x4 != x5)))) (fun hb17 => ?_) (fun hb17 => ?_) ?_
    ·
      refine S_off rfl rfl hb17 ?_
      refine S_offD ?_
      refine S_off rfl rfl hb17 ?_
      refine S_offD ?_
      refine S_off rfl rfl hb17 ?_
      refine S_offD ?_
      refine S_off2 rfl rfl ?_
      refine S_offD ?_
      refine S_off2 rfl rfl ?_
      refine S_offD ?_
      refine S_off2 rfl rfl ?_
      refine S_offD ?_
      refine S_off rfl rfl hb17 ?_
      refine S_offD ?_
      refine S_pickT (v := .bool _) rfl hb17 rfl ?_
      refine S_nil ?_
      refine .hd (or_t hb17) ?_
      repeat (first | with_reducible exact WS.refl _ | refine WS.add ?_ rfl)
    ·
      refine S_on rfl rfl hb17 ?_
      refine S_in ?_
      refine S_m (v := .int _ _) rfl ?_
      refine S_nil ?_
      refine S_on rfl rfl hb17 ?_
      refine S_in ?_
      refine S_bin rfl rfl (ev_eql ..) ?_
      refine S_nil ?_
      refine S_on rfl rfl hb17 ?_
      refine S_in ?_
      refine S_m (v := .bool _) rfl ?_
      refine S_nil ?_
      refine S_two (b := (x3 == (0 : Int))) 4 58 (.bool ((x3 == (0 : Int)) && (x4 != x5))) (fun hb19 => ?_) (fun hb19 => ?_) ?_
      ·
        refine S_on rfl rfl hb19 ?_
        refine S_in ?_
        refine S_m (v := .int _ _) rfl ?_
        refine S_nil ?_
        refine S_on rfl rfl hb19 ?_
        refine S_in ?_
        refine S_m (v := .int _ _) rfl ?_
        refine S_nil ?_
        refine S_on rfl rfl hb19 ?_
        refine S_in ?_
        refine S_bin rfl rfl (ev_neq ..) ?_
        refine S_nil ?_
        refine S_on rfl rfl hb17 ?_
        refine S_in ?_
        refine S_pickT (v := .bool _) rfl hb19 rfl ?_
        refine S_nil ?_
        refine S_nil ?_
        refine .hd (and_t hb19) ?_
        repeat (first | with_reducible exact WS.refl _ | refine WS.add ?_ rfl)
      ·
        refine S_off rfl rfl hb19 ?_
        refine S_offD ?_
        refine S_off rfl rfl hb19 ?_
        refine S_offD ?_
        refine S_off rfl rfl hb19 ?_
        refine S_offD ?_
        refine S_on rfl rfl hb17 ?_
        refine S_in ?_
        refine S_pickF (v := .bool _) rfl hb19 rfl ?_
        refine S_nil ?_
        refine S_nil ?_
        refine .hd (and_f hb19) ?_
        repeat (first | with_reducible exact WS.refl _ | refine WS.add ?_ rfl)
      refine S_pickF (v := .bool _) rfl hb17 rfl ?_
      refine S_nil ?_
      refine .hd (or_f hb17) ?_
      repeat (first | with_reducible exact WS.refl _ | refine WS.add ?_ rfl)
    refine S_nil ?_
    refine C_if (b := ((((x3 != (IntKind.wrap .i64 (0 - x6))) || (((decide (x3 ≤ (0 : Int))) && (decide (x4 ≤ (0 : Int)))) && (decide ((0 : Int) < x5)))) || (((decide ((0 : Int) ≤ x3)) && (decide ((0 : Int) ≤ x4))) && (decide (x5 < (0 : Int))))) || ((x3 == (0 : Int)) && (x4 != x5)))) rfl hF (fun hb20 hF => ?_) (fun hb20 hF => ?_)
    ·
      refine C_seq ?_
      refine C_reg (mdl []) ?_
      refine S_a (v := .bool _) rfl ?_
      refine S_nil ?_
      refine WP_ret ?_
      repeat (first | with_reducible refine Exit.sel_ret ?_ | with_reducible refine Exit.blk_ret ?_)
      refine C_ret (fn := Tryd.f7) rfl (.tmp (v := .bool false) rfl .nil) ?_
      exact ⟨_, _, (.refl _), WH.refl _, _, F_some hF, rfl⟩
    ·
      refine WP_skip ?_
      refine C_seq ?_
      refine C_seq ?_
      refine C_reg (mdl []) ?_
      refine S_ldQ rfl (p_agg (vs := c_T_trail_Trail p0) ty_ag_26 ty_sz_26 rfl rfl) ?_
      refine S_ldQ rfl (p_agg (vs := c_T_trail_Trail p1) ty_ag_26 ty_sz_26 rfl rfl) ?_
      refine S_call (F_trail_Under_ok _ hF fun x21 _ hF => ?_) (.cons (.refl _) (.cons (.refl _) (.nil)))
      refine S_m (v := .bool _) rfl ?_
      refine S_two (b := x21) 3 66 (.bool (x21 && (decide ((0 : Int) < x3)))) (fun hb22 => ?_) (fun hb22 => ?_) ?_
      ·
        refine S_on rfl rfl hb22 ?_
        refine S_in ?_
        refine S_m (v := .int _ _) rfl ?_
        refine S_nil ?_
        refine S_on rfl rfl hb22 ?_
        refine S_in ?_
        refine S_bin rfl rfl (ev_gtr ..) ?_
        refine S_nil ?_
        refine S_pickT (v := .bool _) rfl hb22 rfl ?_
        refine S_nil ?_
        refine .hd (and_t hb22) ?_
        repeat (first | with_reducible exact WS.refl _ | refine WS.add ?_ rfl)
      ·
        refine S_off rfl rfl hb22 ?_
        refine S_offD ?_
        refine S_off rfl rfl hb22 ?_
        refine S_offD ?_
        refine S_pickF (v := .bool _) rfl hb22 rfl ?_
        refine S_nil ?_
        refine .hd (and_f hb22) ?_
        repeat (first | with_reducible exact WS.refl _ | refine WS.add ?_ rfl)
      refine S_m (v := .bool _) rfl ?_
      refine S_twoJ 13 80 hF (fun J24 hb23 hF => ?_) (fun J24 hb23 hF => ?_) (fun v25 hF => ?_)
      ·
        refine S_off rfl rfl hb23 ?_
        refine S_offD ?_
        refine S_off rfl rfl hb23 ?_
        refine S_offD ?_
        refine S_off rfl rfl hb23 ?_
        refine S_offD ?_
        refine S_off rfl rfl hb23 ?_
        refine S_offD ?_
        refine S_off2 rfl rfl ?_
        refine S_offD ?_
        refine S_off2 rfl rfl ?_
        refine S_offD ?_
        refine S_off2 rfl rfl ?_
        refine S_offD ?_
        refine S_off rfl rfl hb23 ?_
        refine S_offD ?_
        refine S_off rfl rfl hb23 ?_
        refine S_offD ?_
        refine S_off2 rfl rfl ?_
        refine S_offD ?_
        refine S_off2 rfl rfl ?_
        refine S_offD ?_
        refine S_off rfl rfl hb23 ?_
        refine S_offD ?_
        refine S_pickT (v := .bool _) rfl hb23 rfl ?_
        refine S_nil ?_
        refine ⟨_, hF, .hd (.refl _) ?_⟩
        repeat (first | with_reducible exact WS.refl _ | refine WS.add ?_ rfl)
      ·
        refine S_on rfl rfl hb23 ?_
        refine S_in ?_
        refine S_ldQ rfl (p_agg (vs := c_T_trail_Trail p0) ty_ag_26 ty_sz_26 rfl rfl) ?_
        refine S_nil ?_
        refine S_on rfl rfl hb23 ?_
        refine S_in ?_
        refine S_ldQ rfl (p_agg (vs := c_T_trail_Trail p1) ty_ag_26 ty_sz_26 rfl rfl) ?_
        refine S_nil ?_
        refine S_on rfl rfl hb23 ?_
        refine S_in ?_
        refine S_call (F_trail_Under_ok _ hF fun x26 _ hF => ?_) (.cons (.refl _) (.cons (.refl _) (.nil)))
        refine S_nil ?_
        refine S_on rfl rfl hb23 ?_
        refine S_in ?_
        refine S_m (v := .bool _) rfl ?_
        refine S_nil ?_
        refine S_twoJ 4 75 hF (fun J28 hb27 hF => ?_) (fun J28 hb27 hF => ?_) (fun v29 hF => ?_)
        ·
          refine S_on rfl rfl hb27 ?_
          refine S_in ?_
          refine S_ldQ rfl (p_agg (vs := c_T_trail_Trail p1) ty_ag_26 ty_sz_26 rfl rfl) ?_
          refine S_nil ?_
          refine S_on rfl rfl hb27 ?_
          refine S_in ?_
          refine S_ldQ rfl (p_agg (vs := c_T_trail_Trail p0) ty_ag_26 ty_sz_26 rfl rfl) ?_
          refine S_nil ?_
          refine S_on rfl rfl hb27 ?_
          refine S_in ?_
          refine S_call (F_trail_Under_ok _ hF fun x30 _ hF => ?_) (.cons (.refl _) (.cons (.refl _) (.nil)))
          refine S_nil ?_
          refine S_on rfl rfl hb23 ?_
          refine S_in ?_
          refine S_pickT (v := .bool _) rfl hb27 rfl ?_
          refine S_nil ?_
          refine S_nil ?_
          refine ⟨_, hF, .hd (.refl _) ?_⟩
          repeat (first | with_reducible exact WS.refl _ | refine WS.add ?_ rfl)
        ·
          refine S_off rfl rfl hb27 ?_
          refine S_offD ?_
          refine S_off rfl rfl hb27 ?_
          refine S_offD ?_
          refine S_off rfl rfl hb27 ?_
          refine S_offD ?_
          refine S_on rfl rfl hb23 ?_
          refine S_in ?_
          refine S_pickF (v := .bool _) rfl hb27 rfl ?_
          refine S_nil ?_
          refine S_nil ?_
          refine ⟨_, hF, .hd (.refl _) ?_⟩
          repeat (first | with_reducible exact WS.refl _ | refine WS.add ?_ rfl)
        ·
          refine S_on rfl rfl hb23 ?_
          refine S_in ?_
          refine S_m (v := .bool _) rfl ?_
          refine S_nil ?_
          refine S_two (b := v29) 3 79 (.bool (v29 && (x3 != (0 : Int)))) (fun hb31 => ?_) (fun hb31 => ?_) ?_
          ·
            refine S_on rfl rfl hb31 ?_
            refine S_in ?_
            refine S_m (v := .int _ _) rfl ?_
            refine S_nil ?_
            refine S_on rfl rfl hb31 ?_
            refine S_in ?_
            refine S_bin rfl rfl (ev_neq ..) ?_
            refine S_nil ?_
            refine S_on rfl rfl hb23 ?_
            refine S_in ?_
            refine S_pickT (v := .bool _) rfl hb31 rfl ?_
            refine S_nil ?_
            refine S_nil ?_
            refine .hd (and_t hb31) ?_
            repeat (first | with_reducible exact WS.refl _ | refine WS.add ?_ rfl)
          ·
            refine S_off rfl rfl hb31 ?_
            refine S_offD ?_
            refine S_off rfl rfl hb31 ?_
            refine S_offD ?_
            refine S_on rfl rfl hb23 ?_
            refine S_in ?_
            refine S_pickF (v := .bool _) rfl hb31 rfl ?_
            refine S_nil ?_
            refine S_nil ?_
            refine .hd (and_f hb31) ?_
            repeat (first | with_reducible exact WS.refl _ | refine WS.add ?_ rfl)
          refine S_pickF (v := .bool _) rfl hb23 rfl ?_
          refine S_nil ?_
          refine ⟨_, hF, .hd (.refl _) ?_⟩
          repeat (first | with_reducible exact WS.refl _ | refine WS.add ?_ rfl)
      ·
        refine S_nil ?_
        refine C_if (b := v25) rfl hF (fun hb32 hF => ?_) (fun hb32 hF => ?_)
        ·
          refine C_seq ?_
          refine C_reg (mdl []) ?_
          refine S_a (v := .bool _) rfl ?_
          refine S_nil ?_
          refine WP_ret ?_
          repeat (first | with_reducible refine Exit.sel_ret ?_ | with_reducible refine Exit.blk_ret ?_)
          refine C_ret (fn := Tryd.f7) rfl (.tmp (v := .bool false) rfl .nil) ?_
          exact ⟨_, _, (.refl _), WH.refl _, _, F_some hF, rfl⟩
        ·
          refine WP_skip ?_
          refine C_seq ?_
          refine C_reg (mdl []) ?_
          refine S_ldQ rfl (p_agg (vs := c_T_trail_Trail p0) ty_ag_26 ty_sz_26 rfl rfl) ?_
          refine S_ldQ rfl (p_agg (vs := c_T_trail_Trail p1) ty_ag_26 ty_sz_26 rfl rfl) ?_
          refine S_call (F_trail_Under_ok _ hF fun x33 _ hF => ?_) (.cons (.refl _) (.cons (.refl _) (.nil)))
          refine S_m (v := .bool _) rfl ?_
          refine S_two (b := x33) 3 87 (.bool (x33 && (decide (x5 < (0 : Int))))) (fun hb34 => ?_) (fun hb34 => ?_) ?_
          ·
            refine S_on rfl rfl hb34 ?_
            refine S_in ?_
            refine S_m (v := .int _ _) rfl ?_
            refine S_nil ?_
            refine S_on rfl rfl hb34 ?_
            refine S_in ?_
            refine S_bin rfl rfl (ev_lss ..) ?_
            refine S_nil ?_
            refine S_pickT (v := .bool _) rfl hb34 rfl ?_
            refine S_nil ?_
            refine .hd (and_t hb34) ?_
            repeat (first | with_reducible exact WS.refl _ | refine WS.add ?_ rfl)
          ·
            refine S_off rfl rfl hb34 ?_
            refine S_offD ?_
            refine S_off rfl rfl hb34 ?_
            refine S_offD ?_
            refine S_pickF (v := .bool _) rfl hb34 rfl ?_
            refine S_nil ?_
            refine .hd (and_f hb34) ?_
            repeat (first | with_reducible exact WS.refl _ | refine WS.add ?_ rfl)
          refine S_m (v := .bool _) rfl ?_
          refine S_twoJ 5 93 hF (fun J36 hb35 hF => ?_) (fun J36 hb35 hF => ?_) (fun v37 hF => ?_)
          ·
            refine S_on rfl rfl hb35 ?_
            refine S_in ?_
            refine S_ldQ rfl (p_agg (vs := c_T_trail_Trail p0) ty_ag_26 ty_sz_26 rfl rfl) ?_
            refine S_nil ?_
            refine S_on rfl rfl hb35 ?_
            refine S_in ?_
            refine S_ldQ rfl (p_agg (vs := c_T_trail_Trail p2) ty_ag_26 ty_sz_26 rfl rfl) ?_
            refine S_nil ?_
            refine S_on rfl rfl hb35 ?_
            refine S_in ?_
            refine S_call (F_trail_Under_ok _ hF fun x38 _ hF => ?_) (.cons (.refl _) (.cons (.refl _) (.nil)))
            refine S_nil ?_
            refine S_on rfl rfl hb35 ?_
            refine S_in ?_
            refine S_un rfl (ev_not _) ?_
            refine S_nil ?_
            refine S_pickT (v := .bool _) rfl hb35 rfl ?_
            refine S_nil ?_
            refine ⟨_, hF, .hd (.refl _) ?_⟩
            repeat (first | with_reducible exact WS.refl _ | refine WS.add ?_ rfl)
          ·
            refine S_off rfl rfl hb35 ?_
            refine S_offD ?_
            refine S_off rfl rfl hb35 ?_
            refine S_offD ?_
            refine S_off rfl rfl hb35 ?_
            refine S_offD ?_
            refine S_off rfl rfl hb35 ?_
            refine S_offD ?_
            refine S_pickF (v := .bool _) rfl hb35 rfl ?_
            refine S_nil ?_
            refine ⟨_, hF, .hd (.refl _) ?_⟩
            repeat (first | with_reducible exact WS.refl _ | refine WS.add ?_ rfl)
          ·
            refine S_m (v := .bool _) rfl ?_
            refine S_two (b := v37) 3 97 (.bool (v37 && (decide ((0 : Int) ≤ x4)))) (fun hb39 => ?_) (fun hb39 => ?_) ?_
            ·
              refine S_on rfl rfl hb39 ?_
              refine S_in ?_
              refine S_m (v := .int _ _) rfl ?_
              refine S_nil ?_
              refine S_on rfl rfl hb39 ?_
              refine S_in ?_
              refine S_bin rfl rfl (ev_geq ..) ?_
              refine S_nil ?_
              refine S_pickT (v := .bool _) rfl hb39 rfl ?_
              refine S_nil ?_
              refine .hd (and_t hb39) ?_
              repeat (first | with_reducible exact WS.refl _ | refine WS.add ?_ rfl)
            ·
              refine S_off rfl rfl hb39 ?_
              refine S_offD ?_
              refine S_off rfl rfl hb39 ?_
              refine S_offD ?_
              refine S_pickF (v := .bool _) rfl hb39 rfl ?_
              refine S_nil ?_
              refine .hd (and_f hb39) ?_
              repeat (first | with_reducible exact WS.refl _ | refine WS.add ?_ rfl)
            refine S_un rfl (ev_not _) ?_
            refine S_a (v := .bool _) rfl ?_
            refine S_nil ?_
            refine WP_ret ?_
            repeat (first | with_reducible refine Exit.sel_ret ?_ | with_reducible refine Exit.blk_ret ?_)
            refine C_ret (fn := Tryd.f7) rfl (.tmp (v := .bool (!(v37 && (decide ((0 : Int) ≤ x4))))) rfl .nil) ?_
            exact ⟨_, _, (.refl _), WH.refl _, _, F_some hF, rfl⟩
theorem F_trail_Up_w (p0 : T_trail_Trail) {G : T_trail_Trail × Bool → Prop} (h : Heap) (hF : OptP (F_trail_Up p0) G) : CallsA Tryd.prog 22 [.agg (c_T_trail_Trail p0)] h fun d h' => ∃ r, G r ∧ d = .tup [.agg (c_T_trail_Trail r.1), .bool r.2] ∧ h' = h := by
  refine CallsA.ret ?_
  refine C_body Tryd.func22 rfl en_22 Tryd.ntmps22 rfl (fun ok => ?_)
  rw [F_trail_Up] at hF
  refine C_seq ?_
  refine C_reg (mdl [(2, 1)]) ?_
  refine S_box0 rfl rfl rfl rfl ?_
  refine S_all1 ok rfl ty_zc_26 ?_
  intro i1 hi1 ok
  refine S_a (v := .bool _) rfl ?_
  refine S_nil ?_
  refine C_seq ?_
  refine WP_block ?_
  refine C_seq ?_
  refine C_reg (mdl []) ?_
  refine S_faQ rfl ty_fd_26_1 ty_sz_4 rfl ?_
  refine S_ldQ rfl (p_one ty_ag_4 ty_sz_4 rfl) ?_
  refine S_a (v := .bool _) rfl ?_
  refine S_nil ?_
  refine C_if (b := p0.Attr) rfl hF (fun hb2 hF => ?_) (fun hb2 hF => ?_)
  ·
    refine C_seq ?_
    refine C_reg (mdl []) ?_
    refine S_faQ rfl ty_fd_26_0 ty_sz_22 rfl ?_
    refine S_ldQ rfl (p_one ty_ag_22 ty_sz_22 rfl) ?_
    refine S_call (L_CloneInts_ok _ hF fun x3 _ hF => ?_) (.cons (.refl _) (.nil))
    refine S_bld (v := .agg (c_T_trail_Trail (⟨x3, false, (⟨([] : List UInt8), ([] : List UInt8)⟩ : T_api_Name)⟩ : T_trail_Trail))) (b_st ty_zc_26 ty_pl_26 rfl) ?_
    refine S_st (j := 0) (cs' := [.sl 1 (List.map c_i64 (⟨x3, false, (⟨([] : List UInt8), ([] : List UInt8)⟩ : T_api_Name)⟩ : T_trail_Trail).Steps) 0, .bool (⟨x3, false, (⟨([] : List UInt8), ([] : List UInt8)⟩ : T_api_Name)⟩ : T_trail_Trail).Attr, .str (⟨x3, false, (⟨([] : List UInt8), ([] : List UInt8)⟩ : T_api_Name)⟩ : T_trail_Trail).Name.URI, .str (⟨x3, false, (⟨([] : List UInt8), ([] : List UInt8)⟩ : T_api_Name)⟩ : T_trail_Trail).Name.Local]) ok rfl rfl rfl hi1 rfl ty_sz_26 rfl rfl (fun ok => ?_)
    refine S_a (v := .bool _) rfl ?_
    refine S_nil ?_
    refine WP_ret ?_
    repeat (first | with_reducible refine Exit.sel_ret ?_ | with_reducible refine Exit.blk_ret ?_)
    refine C_ret (fn := Tryd.f22) rfl (.cell rfl (ld_ptr (j := 0) ok rfl hi1 (p_agg (vs := [.sl 1 (List.map c_i64 (⟨x3, false, (⟨([] : List UInt8), ([] : List UInt8)⟩ : T_api_Name)⟩ : T_trail_Trail).Steps) 0, .bool (⟨x3, false, (⟨([] : List UInt8), ([] : List UInt8)⟩ : T_api_Name)⟩ : T_trail_Trail).Attr, .str (⟨x3, false, (⟨([] : List UInt8), ([] : List UInt8)⟩ : T_api_Name)⟩ : T_trail_Trail).Name.URI, .str (⟨x3, false, (⟨([] : List UInt8), ([] : List UInt8)⟩ : T_api_Name)⟩ : T_trail_Trail).Name.Local]) ty_ag_26 ty_sz_26 rfl rfl)) (.tmp (v := .bool true) rfl .nil)) ?_
    exact ⟨_, _, (.tupC (.cons (.aggC (.cons (.refl _) (.cons (.refl _) (.cons (.refl _) (.cons (.refl _) (.nil)))))) (.cons (.refl _) (.nil)))), ok.wh, _, F_some hF, rfl, rfl⟩
  ·
    refine C_seq ?_
    refine C_reg (mdl []) ?_
    refine S_faQ rfl ty_fd_26_0 ty_sz_22 rfl ?_
    refine S_ldQ rfl (p_one ty_ag_22 ty_sz_22 rfl) ?_
    refine S_lenL rfl ty_sl_22 ?_
    refine S_bin rfl rfl (ev_gtr ..) ?_
    refine S_a (v := .bool _) rfl ?_
    refine S_nil ?_
    refine C_if (b := (decide ((0 : Int) < (p0.Steps.length : Int)))) rfl hF (fun hb4 hF => ?_) (fun hb4 hF => ?_)
    ·
      refine C_seq ?_
      refine C_reg (mdl []) ?_
      refine S_faQ rfl ty_fd_26_0 ty_sz_22 rfl ?_
      refine S_ldQ rfl (p_one ty_ag_22 ty_sz_22 rfl) ?_
      refine S_faQ rfl ty_fd_26_0 ty_sz_22 rfl ?_
      refine S_ldQ rfl (p_one ty_ag_22 ty_sz_22 rfl) ?_
      refine S_lenL rfl ty_sl_22 ?_
      refine S_bin rfl rfl (ev_sub ..) ?_
      refine S_slL rfl ty_sl_22 ty_sz_3 bd_no (bd_at rfl) hF (fun x5 _ hF => ?_)
      refine S_call (L_CloneInts_ok _ hF fun x6 _ hF => ?_) (.cons (.refl _) (.nil))
      refine S_bld (v := .agg (c_T_trail_Trail (⟨x6, false, (⟨([] : List UInt8), ([] : List UInt8)⟩ : T_api_Name)⟩ : T_trail_Trail))) (b_st ty_zc_26 ty_pl_26 rfl) ?_
      refine S_st (j := 0) (cs' := [.sl 1 (List.map c_i64 (⟨x6, false, (⟨([] : List UInt8), ([] : List UInt8)⟩ : T_api_Name)⟩ : T_trail_Trail).Steps) 0, .bool (⟨x6, false, (⟨([] : List UInt8), ([] : List UInt8)⟩ : T_api_Name)⟩ : T_trail_Trail).Attr, .str (⟨x6, false, (⟨([] : List UInt8), ([] : List UInt8)⟩ : T_api_Name)⟩ : T_trail_Trail).Name.URI, .str (⟨x6, false, (⟨([] : List UInt8), ([] : List UInt8)⟩ : T_api_Name)⟩ : T_trail_Trail).Name.Local]) ok rfl rfl rfl hi1 rfl ty_sz_26 rfl rfl (fun ok => ?_)
      refine S_a (v := .bool _) rfl ?_
      refine S_nil ?_
      refine WP_ret ?_
      repeat (first | with_reducible refine Exit.sel_ret ?_ | with_reducible refine Exit.blk_ret ?_)
      refine C_ret (fn := Tryd.f22) rfl (.cell rfl (ld_ptr (j := 0) ok rfl hi1 (p_agg (vs := [.sl 1 (List.map c_i64 (⟨x6, false, (⟨([] : List UInt8), ([] : List UInt8)⟩ : T_api_Name)⟩ : T_trail_Trail).Steps) 0, .bool (⟨x6, false, (⟨([] : List UInt8), ([] : List UInt8)⟩ : T_api_Name)⟩ : T_trail_Trail).Attr, .str (⟨x6, false, (⟨([] : List UInt8), ([] : List UInt8)⟩ : T_api_Name)⟩ : T_trail_Trail).Name.URI, .str (⟨x6, false, (⟨([] : List UInt8), ([] : List UInt8)⟩ : T_api_Name)⟩ : T_trail_Trail).Name.Local]) ty_ag_26 ty_sz_26 rfl rfl)) (.tmp (v := .bool true) rfl .nil)) ?_
      exact ⟨_, _, (.tupC (.cons (.aggC (.cons (.refl _) (.cons (.refl _) (.cons (.refl _) (.cons (.refl _) (.nil)))))) (.cons (.refl _) (.nil)))), ok.wh, _, F_some hF, rfl, rfl⟩
    ·
      refine WP_skip ?_
      refine C_seq ?_
      refine C_reg (mdl []) ?_
      refine S_bld (v := .agg [.snil, .bool false, .str ([] : List UInt8), .str ([] : List UInt8)]) (b_st ty_zc_26 ty_pl_26 rfl) ?_
      refine S_one 25 (v := .agg (c_T_trail_Trail (⟨([] : List Int), false, (⟨([] : List UInt8), ([] : List UInt8)⟩ : T_api_Name)⟩ : T_trail_Trail))) (.aggC (.cons (.nil _) (.cons (.refl _) (.cons (.refl _) (.cons (.refl _) (.nil)))))) ?_
      refine S_st (j := 0) (cs' := [.sl 1 (List.map c_i64 (⟨([] : List Int), false, (⟨([] : List UInt8), ([] : List UInt8)⟩ : T_api_Name)⟩ : T_trail_Trail).Steps) 0, .bool (⟨([] : List Int), false, (⟨([] : List UInt8), ([] : List UInt8)⟩ : T_api_Name)⟩ : T_trail_Trail).Attr, .str (⟨([] : List Int), false, (⟨([] : List UInt8), ([] : List UInt8)⟩ : T_api_Name)⟩ : T_trail_Trail).Name.URI, .str (⟨([] : List Int), false, (⟨([] : List UInt8), ([] : List UInt8)⟩ : T_api_Name)⟩ : T_trail_Trail).Name.Local]) ok rfl rfl rfl hi1 rfl ty_sz_26 rfl rfl (fun ok => ?_)
      refine S_a (v := .bool _) rfl ?_
      refine S_nil ?_
      refine WP_ret ?_
      repeat (first | with_reducible refine Exit.sel_ret ?_ | with_reducible refine Exit.blk_ret ?_)
      refine C_ret (fn := Tryd.f22) rfl (.cell rfl (ld_ptr (j := 0) ok rfl hi1 (p_agg (vs := [.sl 1 (List.map c_i64 (⟨([] : List Int), false, (⟨([] : List UInt8), ([] : List UInt8)⟩ : T_api_Name)⟩ : T_trail_Trail).Steps) 0, .bool (⟨([] : List Int), false, (⟨([] : List UInt8), ([] : List UInt8)⟩ : T_api_Name)⟩ : T_trail_Trail).Attr, .str (⟨([] : List Int), false, (⟨([] : List UInt8), ([] : List UInt8)⟩ : T_api_Name)⟩ : T_trail_Trail).Name.URI, .str (⟨([] : List Int), false, (⟨([] : List UInt8), ([] : List UInt8)⟩ : T_api_Name)⟩ : T_trail_Trail).Name.Local]) ty_ag_26 ty_sz_26 rfl rfl)) (.tmp (v := .bool false) rfl .nil)) ?_
      exact ⟨_, _, (.tupC (.cons (.aggC (.cons (.refl _) (.cons (.refl _) (.cons (.refl _) (.cons (.refl _) (.nil)))))) (.cons (.refl _) (.nil)))), ok.wh, _, F_some hF, rfl, rfl⟩
theorem F_trail_Up_ok {β : Type} {f : T_trail_Trail × Bool → Option β} {G : β → Prop} {R : D → Heap → Prop} {p0 : T_trail_Trail} (h : Heap) (hF : OptP ((F_trail_Up p0).bind f) G) (hk : ∀ r, F_trail_Up p0 = some r → OptP (f r) G → R (.tup [.agg (c_T_trail_Trail r.1), .bool r.2]) h) : CallsA Tryd.prog 22 [.agg (c_T_trail_Trail p0)] h R := by
  obtain ⟨r0, hr, hF⟩ := F_bind hF
  refine (F_trail_Up_w (G := fun r => r = r0) p0 h ⟨r0, hr, rfl⟩).mono ?_
  rintro _ _ ⟨r, rfl, rfl, rfl⟩
  exact hk _ hr hF
theorem F_lecternlaw08_TrailUps_w (p0 : T_trail_Trail) (p1 : T_trail_Trail) {G : Bool → Prop} (h : Heap) (hF : OptP (F_lecternlaw08_TrailUps p0 p1) G) : CallsA Tryd.prog 8 [.agg (c_T_trail_Trail p0), .agg (c_T_trail_Trail p1)] h fun d h' => ∃ r, G r ∧ d = .bool r := by
  refine CallsA.ret ?_
  refine C_body Tryd.func8 rfl en_8 Tryd.ntmps8 rfl (fun ok => ?_)
  rw [F_lecternlaw08_TrailUps] at hF
  refine C_seq ?_
  refine C_reg (mdl []) ?_
  refine S_box0 rfl rfl rfl rfl ?_
  refine S_box0 rfl rfl rfl rfl ?_
  refine S_a (v := .bool _) rfl ?_
  refine S_nil ?_
  refine C_seq ?_
  refine C_seq ?_
  refine C_reg (mdl []) ?_
  refine S_call (F_lecternlaw08_awake_ok _ hF fun x1 _ hF => ?_) (.nil)
  refine S_un rfl (ev_not _) ?_
  refine S_nil ?_
  refine C_if (b := (!x1)) rfl hF (fun hb2 hF => ?_) (fun hb2 hF => ?_)
  ·
    refine C_seq ?_
    refine C_reg (mdl []) ?_
    refine S_a (v := .bool _) rfl ?_
    refine S_nil ?_
    refine WP_ret ?_
    repeat (first | with_reducible refine Exit.sel_ret ?_ | with_reducible refine Exit.blk_ret ?_)
    refine C_ret (fn := Tryd.f8) rfl (.tmp (v := .bool false) rfl .nil) ?_
    exact ⟨_, _, (.refl _), WH.refl _, _, F_some hF, rfl⟩
  ·
    refine WP_skip ?_
    refine C_seq ?_
    refine C_seq ?_
    refine C_reg (mdl []) ?_
    refine S_faQ rfl ty_fd_26_0 ty_sz_22 rfl ?_
    refine S_ldQ rfl (p_one ty_ag_22 ty_sz_22 rfl) ?_
    refine S_lenL rfl ty_sl_22 ?_
    refine S_bin rfl rfl (ev_gtr ..) ?_
    refine S_nil ?_
    refine C_if (b := (decide ((200 : Int) < (p0.Steps.length : Int)))) rfl hF (fun hb3 hF => ?_) (fun hb3 hF => ?_)
    ·
      refine C_seq ?_
      refine C_reg (mdl []) ?_
      refine S_a (v := .bool _) rfl ?_
      refine S_nil ?_
      refine WP_ret ?_
      repeat (first | with_reducible refine Exit.sel_ret ?_ | with_reducible refine Exit.blk_ret ?_)
      refine C_ret (fn := Tryd.f8) rfl (.tmp (v := .bool true) rfl .nil) ?_
      exact ⟨_, _, (.refl _), WH.refl _, _, F_some hF, rfl⟩
    ·
      refine WP_skip ?_
      refine C_seq ?_
      refine C_reg (mdl []) ?_
      refine S_a (v := .int _ _) rfl ?_
      refine S_nil ?_
      refine C_join hF (fun (a36 : Int) s' => OK h [] ∧ WS s' ⟨mkSl 70 [(2, .iptr (c_T_trail_Trail p0)), (5, .int .i64 a36)], Hp h []⟩) (fun J37 hF => ?_) ?_
      ·
        refine C_seq ?_
        refine C_reg (mdl [(6, 1)]) ?_
        refine S_ldQ rfl (p_agg (vs := c_T_trail_Trail p0) ty_ag_26 ty_sz_26 rfl rfl) ?_
        refine S_all1 ok rfl ty_zc_26 ?_
        intro i38 hi38 ok
        refine S_st (j := 0) (cs' := [.sl 1 (List.map c_i64 p0.Steps) 0, .bool p0.Attr, .str p0.Name.URI, .str p0.Name.Local]) ok rfl rfl rfl hi38 rfl ty_sz_26 rfl rfl (fun ok => ?_)
        refine S_a (v := .bool _) rfl ?_
        refine S_nil ?_
        refine WP_block ?_
        refine C_loop (σ := Int × (List Int) × Bool × (List UInt8) × (List UInt8) × Bool) hF (fun (v : Int × (List Int) × Bool × (List UInt8) × (List UInt8) × Bool) s' => match v with | (a39, a41, a42, a43, a44, a45) => ∃ g40 : Nat, g40 ≠ 0 ∧ OK h [(g40, .cells [.sl 1 (List.map c_i64 a41) 0, .bool a42, .str a43, .str a44])] ∧ WS s' ⟨mkSl 70 [(2, .iptr (c_T_trail_Trail p0)), (3, .iptr (c_T_trail_Trail p1)), (5, .int .i64 a39), (6, .ptr g40 0), (7, .bool a45)], Hp h [(g40, .cells [.sl 1 (List.map c_i64 a41) 0, .bool a42, .str a43, .str a44])]⟩) ?_ ?_
        ·
          have hwo : WO [(i38, .cells [.sl 1 (List.map c_i64 p0.Steps) 0, .bool p0.Attr, .str p0.Name.URI, .str p0.Name.Local])] [(i38, .cells [.sl 1 (List.map c_i64 p0.Steps) 0, .bool p0.Attr, .str p0.Name.URI, .str p0.Name.Local])] := (.keep .nil)
          exact ⟨i38, hi38, (hwo.spec ok).1, WS.mk' (.cons (.refl _) (.cons (.refl _) (.cons (.refl _) (.cons (.refl _) (.cons (.refl _) .nil))))) ok hwo⟩
        ·
          rintro G46 hG47 rec48 ⟨a39, a41, a42, a43, a44, a45⟩ s' ih49 hF ⟨g40, hg40, ok, hws⟩
          refine WP_ws hws ?_
          clear hws s'
          rw [F_lecternlaw08_TrailUps_l0] at hF
          refine C_seq ?_
          refine C_seq ?_
          refine C_reg (mdl []) ?_
          refine S_m (v := .bool _) rfl ?_
          refine S_nil ?_
          refine C_if (b := a45) rfl hF (fun hb50 hF => ?_) (fun hb50 hF => ?_)
          ·
            refine WP_skip ?_
            refine C_seq ?_
            refine WP_block ?_
            refine C_seq ?_
            refine C_seq ?_
            refine C_reg (mdl []) ?_
            refine S_ldP (j := 0) ok rfl rfl rfl hg40 (p_agg (vs := c_T_trail_Trail (⟨a41, a42, (⟨a43, a44⟩ : T_api_Name)⟩ : T_trail_Trail)) ty_ag_26 ty_sz_26 rfl rfl) ?_
            refine S_ldQ rfl (p_agg (vs := c_T_trail_Trail p0) ty_ag_26 ty_sz_26 rfl rfl) ?_
            refine S_call (F_trail_Under_ok _ hF fun x51 _ hF => ?_) (.cons (.refl _) (.cons (.refl _) (.nil)))
            refine S_un rfl (ev_not _) ?_
            refine S_m (v := .bool _) rfl ?_
            refine S_twoJ 10 34 hF (fun J53 hb52 hF => ?_) (fun J53 hb52 hF => ?_) (fun v54 hF => ?_)
            ·
              refine S_off rfl rfl hb52 ?_
              refine S_offD ?_
              refine S_off rfl rfl hb52 ?_
              refine S_offD ?_
              refine S_off rfl rfl hb52 ?_
              refine S_offD ?_
              refine S_off rfl rfl hb52 ?_
              refine S_offD ?_
              refine S_off2 rfl rfl ?_
              refine S_offD ?_
              refine S_off2 rfl rfl ?_
              refine S_offD ?_
              refine S_off2 rfl rfl ?_
              refine S_offD ?_
              refine S_off2 rfl rfl ?_
              refine S_offD ?_
              refine S_off rfl rfl hb52 ?_
              refine S_offD ?_
              refine S_pickT (v := .bool _) rfl hb52 rfl ?_
              refine S_nil ?_
              refine ⟨_, hF, .hd (.refl _) ?_⟩
              repeat (first | with_reducible exact WS.refl _ | refine WS.add ?_ rfl)
            ·
              refine S_on rfl rfl hb52 ?_
              refine S_in ?_
              refine S_ldQ rfl (p_agg (vs := c_T_trail_Trail p1) ty_ag_26 ty_sz_26 rfl rfl) ?_
              refine S_nil ?_
              refine S_on rfl rfl hb52 ?_
              refine S_in ?_
              refine S_ldP (j := 0) ok rfl rfl rfl hg40 (p_agg (vs := c_T_trail_Trail (⟨a41, a42, (⟨a43, a44⟩ : T_api_Name)⟩ : T_trail_Trail)) ty_ag_26 ty_sz_26 rfl rfl) ?_
              refine S_nil ?_
              refine S_on rfl rfl hb52 ?_
              refine S_in ?_
              refine S_call (F_trail_Under_ok _ hF fun x55 _ hF => ?_) (.cons (.refl _) (.cons (.refl _) (.nil)))
              refine S_nil ?_
              refine S_on rfl rfl hb52 ?_
              refine S_in ?_
              refine S_m (v := .bool _) rfl ?_
              refine S_nil ?_
              refine S_twoJ 5 33 hF (fun J57 hb56 hF => ?_) (fun J57 hb56 hF => ?_) (fun v58 hF => ?_)
              ·
                refine S_on rfl rfl hb56 ?_
                refine S_in ?_
                refine S_ldQ rfl (p_agg (vs := c_T_trail_Trail p1) ty_ag_26 ty_sz_26 rfl rfl) ?_
                refine S_nil ?_
                refine S_on rfl rfl hb56 ?_
                refine S_in ?_
                refine S_ldQ rfl (p_agg (vs := c_T_trail_Trail p0) ty_ag_26 ty_sz_26 rfl rfl) ?_
                refine S_nil ?_
                refine S_on rfl rfl hb56 ?_
                refine S_in ?_
                refine S_call (F_trail_Under_ok _ hF fun x59 _ hF => ?_) (.cons (.refl _) (.cons (.refl _) (.nil)))
                refine S_nil ?_
                refine S_on rfl rfl hb56 ?_
                refine S_in ?_
                refine S_un rfl (ev_not _) ?_
                refine S_nil ?_
                refine S_on rfl rfl hb52 ?_
                refine S_in ?_
                refine S_pickT (v := .bool _) rfl hb56 rfl ?_
                refine S_nil ?_
                refine S_nil ?_
                refine ⟨_, hF, .hd (.refl _) ?_⟩
                repeat (first | with_reducible exact WS.refl _ | refine WS.add ?_ rfl)
              ·
                refine S_off rfl rfl hb56 ?_
                refine S_offD ?_
                refine S_off rfl rfl hb56 ?_
                refine S_offD ?_
                refine S_off rfl rfl hb56 ?_
                refine S_offD ?_
                refine S_off rfl rfl hb56 ?_
                refine S_offD ?_
                refine S_on rfl rfl hb52 ?_
                refine S_in ?_
                refine S_pickF (v := .bool _) rfl hb56 rfl ?_
                refine S_nil ?_
                refine S_nil ?_
                refine ⟨_, hF, .hd (.refl _) ?_⟩
                repeat (first | with_reducible exact WS.refl _ | refine WS.add ?_ rfl)
              ·
                refine S_pickF (v := .bool _) rfl hb52 rfl ?_
                refine S_nil ?_
                refine ⟨_, hF, .hd (.refl _) ?_⟩
                repeat (first | with_reducible exact WS.refl _ | refine WS.add ?_ rfl)
            ·
              refine S_nil ?_
              refine C_if (b := v54) rfl hF (fun hb60 hF => ?_) (fun hb60 hF => ?_)
              ·
                refine C_seq ?_
                refine C_reg (mdl []) ?_
                refine S_a (v := .bool _) rfl ?_
                refine S_nil ?_
                refine WP_ret ?_
                replace hF := hG47 _ (F_some hF)
                repeat (first | with_reducible refine Exit.sel_ret ?_ | with_reducible refine Exit.blk_ret ?_)
                refine C_ret (fn := Tryd.f8) rfl (.tmp (v := .bool false) rfl .nil) ?_
                exact ⟨_, _, (.refl _), WH.refl _, _, F_some hF, rfl⟩
              ·
                refine WP_skip ?_
                refine C_seq ?_
                refine C_reg (mdl [(8, 1)]) ?_
                refine S_all1 ok rfl ty_zc_26 ?_
                intro i61 hi61 ok
                refine S_nil ?_
                refine C_seq ?_
                refine C_reg (mdl []) ?_
                refine S_ldP (j := 1) ok rfl rfl rfl hg40 (p_agg (vs := c_T_trail_Trail (⟨a41, a42, (⟨a43, a44⟩ : T_api_Name)⟩ : T_trail_Trail)) ty_ag_26 ty_sz_26 rfl rfl) ?_
                refine S_call (F_trail_Up_ok _ hF fun x62 _ hF => ?_) (.cons (.refl _) (.nil))
                refine S_m (v := .tup _) rfl ?_
                refine S_ext rfl rfl ?_
                refine S_ext rfl rfl ?_
                refine S_st (j := 0) (cs' := [.sl 1 (List.map c_i64 x62.1.Steps) 0, .bool x62.1.Attr, .str x62.1.Name.URI, .str x62.1.Name.Local]) ok rfl rfl rfl hi61 rfl ty_sz_26 rfl rfl (fun ok => ?_)
                refine S_a (v := .bool _) rfl ?_
                refine S_nil ?_
                refine C_seq ?_
                refine C_seq ?_
                refine C_reg (mdl []) ?_
                refine S_m (v := .bool _) rfl ?_
                refine S_m (v := .bool _) rfl ?_
                refine S_twoJ 15 56 hF (fun J64 hb63 hF => ?_) (fun J64 hb63 hF => ?_) (fun v65 hF => ?_)
                ·
                  refine S_on rfl rfl hb63 ?_
                  refine S_in ?_
                  refine S_ldP (j := 0) ok rfl rfl rfl hi61 (p_agg (vs := c_T_trail_Trail x62.1) ty_ag_26 ty_sz_26 rfl rfl) ?_
                  refine S_nil ?_
                  refine S_on rfl rfl hb63 ?_
                  refine S_in ?_
                  refine S_ldP (j := 1) ok rfl rfl rfl hg40 (p_agg (vs := c_T_trail_Trail (⟨a41, a42, (⟨a43, a44⟩ : T_api_Name)⟩ : T_trail_Trail)) ty_ag_26 ty_sz_26 rfl rfl) ?_
                  refine S_nil ?_
                  refine S_on rfl rfl hb63 ?_
                  refine S_in ?_
                  refine S_call (F_trail_Under_ok _ hF fun x66 _ hF => ?_) (.cons (.refl _) (.cons (.refl _) (.nil)))
                  refine S_nil ?_
                  refine S_on rfl rfl hb63 ?_
                  refine S_in ?_
                  refine S_un rfl (ev_not _) ?_
                  refine S_nil ?_
                  refine S_on rfl rfl hb63 ?_
                  refine S_in ?_
                  refine S_m (v := .bool _) rfl ?_
                  refine S_nil ?_
                  refine S_twoJ 5 51 hF (fun J68 hb67 hF => ?_) (fun J68 hb67 hF => ?_) (fun v69 hF => ?_)
                  ·
                    refine S_off rfl rfl hb67 ?_
                    refine S_offD ?_
                    refine S_off rfl rfl hb67 ?_
                    refine S_offD ?_
                    refine S_off rfl rfl hb67 ?_
                    refine S_offD ?_
                    refine S_off rfl rfl hb67 ?_
                    refine S_offD ?_
                    refine S_on rfl rfl hb63 ?_
                    refine S_in ?_
                    refine S_pickT (v := .bool _) rfl hb67 rfl ?_
                    refine S_nil ?_
                    refine S_nil ?_
                    refine ⟨_, hF, .hd (.refl _) ?_⟩
                    repeat (first | with_reducible exact WS.refl _ | refine WS.add ?_ rfl)
                  ·
                    refine S_on rfl rfl hb67 ?_
                    refine S_in ?_
                    refine S_ldP (j := 0) ok rfl rfl rfl hi61 (p_agg (vs := c_T_trail_Trail x62.1) ty_ag_26 ty_sz_26 rfl rfl) ?_
                    refine S_nil ?_
                    refine S_on rfl rfl hb67 ?_
                    refine S_in ?_
                    refine S_ldP (j := 1) ok rfl rfl rfl hg40 (p_agg (vs := c_T_trail_Trail (⟨a41, a42, (⟨a43, a44⟩ : T_api_Name)⟩ : T_trail_Trail)) ty_ag_26 ty_sz_26 rfl rfl) ?_
                    refine S_nil ?_
                    refine S_on rfl rfl hb67 ?_
                    refine S_in ?_
                    refine S_call (F_trail_Compare_ok _ hF fun x70 _ hF => ?_) (.cons (.refl _) (.cons (.refl _) (.nil)))
                    refine S_nil ?_
                    refine S_on rfl rfl hb67 ?_
                    refine S_in ?_
                    refine S_bin rfl rfl (ev_neq ..) ?_
                    refine S_nil ?_
                    refine S_on rfl rfl hb63 ?_
                    refine S_in ?_
                    refine S_pickF (v := .bool _) rfl hb67 rfl ?_
                    refine S_nil ?_
                    refine S_nil ?_
                    refine ⟨_, hF, .hd (.refl _) ?_⟩
                    repeat (first | with_reducible exact WS.refl _ | refine WS.add ?_ rfl)
                  ·
                    refine S_on rfl rfl hb63 ?_
                    refine S_in ?_
                    refine S_m (v := .bool _) rfl ?_
                    refine S_nil ?_
                    refine S_two (b := v69) 3 55 (.bool (v69 || x62.1.Attr)) (fun hb71 => ?_) (fun hb71 => ?_) ?_
                    ·
                      refine S_off rfl rfl hb71 ?_
                      refine S_offD ?_
                      refine S_off rfl rfl hb71 ?_
                      refine S_offD ?_
                      refine S_on rfl rfl hb63 ?_
                      refine S_in ?_
                      refine S_pickT (v := .bool _) rfl hb71 rfl ?_
                      refine S_nil ?_
                      refine S_nil ?_
                      refine .hd (or_t hb71) ?_
                      repeat (first | with_reducible exact WS.refl _ | refine WS.add ?_ rfl)
                    ·
                      refine S_on rfl rfl hb71 ?_
                      refine S_in ?_
                      refine S_faP rfl ty_fd_26_1 ty_sz_4 ?_
                      refine S_nil ?_
                      refine S_on rfl rfl hb71 ?_
                      refine S_in ?_
                      refine S_ldP (j := 0) ok rfl rfl rfl hi61 (p_one (v := .bool x62.1.Attr) ty_ag_4 ty_sz_4 rfl) ?_
                      refine S_nil ?_
                      refine S_on rfl rfl hb63 ?_
                      refine S_in ?_
                      refine S_pickF (v := .bool _) rfl hb71 rfl ?_
                      refine S_nil ?_
                      refine S_nil ?_
                      refine .hd (or_f hb71) ?_
                      repeat (first | with_reducible exact WS.refl _ | refine WS.add ?_ rfl)
                    refine S_pickT (v := .bool _) rfl hb63 rfl ?_
                    refine S_nil ?_
                    refine ⟨_, hF, .hd (.refl _) ?_⟩
                    repeat (first | with_reducible exact WS.refl _ | refine WS.add ?_ rfl)
                ·
                  refine S_off rfl rfl hb63 ?_
                  refine S_offD ?_
                  refine S_off rfl rfl hb63 ?_
                  refine S_offD ?_
                  refine S_off rfl rfl hb63 ?_
                  refine S_offD ?_
                  refine S_off rfl rfl hb63 ?_
                  refine S_offD ?_
                  refine S_off rfl rfl hb63 ?_
                  refine S_offD ?_
                  refine S_off2 rfl rfl ?_
                  refine S_offD ?_
                  refine S_off2 rfl rfl ?_
                  refine S_offD ?_
                  refine S_off2 rfl rfl ?_
                  refine S_offD ?_
                  refine S_off2 rfl rfl ?_
                  refine S_offD ?_
                  refine S_off rfl rfl hb63 ?_
                  refine S_offD ?_
                  refine S_off rfl rfl hb63 ?_
                  refine S_offD ?_
                  refine S_off2 rfl rfl ?_
                  refine S_offD ?_
                  refine S_off2 rfl rfl ?_
                  refine S_offD ?_
                  refine S_off rfl rfl hb63 ?_
                  refine S_offD ?_
                  refine S_pickF (v := .bool _) rfl hb63 rfl ?_
                  refine S_nil ?_
                  refine ⟨_, hF, .hd (.refl _) ?_⟩
                  repeat (first | with_reducible exact WS.refl _ | refine WS.add ?_ rfl)
                ·
                  refine S_nil ?_
                  refine C_if (b := v65) rfl hF (fun hb72 hF => ?_) (fun hb72 hF => ?_)
                  ·
                    refine C_seq ?_
                    refine C_reg (mdl []) ?_
                    refine S_a (v := .bool _) rfl ?_
                    refine S_nil ?_
                    refine WP_ret ?_
                    replace hF := hG47 _ (F_some hF)
                    repeat (first | with_reducible refine Exit.sel_ret ?_ | with_reducible refine Exit.blk_ret ?_)
                    refine C_ret (fn := Tryd.f8) rfl (.tmp (v := .bool false) rfl .nil) ?_
                    exact ⟨_, _, (.refl _), WH.refl _, _, F_some hF, rfl⟩
                  ·
                    refine WP_skip ?_
                    refine C_reg (mdl []) ?_
                    refine S_ldP (j := 0) ok rfl rfl rfl hi61 (p_agg (vs := c_T_trail_Trail x62.1) ty_ag_26 ty_sz_26 rfl rfl) ?_
                    refine S_st (j := 1) (cs' := [.sl 1 (List.map c_i64 x62.1.Steps) 0, .bool x62.1.Attr, .str x62.1.Name.URI, .str x62.1.Name.Local]) ok rfl rfl rfl hg40 rfl ty_sz_26 rfl rfl (fun ok => ?_)
                    refine S_nil ?_
                    refine C_seq ?_
                    refine C_seq ?_
                    refine C_reg (mdl []) ?_
                    refine S_ldP (j := 1) ok rfl rfl rfl hg40 (p_agg (vs := c_T_trail_Trail x62.1) ty_ag_26 ty_sz_26 rfl rfl) ?_
                    refine S_nil ?_
                    refine C_reg (mdl [(6, 1)]) ?_
                    refine S_all1 ok rfl ty_zc_26 ?_
                    intro i73 hi73 ok
                    refine S_st (j := 0) (cs' := [.sl 1 (List.map c_i64 x62.1.Steps) 0, .bool x62.1.Attr, .str x62.1.Name.URI, .str x62.1.Name.Local]) ok rfl rfl rfl hi73 rfl ty_sz_26 rfl rfl (fun ok => ?_)
                    refine S_nil ?_
                    refine C_reg (mdl []) ?_
                    refine S_m (v := .int _ _) rfl ?_
                    refine S_bin rfl rfl (ev_add ..) ?_
                    refine S_a (v := .int _ _) rfl ?_
                    refine S_nil ?_
                    refine ih49 ((IntKind.wrap .i64 (a39 + (1 : Int))), x62.1.Steps, x62.1.Attr, x62.1.Name.URI, x62.1.Name.Local, x62.2) _ hF ?_
                    have hwo : WO [(i73, .cells [.sl 1 (List.map c_i64 x62.1.Steps) 0, .bool x62.1.Attr, .str x62.1.Name.URI, .str x62.1.Name.Local]), (i61, .cells [.sl 1 (List.map c_i64 x62.1.Steps) 0, .bool x62.1.Attr, .str x62.1.Name.URI, .str x62.1.Name.Local]), (g40, .cells [.sl 1 (List.map c_i64 x62.1.Steps) 0, .bool x62.1.Attr, .str x62.1.Name.URI, .str x62.1.Name.Local])] [(i73, .cells [.sl 1 (List.map c_i64 x62.1.Steps) 0, .bool x62.1.Attr, .str x62.1.Name.URI, .str x62.1.Name.Local])] := (.keep (.drop (.drop .nil)))
                    exact ⟨i73, hi73, (hwo.spec ok).1, WS.mk' (.cons (.refl _) (.cons (.refl _) (.cons (.refl _) (.cons (.refl _) (.cons (.refl _) .nil))))) ok hwo⟩
          ·
            refine WP_exit ?_
            simp only [Exit.sel, Exit.blk, if_true, if_false, reduceIte, Nat.reduceEqDiff, Nat.succ_ne_zero, Nat.zero_ne_one, Nat.one_ne_zero]
            replace hF := hG47 _ (F_some hF)
            have hwo : WO [(g40, .cells [.sl 1 (List.map c_i64 a41) 0, .bool a42, .str a43, .str a44])] [] := (.drop .nil)
            exact ⟨a39, hF, (hwo.spec ok).1, WS.mk' (.cons (.refl _) (.cons (.refl _) .nil)) ok hwo⟩
      ·
        rintro a36 s' hF ⟨ok, hws⟩
        refine WP_ws hws ?_
        clear hws s'
        refine C_seq ?_
        refine C_reg (mdl []) ?_
        refine S_faQ rfl ty_fd_26_0 ty_sz_22 rfl ?_
        refine S_ldQ rfl (p_one ty_ag_22 ty_sz_22 rfl) ?_
        refine S_lenL rfl ty_sl_22 ?_
        refine S_bin rfl rfl (ev_add ..) ?_
        refine S_a (v := .int _ _) rfl ?_
        refine S_nil ?_
        refine C_join hF (fun (a75 : Int) s' => OK h [] ∧ WS s' ⟨mkSl 70 [(5, .int .i64 a36), (9, .int .i64 a75)], Hp h []⟩) (fun J76 hF => ?_) ?_
        ·
          refine C_seq ?_
          refine C_reg (mdl []) ?_
          refine S_faQ rfl ty_fd_26_1 ty_sz_4 rfl ?_
          refine S_ldQ rfl (p_one ty_ag_4 ty_sz_4 rfl) ?_
          refine S_nil ?_
          refine C_if (b := p0.Attr) rfl hF (fun hb77 hF => ?_) (fun hb77 hF => ?_)
          ·
            refine C_reg (mdl []) ?_
            refine S_m (v := .int _ _) rfl ?_
            refine S_bin rfl rfl (ev_add ..) ?_
            refine S_a (v := .int _ _) rfl ?_
            refine S_nil ?_
            have hwo : WO [] [] := .nil
            exact ⟨(IntKind.wrap .i64 ((IntKind.wrap .i64 ((p0.Steps.length : Int) + (1 : Int))) + (1 : Int))), hF, (hwo.spec ok).1, WS.mk' (.cons (.refl _) (.cons (.refl _) .nil)) ok hwo⟩
          ·
            refine WP_skip ?_
            have hwo : WO [] [] := .nil
            exact ⟨(IntKind.wrap .i64 ((p0.Steps.length : Int) + (1 : Int))), hF, (hwo.spec ok).1, WS.mk' (.cons (.refl _) (.cons (.refl _) .nil)) ok hwo⟩
        ·
          rintro a75 s' hF ⟨ok, hws⟩
          refine WP_ws hws ?_
          clear hws s'
          refine C_seq ?_
          refine C_reg (mdl []) ?_
          refine S_m (v := .int _ _) rfl ?_
          refine S_m (v := .int _ _) rfl ?_
          refine S_bin rfl rfl (ev_eql ..) ?_
          refine S_a (v := .bool _) rfl ?_
          refine S_nil ?_
          refine WP_ret ?_
          repeat (first | with_reducible refine Exit.sel_ret ?_ | with_reducible refine Exit.blk_ret ?_)
          refine C_ret (fn := Tryd.f8) rfl (.tmp (v := .bool (a36 == a75)) rfl .nil) ?_
          exact ⟨_, _, (.refl _), WH.refl _, _, F_some hF, rfl⟩
end Go.Proofs.YtggnjahdjmncaaaDoor
