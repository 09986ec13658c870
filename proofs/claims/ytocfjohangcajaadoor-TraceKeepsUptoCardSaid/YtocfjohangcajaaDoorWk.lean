/- The walks. No condition. -/
import Derived.Test.YtocfjohangcajaaDoorWk1
set_option linter.unusedVariables false
set_option linter.unusedSimpArgs false
set_option maxRecDepth 20000
set_option maxHeartbeats 8000000
namespace Go.Proofs.YtocfjohangcajaaDoor
theorem F_lecternlaw10_figure_w (p0 : List T_lecternlaw10_Line) {G : (List T_trace_Stroke) × (List T_lecternref10_Stroke) × Bool → Prop} (h : Heap) (hF : OptP (F_lecternlaw10_figure p0) G) : CallsA Tryd.prog 15 [.sl 2 (List.map c_T_lecternlaw10_Line p0) 0] h fun d h' => ∃ r, G r ∧ d = .tup [.sl 2 (List.map c_T_trace_Stroke r.1) 0, .sl 2 (List.map c_T_lecternref10_Stroke r.2.1) 0, .bool r.2.2] ∧ h' = h := by
  refine CallsA.ret ?_
  refine C_body Tryd.func15 rfl en_15 Tryd.ntmps15 rfl (fun ok => ?_)
  rw [F_lecternlaw10_figure] at hF
  refine C_seq ?_
  refine C_reg (mdl []) ?_
  refine S_a (v := .snil) rfl ?_
  refine S_one 2 (v := .sl 2 (List.map c_T_trace_Stroke ([] : List T_trace_Stroke)) 0) (.nil _) ?_
  refine S_a (v := .snil) rfl ?_
  refine S_one 3 (v := .sl 2 (List.map c_T_lecternref10_Stroke ([] : List T_lecternref10_Stroke)) 0) (.nil _) ?_
  refine S_a (v := .bool _) rfl ?_
  refine S_nil ?_
  refine C_seq ?_
  refine C_reg (mdl []) ?_
  refine S_a (v := .snil) rfl ?_
  refine S_ghost 5 2 ok rfl rfl ?_
  intro r1 hr1 ok
  refine S_nil ?_
  refine C_seq ?_
  refine C_reg (mdl []) ?_
  refine S_a (v := .snil) rfl ?_
  refine S_ghost 6 2 ok rfl rfl ?_
  intro r2 hr2 ok
  refine S_nil ?_
  refine C_seq ?_
  refine C_reg (mdl []) ?_
  refine S_a (v := .bool _) rfl ?_
  refine S_nil ?_
  refine C_join hF (fun (v : (List T_trace_Stroke) × (List T_lecternref10_Stroke) × Bool) s' => match v with | (a113, a115, a117) => ∃ g114 g116 : Nat, g114 ≠ 0 ∧ g116 ≠ 0 ∧ OK h [(g116, .room), (g114, .room)] ∧ WS s' ⟨mkSl 97 [(5, .sl 2 (List.map c_T_trace_Stroke a113) g114), (6, .sl 2 (List.map c_T_lecternref10_Stroke a115) g116), (7, .bool a117)], Hp h [(g116, .room), (g114, .room)]⟩) (fun J118 hF => ?_) ?_
  ·
    refine C_seq ?_
    refine C_reg (mdl []) ?_
    refine S_m (v := .sl _ _ _) rfl ?_
    refine S_lenL rfl ty_sl_32 ?_
    refine S_m (v := .int _ _) rfl ?_
    refine S_nil ?_
    refine WP_block ?_
    refine C_loop (σ := (List T_trace_Stroke) × (List T_lecternref10_Stroke) × Bool × Int) hF (fun (v : (List T_trace_Stroke) × (List T_lecternref10_Stroke) × Bool × Int) s' => match v with | (a119, a121, a123, a124) => ∃ g120 g122 : Nat, g120 ≠ 0 ∧ g122 ≠ 0 ∧ OK h [(g122, .room), (g120, .room)] ∧ WS s' ⟨mkSl 97 [(5, .sl 2 (List.map c_T_trace_Stroke a119) g120), (6, .sl 2 (List.map c_T_lecternref10_Stroke a121) g122), (7, .bool a123), (15, .sl 2 (List.map c_T_lecternlaw10_Line p0) 0), (16, .int .i64 (p0.length : Int)), (17, .int .i64 a124)], Hp h [(g122, .room), (g120, .room)]⟩) ?_ ?_
    ·
      have hwo : WO [(r2, .room), (r1, .room)] [(r2, .room), (r1, .room)] := (.keep (.keep .nil))
      exact ⟨r1, r2, hr1, hr2, (hwo.spec ok).1, WS.mk' (.cons (.refl _) (.cons (.refl _) (.cons (.refl _) (.cons (.refl _) (.cons (.refl _) (.cons (.refl _) .nil)))))) ok hwo⟩
    ·
      rintro G125 hG126 rec127 ⟨a119, a121, a123, a124⟩ s' ih128 hF ⟨g120, g122, hg120, hg122, ok, hws⟩
      refine WP_ws hws ?_
      clear hws s'
      rw [F_lecternlaw10_figure_l0] at hF
      refine C_seq ?_
      refine C_reg (mdl []) ?_
      refine S_bin rfl rfl (ev_lss ..) ?_
      refine S_nil ?_
      refine C_seq ?_
      refine C_if (b := (decide (a124 < (p0.length : Int)))) rfl hF (fun hb129 hF => ?_) (fun hb129 hF => ?_)
      ·
        refine WP_skip ?_
        refine C_join hF (fun (v : (List T_trace_Stroke) × (List T_lecternref10_Stroke) × Bool) s' => match v with | (a179, a181, a183) => ∃ g180 g182 : Nat, g180 ≠ 0 ∧ g182 ≠ 0 ∧ OK h [(g182, .room), (g180, .room)] ∧ WS s' ⟨mkSl 97 [(5, .sl 2 (List.map c_T_trace_Stroke a179) g180), (6, .sl 2 (List.map c_T_lecternref10_Stroke a181) g182), (7, .bool a183), (15, .sl 2 (List.map c_T_lecternlaw10_Line p0) 0), (16, .int .i64 (p0.length : Int)), (17, .int .i64 a124)], Hp h [(g182, .room), (g180, .room)]⟩) (fun J184 hF => ?_) ?_
        ·
          refine WP_block ?_
          refine C_seq ?_
          refine C_reg (mdl [(9, 1)]) ?_
          refine S_ix rfl rfl ty_sl_32 ty_sz_84 hF (fun x185 _ hF => ?_)
          refine S_ldQ rfl (p_agg (vs := c_T_lecternlaw10_Line x185) ty_ag_84 ty_sz_84 rfl rfl) ?_
          refine S_all1 ok rfl ty_zc_84 ?_
          intro i186 hi186 ok
          refine S_st (j := 0) (cs' := [.sl 1 (List.map c_i64 x185.Parts) 0, .bool x185.Closed]) ok rfl rfl rfl hi186 rfl ty_sz_84 rfl rfl (fun ok => ?_)
          refine S_nil ?_
          refine C_seq ?_
          refine C_reg (mdl [(10, 1)]) ?_
          refine S_faP rfl ty_fd_84_1 ty_sz_4 ?_
          refine S_ldP (j := 0) ok rfl rfl rfl hi186 (p_one (v := .bool x185.Closed) ty_ag_4 ty_sz_4 rfl) ?_
          refine S_bld (v := .agg [.snil, .bool x185.Closed]) (b_st ty_zc_56 ty_pl_56 rfl) ?_
          refine S_all1 ok rfl ty_zc_56 ?_
          intro i187 hi187 ok
          refine S_st (j := 0) (cs' := [.snil, .bool x185.Closed]) ok rfl rfl rfl hi187 rfl ty_sz_56 rfl rfl (fun ok => ?_)
          refine S_ghostO 0 0 1 (fun r188 => [.sl 1 (List.map c_cplx ([] : List (Nat × Nat))) r188, .bool x185.Closed]) ok rfl hi187 rfl (fun _ => rfl) ?_
          intro r188 hr188 ok
          refine S_nil ?_
          refine C_seq ?_
          refine C_reg (mdl [(11, 1)]) ?_
          refine S_faP rfl ty_fd_84_1 ty_sz_4 ?_
          refine S_ldP (j := 2) ok rfl rfl rfl hi186 (p_one (v := .bool x185.Closed) ty_ag_4 ty_sz_4 rfl) ?_
          refine S_bld (v := .agg [.snil, .bool x185.Closed]) (b_st ty_zc_80 ty_pl_80 rfl) ?_
          refine S_all1 ok rfl ty_zc_80 ?_
          intro i189 hi189 ok
          refine S_st (j := 0) (cs' := [.snil, .bool x185.Closed]) ok rfl rfl rfl hi189 rfl ty_sz_80 rfl rfl (fun ok => ?_)
          refine S_ghostO 0 0 2 (fun r190 => [.sl 2 (List.map c_T_lecternref10_Spot ([] : List T_lecternref10_Spot)) r190, .bool x185.Closed]) ok rfl hi189 rfl (fun _ => rfl) ?_
          intro r190 hr190 ok
          refine S_nil ?_
          refine C_join hF (fun (v : Bool × (List (Nat × Nat)) × Bool × (List T_lecternref10_Spot) × Bool) s' => match v with | (a208, a209, a211, a212, a214) => ∃ g210 g213 : Nat, g210 ≠ 0 ∧ g213 ≠ 0 ∧ OK h [(g213, .room), (i189, .cells [.sl 2 (List.map c_T_lecternref10_Spot a212) g213, .bool a214]), (g210, .room), (i187, .cells [.sl 1 (List.map c_cplx a209) g210, .bool a211]), (g122, .room), (g120, .room)] ∧ WS s' ⟨mkSl 97 [(5, .sl 2 (List.map c_T_trace_Stroke a119) g120), (6, .sl 2 (List.map c_T_lecternref10_Stroke a121) g122), (7, .bool a208), (10, .ptr i187 0), (11, .ptr i189 0), (15, .sl 2 (List.map c_T_lecternlaw10_Line p0) 0), (16, .int .i64 (p0.length : Int)), (17, .int .i64 a124)], Hp h [(g213, .room), (i189, .cells [.sl 2 (List.map c_T_lecternref10_Spot a212) g213, .bool a214]), (g210, .room), (i187, .cells [.sl 1 (List.map c_cplx a209) g210, .bool a211]), (g122, .room), (g120, .room)]⟩) (fun J215 hF => ?_) ?_
          ·
            refine C_seq ?_
            refine C_reg (mdl []) ?_
            refine S_a (v := .int _ _) rfl ?_
            refine S_nil ?_
            refine WP_block ?_
            refine C_loop (σ := Bool × (List (Nat × Nat)) × Bool × (List T_lecternref10_Spot) × Bool × Int) hF (fun (v : Bool × (List (Nat × Nat)) × Bool × (List T_lecternref10_Spot) × Bool × Int) s' => match v with | (a216, a217, a219, a220, a222, a223) => ∃ g218 g221 : Nat, g218 ≠ 0 ∧ g221 ≠ 0 ∧ OK h [(g221, .room), (i189, .cells [.sl 2 (List.map c_T_lecternref10_Spot a220) g221, .bool a222]), (g218, .room), (i187, .cells [.sl 1 (List.map c_cplx a217) g218, .bool a219]), (i186, .cells [.sl 1 (List.map c_i64 x185.Parts) 0, .bool x185.Closed]), (g122, .room), (g120, .room)] ∧ WS s' ⟨mkSl 97 [(5, .sl 2 (List.map c_T_trace_Stroke a119) g120), (6, .sl 2 (List.map c_T_lecternref10_Stroke a121) g122), (7, .bool a216), (9, .ptr i186 0), (10, .ptr i187 0), (11, .ptr i189 0), (12, .int .i64 a223), (15, .sl 2 (List.map c_T_lecternlaw10_Line p0) 0), (16, .int .i64 (p0.length : Int)), (17, .int .i64 a124)], Hp h [(g221, .room), (i189, .cells [.sl 2 (List.map c_T_lecternref10_Spot a220) g221, .bool a222]), (g218, .room), (i187, .cells [.sl 1 (List.map c_cplx a217) g218, .bool a219]), (i186, .cells [.sl 1 (List.map c_i64 x185.Parts) 0, .bool x185.Closed]), (g122, .room), (g120, .room)]⟩) ?_ ?_
            ·
              have hwo : WO [(r190, .room), (i189, .cells [.sl 2 (List.map c_T_lecternref10_Spot ([] : List T_lecternref10_Spot)) r190, .bool x185.Closed]), (r188, .room), (i187, .cells [.sl 1 (List.map c_cplx ([] : List (Nat × Nat))) r188, .bool x185.Closed]), (i186, .cells [.sl 1 (List.map c_i64 x185.Parts) 0, .bool x185.Closed]), (g122, .room), (g120, .room)] [(r190, .room), (i189, .cells [.sl 2 (List.map c_T_lecternref10_Spot ([] : List T_lecternref10_Spot)) r190, .bool x185.Closed]), (r188, .room), (i187, .cells [.sl 1 (List.map c_cplx ([] : List (Nat × Nat))) r188, .bool x185.Closed]), (i186, .cells [.sl 1 (List.map c_i64 x185.Parts) 0, .bool x185.Closed]), (g122, .room), (g120, .room)] := (.keep (.keep (.keep (.keep (.keep (.keep (.keep .nil)))))))
              exact ⟨r188, r190, hr188, hr190, (hwo.spec ok).1, WS.mk' (.cons (.refl _) (.cons (.refl _) (.cons (.refl _) (.cons (.refl _) (.cons (.refl _) (.cons (.refl _) (.cons (.refl _) (.cons (.refl _) (.cons (.refl _) (.cons (.refl _) .nil)))))))))) ok hwo⟩
            ·
              rintro G224 hG225 rec226 ⟨a216, a217, a219, a220, a222, a223⟩ s' ih227 hF ⟨g218, g221, hg218, hg221, ok, hws⟩
              refine WP_ws hws ?_
              clear hws s'
              rw [F_lecternlaw10_figure_l1] at hF
              refine C_seq ?_
              refine C_seq ?_
              refine C_reg (mdl []) ?_
              refine S_m (v := .int _ _) rfl ?_
              refine S_bin rfl rfl (ev_add ..) ?_
              refine S_faP rfl ty_fd_84_0 ty_sz_82 ?_
              refine S_ldP (j := 4) ok rfl rfl rfl hi186 (p_one (v := .sl 1 (List.map c_i64 x185.Parts) 0) ty_ag_82 ty_sz_82 rfl) ?_
              refine S_lenL rfl ty_sl_82 ?_
              refine S_bin rfl rfl (ev_lss ..) ?_
              refine S_nil ?_
              refine C_if (b := (decide ((IntKind.wrap .i64 (a223 + (1 : Int))) < (x185.Parts.length : Int)))) rfl hF (fun hb228 hF => ?_) (fun hb228 hF => ?_)
              ·
                refine WP_skip ?_
                refine C_seq ?_
                refine WP_block ?_
                refine C_seq ?_
                refine C_drw (mdl [(39, 3), (45, 3)]) (by kernel_rfl) (by kernel_rfl) ?_
                refine S_faP rfl ty_fd_84_0 ty_sz_82 ?_
                refine S_ldP (j := 4) ok rfl rfl rfl hi186 (p_one (v := .sl 1 (List.map c_i64 x185.Parts) 0) ty_ag_82 ty_sz_82 rfl) ?_
                refine S_m (v := .int _ _) rfl ?_
                refine S_ix rfl rfl ty_sl_82 ty_sz_3 hF (fun x229 _ hF => ?_)
                refine S_ldQ rfl (p_one ty_ag_3 ty_sz_3 rfl) ?_
                refine S_faP rfl ty_fd_84_0 ty_sz_82 ?_
                refine S_ldP (j := 4) ok rfl rfl rfl hi186 (p_one (v := .sl 1 (List.map c_i64 x185.Parts) 0) ty_ag_82 ty_sz_82 rfl) ?_
                refine S_m (v := .int _ _) rfl ?_
                refine S_bin rfl rfl (ev_add ..) ?_
                refine S_ix rfl rfl ty_sl_82 ty_sz_3 hF (fun x230 _ hF => ?_)
                refine S_ldQ rfl (p_one ty_ag_3 ty_sz_3 rfl) ?_
                refine S_a (v := .int _ _) rfl ?_
                refine S_a (v := .int _ _) rfl ?_
                refine S_nil ?_
                refine C_seq ?_
                refine C_reg (mdl []) ?_
                refine S_m (v := .bool _) rfl ?_
                refine S_m (v := .bool _) rfl ?_
                refine S_two (b := a216) 3 50 (.bool (a216 && (decide ((-1000000 : Int) ≤ x229)))) (fun hb231 => ?_) (fun hb231 => ?_) ?_
                ·
                  refine S_on rfl rfl hb231 ?_
                  refine S_in ?_
                  refine S_m (v := .int _ _) rfl ?_
                  refine S_nil ?_
                  refine S_on rfl rfl hb231 ?_
                  refine S_in ?_
                  refine S_bin rfl rfl (ev_geq ..) ?_
                  refine S_nil ?_
                  refine S_pickT (v := .bool _) rfl hb231 rfl ?_
                  refine S_nil ?_
                  refine .hd (and_t hb231) ?_
                  repeat (first | with_reducible exact WS.refl _ | refine WS.add ?_ rfl | exact WS.refl _)
                ·
                  refine S_off rfl rfl hb231 ?_
                  refine S_offD ?_
                  refine S_off rfl rfl hb231 ?_
                  refine S_offD ?_
                  refine S_pickF (v := .bool _) rfl hb231 rfl ?_
                  refine S_nil ?_
                  refine .hd (and_f hb231) ?_
                  repeat (first | with_reducible exact WS.refl _ | refine WS.add ?_ rfl | exact WS.refl _)
                refine S_m (v := .bool _) rfl ?_
                refine S_two (b := (a216 && (decide ((-1000000 : Int) ≤ x229)))) 3 54 (.bool ((a216 && (decide ((-1000000 : Int) ≤ x229))) && (decide (x229 ≤ (1000000 : Int))))) (fun hb232 => ?_) (fun hb232 => ?_) ?_
                ·
                  refine S_on rfl rfl hb232 ?_
                  refine S_in ?_
                  refine S_m (v := .int _ _) rfl ?_
                  refine S_nil ?_
                  refine S_on rfl rfl hb232 ?_
                  refine S_in ?_
                  refine S_bin rfl rfl (ev_leq ..) ?_
                  refine S_nil ?_
                  refine S_pickT (v := .bool _) rfl hb232 rfl ?_
                  refine S_nil ?_
                  refine .hd (and_t hb232) ?_
                  repeat (first | with_reducible exact WS.refl _ | refine WS.add ?_ rfl | exact WS.refl _)
                ·
                  refine S_off rfl rfl hb232 ?_
                  refine S_offD ?_
                  refine S_off rfl rfl hb232 ?_
                  refine S_offD ?_
                  refine S_pickF (v := .bool _) rfl hb232 rfl ?_
                  refine S_nil ?_
                  refine .hd (and_f hb232) ?_
                  repeat (first | with_reducible exact WS.refl _ | refine WS.add ?_ rfl | exact WS.refl _)
                refine S_m (v := .bool _) rfl ?_
                refine S_two (b := ((a216 && (decide ((-1000000 : Int) ≤ x229))) && (decide (x229 ≤ (1000000 : Int))))) 3 58 (.bool (((a216 && (decide ((-1000000 : Int) ≤ x229))) && (decide (x229 ≤ (1000000 : Int)))) && (decide ((-1000000 : Int) ≤ x230)))) (fun hb233 => ?_) (fun hb233 => ?_) ?_
                ·
                  refine S_on rfl rfl hb233 ?_
                  refine S_in ?_
                  refine S_m (v := .int _ _) rfl ?_
                  refine S_nil ?_
                  refine S_on rfl rfl hb233 ?_
                  refine S_in ?_
                  refine S_bin rfl rfl (ev_geq ..) ?_
                  refine S_nil ?_
                  refine S_pickT (v := .bool _) rfl hb233 rfl ?_
                  refine S_nil ?_
                  refine .hd (and_t hb233) ?_
                  repeat (first | with_reducible exact WS.refl _ | refine WS.add ?_ rfl | exact WS.refl _)
                ·
                  refine S_off rfl rfl hb233 ?_
                  refine S_offD ?_
                  refine S_off rfl rfl hb233 ?_
                  refine S_offD ?_
                  refine S_pickF (v := .bool _) rfl hb233 rfl ?_
                  refine S_nil ?_
                  refine .hd (and_f hb233) ?_
                  repeat (first | with_reducible exact WS.refl _ | refine WS.add ?_ rfl | exact WS.refl _)
                refine S_m (v := .bool _) rfl ?_
                refine S_two (b := (((a216 && (decide ((-1000000 : Int) ≤ x229))) && (decide (x229 ≤ (1000000 : Int)))) && (decide ((-1000000 : Int) ≤ x230)))) 3 62 (.bool ((((a216 && (decide ((-1000000 : Int) ≤ x229))) && (decide (x229 ≤ (1000000 : Int)))) && (decide ((-1000000 : Int) ≤ x230))) && (decide (x230 ≤ (1000000 : Int))))) (fun hb234 => ?_) (fun hb234 => ?_) ?_
                ·
                  refine S_on rfl rfl hb234 ?_
                  refine S_in ?_
                  refine S_m (v := .int _ _) rfl ?_
                  refine S_nil ?_
                  refine S_on rfl rfl hb234 ?_
                  refine S_in ?_
                  refine S_bin rfl rfl (ev_leq ..) ?_
                  refine S_nil ?_
                  refine S_pickT (v := .bool _) rfl hb234 rfl ?_
                  refine S_nil ?_
                  refine .hd (and_t hb234) ?_
                  repeat (first | with_reducible exact WS.refl _ | refine WS.add ?_ rfl | exact WS.refl _)
                ·
                  refine S_off rfl rfl hb234 ?_
                  refine S_offD ?_
                  refine S_off rfl rfl hb234 ?_
                  refine S_offD ?_
                  refine S_pickF (v := .bool _) rfl hb234 rfl ?_
                  refine S_nil ?_
                  refine .hd (and_f hb234) ?_
                  repeat (first | with_reducible exact WS.refl _ | refine WS.add ?_ rfl | exact WS.refl _)
                refine S_a (v := .bool _) rfl ?_
                refine S_nil ?_
                refine C_seq ?_
                refine C_reg (mdl [(71, 2)]) ?_
                refine S_faP rfl ty_fd_56_0 ty_sz_54 ?_
                refine S_ldP (j := 3) ok rfl rfl rfl hi187 (p_one (v := .sl 1 (List.map c_cplx a217) g218) ty_ag_54 ty_sz_54 rfl) ?_
                refine S_m (v := .int _ _) rfl ?_
                refine S_conv rfl (e_i2f ty_ki_40 ty_fa_40 ty_un_3) ?_
                refine S_m (v := .int _ _) rfl ?_
                refine S_conv rfl (e_i2f ty_ki_40 ty_fa_40 ty_un_3) ?_
                refine S_cplx (a := (i2f x229)) (b := (i2f x230)) rfl rfl ?_
                refine S_lit0 (cs := [.cplx .f64 (((i2f x229), (i2f x230)) : Nat × Nat).1 (((i2f x229), (i2f x230)) : Nat × Nat).2]) (es := (List.map c_cplx [(((i2f x229), (i2f x230)) : Nat × Nat)])) rfl ty_el_54 rfl (by kernel_rfl) (by kernel_rfl) ?_
                refine S_app (j := 2) ok rfl rfl rfl rfl hg218 ty_el_54 ty_ni_54 hF ?_
                intro r235 hr235 ok hF
                refine S_faP rfl ty_fd_56_0 ty_sz_54 ?_
                refine S_st (j := 3) (cs' := [.sl 1 (List.map c_cplx (a217 ++ [(((i2f x229), (i2f x230)) : Nat × Nat)])) r235, .bool a219]) ok rfl rfl rfl hi187 rfl ty_sz_54 rfl rfl (fun ok => ?_)
                refine S_nil ?_
                refine C_reg (mdl [(79, 2)]) ?_
                refine S_faP rfl ty_fd_80_0 ty_sz_78 ?_
                refine S_ldP (j := 1) ok rfl rfl rfl hi189 (p_one (v := .sl 2 (List.map c_T_lecternref10_Spot a220) g221) ty_ag_78 ty_sz_78 rfl) ?_
                refine S_m (v := .int _ _) rfl ?_
                refine S_m (v := .int _ _) rfl ?_
                refine S_bld (v := .agg (c_T_lecternref10_Spot (⟨x229, x230⟩ : T_lecternref10_Spot))) (b_st ty_zc_52 ty_pl_52 rfl) ?_
                refine S_lit0 (cs := [.int .i64 (⟨x229, x230⟩ : T_lecternref10_Spot).X, .int .i64 (⟨x229, x230⟩ : T_lecternref10_Spot).Y]) (es := (List.map c_T_lecternref10_Spot [(⟨x229, x230⟩ : T_lecternref10_Spot)])) rfl ty_el_78 rfl (by kernel_rfl) (by kernel_rfl) ?_
                refine S_app (j := 0) ok rfl rfl rfl rfl hg221 ty_el_78 ty_ni_78 hF ?_
                intro r236 hr236 ok hF
                refine S_faP rfl ty_fd_80_0 ty_sz_78 ?_
                refine S_st (j := 1) (cs' := [.sl 2 (List.map c_T_lecternref10_Spot (a220 ++ [(⟨x229, x230⟩ : T_lecternref10_Spot)])) r236, .bool a222]) ok rfl rfl rfl hi189 rfl ty_sz_78 rfl rfl (fun ok => ?_)
                refine S_nil ?_
                refine C_reg (mdl []) ?_
                refine S_m (v := .int _ _) rfl ?_
                refine S_bin rfl rfl (ev_add ..) ?_
                refine S_a (v := .int _ _) rfl ?_
                refine S_nil ?_
                refine ih227 (((((a216 && (decide ((-1000000 : Int) ≤ x229))) && (decide (x229 ≤ (1000000 : Int)))) && (decide ((-1000000 : Int) ≤ x230))) && (decide (x230 ≤ (1000000 : Int)))), (a217 ++ [(((i2f x229), (i2f x230)) : Nat × Nat)]), a219, (a220 ++ [(⟨x229, x230⟩ : T_lecternref10_Spot)]), a222, (IntKind.wrap .i64 (a223 + (2 : Int)))) _ hF ?_
                have hwo : WO [(r236, .room), (i189, .cells [.sl 2 (List.map c_T_lecternref10_Spot (a220 ++ [(⟨x229, x230⟩ : T_lecternref10_Spot)])) r236, .bool a222]), (r235, .room), (i187, .cells [.sl 1 (List.map c_cplx (a217 ++ [(((i2f x229), (i2f x230)) : Nat × Nat)])) r235, .bool a219]), (i186, .cells [.sl 1 (List.map c_i64 x185.Parts) 0, .bool x185.Closed]), (g122, .room), (g120, .room)] [(r236, .room), (i189, .cells [.sl 2 (List.map c_T_lecternref10_Spot (a220 ++ [(⟨x229, x230⟩ : T_lecternref10_Spot)])) r236, .bool a222]), (r235, .room), (i187, .cells [.sl 1 (List.map c_cplx (a217 ++ [(((i2f x229), (i2f x230)) : Nat × Nat)])) r235, .bool a219]), (i186, .cells [.sl 1 (List.map c_i64 x185.Parts) 0, .bool x185.Closed]), (g122, .room), (g120, .room)] := (.keep (.keep (.keep (.keep (.keep (.keep (.keep .nil)))))))
                exact ⟨r235, r236, hr235, hr236, (hwo.spec ok).1, WS.mk' (.cons (.refl _) (.cons (.refl _) (.cons (.refl _) (.cons (.refl _) (.cons (.refl _) (.cons (.refl _) (.cons (.refl _) (.cons (.refl _) (.cons (.refl _) (.cons (.refl _) .nil)))))))))) ok hwo⟩
              ·
                refine WP_exit ?_
                simp only [Exit.sel, Exit.blk, Exit.jmp, if_true, if_false, reduceIte, Nat.reduceEqDiff, Nat.succ_ne_zero, Nat.zero_ne_one, Nat.one_ne_zero]
                replace hF := hG225 _ (F_some hF)
                have hwo : WO [(g221, .room), (i189, .cells [.sl 2 (List.map c_T_lecternref10_Spot a220) g221, .bool a222]), (g218, .room), (i187, .cells [.sl 1 (List.map c_cplx a217) g218, .bool a219]), (i186, .cells [.sl 1 (List.map c_i64 x185.Parts) 0, .bool x185.Closed]), (g122, .room), (g120, .room)] [(g221, .room), (i189, .cells [.sl 2 (List.map c_T_lecternref10_Spot a220) g221, .bool a222]), (g218, .room), (i187, .cells [.sl 1 (List.map c_cplx a217) g218, .bool a219]), (g122, .room), (g120, .room)] := (.keep (.keep (.keep (.keep (.drop (.keep (.keep .nil)))))))
                exact ⟨(a216, a217, a219, a220, a222), hF, g218, g221, hg218, hg221, (hwo.spec ok).1, WS.mk' (.cons (.refl _) (.cons (.refl _) (.cons (.refl _) (.cons (.refl _) (.cons (.refl _) (.cons (.refl _) (.cons (.refl _) (.cons (.refl _) .nil)))))))) ok hwo⟩
          ·
            rintro ⟨a208, a209, a211, a212, a214⟩ s' hF ⟨g210, g213, hg210, hg213, ok, hws⟩
            refine WP_ws hws ?_
            clear hws s'
            refine C_seq ?_
            refine C_reg (mdl [(84, 2)]) ?_
            refine S_m (v := .sl _ _ _) rfl ?_
            refine S_ldP (j := 3) ok rfl rfl rfl hi187 (p_agg (vs := [.sl 1 (List.map c_cplx a209) g210, .bool a211]) ty_ag_56 ty_sz_56 rfl rfl) ?_
            refine S_one 82 (v := .agg (c_T_trace_Stroke (⟨a209, a211⟩ : T_trace_Stroke))) (.aggC (.cons (.zero _ _ _) (.cons (.refl _) (.nil)))) ?_
            refine S_lit0 (cs := [.sl 1 (List.map c_cplx (⟨a209, a211⟩ : T_trace_Stroke).Spots) 0, .bool (⟨a209, a211⟩ : T_trace_Stroke).Closed]) (es := (List.map c_T_trace_Stroke [(⟨a209, a211⟩ : T_trace_Stroke)])) rfl ty_el_23 rfl (by kernel_rfl) (by kernel_rfl) ?_
            refine S_app (j := 5) ok rfl rfl rfl rfl hg120 ty_el_23 ty_ni_23 hF ?_
            intro r237 hr237 ok hF
            refine S_a (v := .sl _ _ _) rfl ?_
            refine S_nil ?_
            refine C_reg (mdl [(88, 2)]) ?_
            refine S_m (v := .sl _ _ _) rfl ?_
            refine S_ldP (j := 1) ok rfl rfl rfl hi189 (p_agg (vs := [.sl 2 (List.map c_T_lecternref10_Spot a212) g213, .bool a214]) ty_ag_80 ty_sz_80 rfl rfl) ?_
            refine S_one 86 (v := .agg (c_T_lecternref10_Stroke (⟨a212, a214⟩ : T_lecternref10_Stroke))) (.aggC (.cons (.zero _ _ _) (.cons (.refl _) (.nil)))) ?_
            refine S_lit0 (cs := [.sl 2 (List.map c_T_lecternref10_Spot (⟨a212, a214⟩ : T_lecternref10_Stroke).Spots) 0, .bool (⟨a212, a214⟩ : T_lecternref10_Stroke).Closed]) (es := (List.map c_T_lecternref10_Stroke [(⟨a212, a214⟩ : T_lecternref10_Stroke)])) rfl ty_el_27 rfl (by kernel_rfl) (by kernel_rfl) ?_
            refine S_app (j := 4) ok rfl rfl rfl rfl hg122 ty_el_27 ty_ni_27 hF ?_
            intro r238 hr238 ok hF
            refine S_a (v := .sl _ _ _) rfl ?_
            refine S_nil ?_
            have hwo : WO [(g213, .room), (i189, .cells [.sl 2 (List.map c_T_lecternref10_Spot a212) g213, .bool a214]), (g210, .room), (i187, .cells [.sl 1 (List.map c_cplx a209) g210, .bool a211]), (r238, .room), (r237, .room)] [(r238, .room), (r237, .room)] := (.drop (.drop (.drop (.drop (.keep (.keep .nil))))))
            exact ⟨((a119 ++ [(⟨a209, a211⟩ : T_trace_Stroke)]), (a121 ++ [(⟨a212, a214⟩ : T_lecternref10_Stroke)]), a208), hF, r237, r238, hr237, hr238, (hwo.spec ok).1, WS.mk' (.cons (.refl _) (.cons (.refl _) (.cons (.refl _) (.cons (.refl _) (.cons (.refl _) (.cons (.refl _) .nil)))))) ok hwo⟩
        ·
          rintro ⟨a179, a181, a183⟩ s' hF ⟨g180, g182, hg180, hg182, ok, hws⟩
          refine WP_ws hws ?_
          clear hws s'
          refine C_reg (mdl []) ?_
          refine S_bin rfl rfl (ev_add ..) ?_
          refine S_m (v := .int _ _) rfl ?_
          refine S_nil ?_
          refine ih128 (a179, a181, a183, (IntKind.wrap .i64 (a124 + (1 : Int)))) _ hF ?_
          have hwo : WO [(g182, .room), (g180, .room)] [(g182, .room), (g180, .room)] := (.keep (.keep .nil))
          exact ⟨g180, g182, hg180, hg182, (hwo.spec ok).1, WS.mk' (.cons (.refl _) (.cons (.refl _) (.cons (.refl _) (.cons (.refl _) (.cons (.refl _) (.cons (.refl _) .nil)))))) ok hwo⟩
      ·
        refine WP_exit ?_
        simp only [Exit.sel, Exit.blk, Exit.jmp, if_true, if_false, reduceIte, Nat.reduceEqDiff, Nat.succ_ne_zero, Nat.zero_ne_one, Nat.one_ne_zero]
        replace hF := hG126 _ (F_some hF)
        have hwo : WO [(g122, .room), (g120, .room)] [(g122, .room), (g120, .room)] := (.keep (.keep .nil))
        exact ⟨(a119, a121, a123), hF, g120, g122, hg120, hg122, (hwo.spec ok).1, WS.mk' (.cons (.refl _) (.cons (.refl _) (.cons (.refl _) .nil))) ok hwo⟩
  ·
    rintro ⟨a113, a115, a117⟩ s' hF ⟨g114, g116, hg114, hg116, ok, hws⟩
    refine WP_ws hws ?_
    clear hws s'
    refine C_seq ?_
    refine C_reg (mdl []) ?_
    refine S_m (v := .sl _ _ _) rfl ?_
    refine S_one 90 (v := .sl 2 (List.map c_T_trace_Stroke a113) 0) (.zero _ _ _) ?_
    refine S_m (v := .sl _ _ _) rfl ?_
    refine S_one 91 (v := .sl 2 (List.map c_T_lecternref10_Stroke a115) 0) (.zero _ _ _) ?_
    refine S_m (v := .bool _) rfl ?_
    refine S_m (v := .bool _) rfl ?_
    refine S_twoJ 3 96 hF (fun J240 hb239 hF => ?_) (fun J240 hb239 hF => ?_) (fun v241 hF => ?_)
    ·
      refine S_on rfl rfl hb239 ?_
      refine S_in ?_
      refine S_m (v := .sl _ _ _) rfl ?_
      refine S_nil ?_
      refine S_one 94 (v := .sl 2 (List.map c_T_lecternref10_Stroke a115) 0) (.zero _ _ _) ?_
      refine S_on rfl rfl hb239 ?_
      refine S_in ?_
      refine S_call (F_lecternref10_Right_ok _ hF fun x242 _ hF => ?_) (.cons (.refl _) (.nil))
      refine S_nil ?_
      refine S_pickT (v := .bool _) rfl hb239 rfl ?_
      refine S_nil ?_
      refine ⟨_, hF, .hd (.refl _) ?_⟩
      repeat (first | with_reducible exact WS.refl _ | refine WS.add ?_ rfl | exact WS.refl _)
    ·
      refine S_off rfl rfl hb239 ?_
      refine S_offD ?_
      refine S_off rfl rfl hb239 ?_
      refine S_offD ?_
      refine S_pickF (v := .bool _) rfl hb239 rfl ?_
      refine S_nil ?_
      refine ⟨_, hF, .hd (.refl _) ?_⟩
      repeat (first | with_reducible exact WS.refl _ | refine WS.add ?_ rfl | exact WS.refl _)
    ·
      refine S_a (v := .sl _ _ _) rfl ?_
      refine S_a (v := .sl _ _ _) rfl ?_
      refine S_a (v := .bool _) rfl ?_
      refine S_nil ?_
      refine WP_ret ?_
      repeat (first | with_reducible refine Exit.sel_ret ?_ | with_reducible refine Exit.blk_ret ?_ | with_reducible refine Exit.jmp_ret ?_)
      refine C_ret (fn := Tryd.f15) rfl (.tmp (v := .sl 2 (List.map c_T_trace_Stroke a113) 0) rfl (.tmp (v := .sl 2 (List.map c_T_lecternref10_Stroke a115) 0) rfl (.tmp (v := .bool v241) rfl .nil))) ?_
      exact ⟨_, _, (.tupC (.cons (.refl _) (.cons (.refl _) (.cons (.refl _) (.nil))))), ok.wh, _, F_some hF, rfl, rfl⟩
theorem F_lecternlaw10_figure_ok {β : Type} {f : (List T_trace_Stroke) × (List T_lecternref10_Stroke) × Bool → Option β} {G : β → Prop} {R : D → Heap → Prop} {p0 : List T_lecternlaw10_Line} (h : Heap) (hF : OptP ((F_lecternlaw10_figure p0).bind f) G) (hk : ∀ r, F_lecternlaw10_figure p0 = some r → OptP (f r) G → R (.tup [.sl 2 (List.map c_T_trace_Stroke r.1) 0, .sl 2 (List.map c_T_lecternref10_Stroke r.2.1) 0, .bool r.2.2]) h) : CallsA Tryd.prog 15 [.sl 2 (List.map c_T_lecternlaw10_Line p0) 0] h R := by
  obtain ⟨r0, hr, hF⟩ := F_bind hF
  refine (F_lecternlaw10_figure_w (G := fun r => r = r0) p0 h ⟨r0, hr, rfl⟩).mono ?_
  rintro _ _ ⟨r, rfl, rfl, rfl⟩
  exact hk _ hr hF
theorem F_trace_Turn_w (p0 : List T_trace_Stroke) (p1 : Nat × Nat) (p2 : Nat × Nat) {G : (List T_trace_Stroke) × Int → Prop} (h : Heap) (hF : OptP (F_trace_Turn p0 p1 p2) G) : CallsA Tryd.prog 24 [.sl 2 (List.map c_T_trace_Stroke p0) 0, .cplx .f64 p1.1 p1.2, .cplx .f64 p2.1 p2.2] h fun d h' => ∃ r, G r ∧ d = .tup [.sl 2 (List.map c_T_trace_Stroke r.1) 0, .int .i64 r.2] ∧ h' = h := by
  refine CallsA.ret ?_
  refine C_body Tryd.func24 rfl en_24 Tryd.ntmps24 rfl (fun ok => ?_)
  rw [F_trace_Turn] at hF
  refine C_seq ?_
  refine C_reg (mdl []) ?_
  refine S_a (v := .snil) rfl ?_
  refine S_one 6 (v := .sl 2 (List.map c_T_trace_Stroke ([] : List T_trace_Stroke)) 0) (.nil _) ?_
  refine S_a (v := .int _ _) rfl ?_
  refine S_nil ?_
  refine C_seq ?_
  refine C_seq ?_
  refine C_reg (mdl []) ?_
  refine S_m (v := .sl _ _ _) rfl ?_
  refine S_call (F_trace_right_ok _ hF fun x1 _ hF => ?_) (.cons (.refl _) (.nil))
  refine S_un rfl (ev_not _) ?_
  refine S_m (v := .bool _) rfl ?_
  refine S_twoJ 4 21 hF (fun J3 hb2 hF => ?_) (fun J3 hb2 hF => ?_) (fun v4 hF => ?_)
  ·
    refine S_off rfl rfl hb2 ?_
    refine S_offD ?_
    refine S_off rfl rfl hb2 ?_
    refine S_offD ?_
    refine S_off rfl rfl hb2 ?_
    refine S_offD ?_
    refine S_pickT (v := .bool _) rfl hb2 rfl ?_
    refine S_nil ?_
    refine ⟨_, hF, .hd (.refl _) ?_⟩
    repeat (first | with_reducible exact WS.refl _ | refine WS.add ?_ rfl | exact WS.refl _)
  ·
    refine S_on rfl rfl hb2 ?_
    refine S_in ?_
    refine S_m (v := .cplx _ _ _) rfl ?_
    refine S_nil ?_
    refine S_on rfl rfl hb2 ?_
    refine S_in ?_
    refine S_call (F_trace_spot_ok _ hF fun x5 _ hF => ?_) (.cons (.refl _) (.nil))
    refine S_nil ?_
    refine S_on rfl rfl hb2 ?_
    refine S_in ?_
    refine S_un rfl (ev_not _) ?_
    refine S_nil ?_
    refine S_pickF (v := .bool _) rfl hb2 rfl ?_
    refine S_nil ?_
    refine ⟨_, hF, .hd (.refl _) ?_⟩
    repeat (first | with_reducible exact WS.refl _ | refine WS.add ?_ rfl | exact WS.refl _)
  ·
    refine S_m (v := .bool _) rfl ?_
    refine S_twoJ 4 26 hF (fun J7 hb6 hF => ?_) (fun J7 hb6 hF => ?_) (fun v8 hF => ?_)
    ·
      refine S_off rfl rfl hb6 ?_
      refine S_offD ?_
      refine S_off rfl rfl hb6 ?_
      refine S_offD ?_
      refine S_off rfl rfl hb6 ?_
      refine S_offD ?_
      refine S_pickT (v := .bool _) rfl hb6 rfl ?_
      refine S_nil ?_
      refine ⟨_, hF, .hd (.refl _) ?_⟩
      repeat (first | with_reducible exact WS.refl _ | refine WS.add ?_ rfl | exact WS.refl _)
    ·
      refine S_on rfl rfl hb6 ?_
      refine S_in ?_
      refine S_m (v := .cplx _ _ _) rfl ?_
      refine S_nil ?_
      refine S_on rfl rfl hb6 ?_
      refine S_in ?_
      refine S_call (F_trace_spot_ok _ hF fun x9 _ hF => ?_) (.cons (.refl _) (.nil))
      refine S_nil ?_
      refine S_on rfl rfl hb6 ?_
      refine S_in ?_
      refine S_un rfl (ev_not _) ?_
      refine S_nil ?_
      refine S_pickF (v := .bool _) rfl hb6 rfl ?_
      refine S_nil ?_
      refine ⟨_, hF, .hd (.refl _) ?_⟩
      repeat (first | with_reducible exact WS.refl _ | refine WS.add ?_ rfl | exact WS.refl _)
    ·
      refine S_nil ?_
      refine C_if (b := v8) rfl hF (fun hb10 hF => ?_) (fun hb10 hF => ?_)
      ·
        refine C_seq ?_
        refine C_reg (mdl []) ?_
        refine S_a (v := .snil) rfl ?_
        refine S_one 6 (v := .sl 2 (List.map c_T_trace_Stroke ([] : List T_trace_Stroke)) 0) (.nil _) ?_
        refine S_a (v := .int _ _) rfl ?_
        refine S_nil ?_
        refine WP_ret ?_
        repeat (first | with_reducible refine Exit.sel_ret ?_ | with_reducible refine Exit.blk_ret ?_ | with_reducible refine Exit.jmp_ret ?_)
        refine C_ret (fn := Tryd.f24) rfl (.tmp (v := .sl 2 (List.map c_T_trace_Stroke ([] : List T_trace_Stroke)) 0) rfl (.tmp (v := .int .i64 (1 : Int)) rfl .nil)) ?_
        exact ⟨_, _, (.tupC (.cons (.refl _) (.cons (.refl _) (.nil)))), ok.wh, _, F_some hF, rfl, rfl⟩
      ·
        refine WP_skip ?_
        refine C_seq ?_
        refine C_reg (mdl []) ?_
        refine S_a (v := .snil) rfl ?_
        refine S_ghost 8 2 ok rfl rfl ?_
        intro r11 hr11 ok
        refine S_nil ?_
        refine C_join hF (fun (a78 : (List T_trace_Stroke)) s' => ∃ g79 : Nat, g79 ≠ 0 ∧ OK h [(g79, .room)] ∧ WS s' ⟨mkSl 64 [(8, .sl 2 (List.map c_T_trace_Stroke a78) g79)], Hp h [(g79, .room)]⟩) (fun J80 hF => ?_) ?_
        ·
          refine C_seq ?_
          refine C_reg (mdl []) ?_
          refine S_m (v := .sl _ _ _) rfl ?_
          refine S_lenL rfl ty_sl_23 ?_
          refine S_m (v := .int _ _) rfl ?_
          refine S_nil ?_
          refine WP_block ?_
          refine C_loop (σ := (List T_trace_Stroke) × Int) hF (fun (v : (List T_trace_Stroke) × Int) s' => match v with | (a81, a83) => ∃ g82 : Nat, g82 ≠ 0 ∧ OK h [(g82, .room)] ∧ WS s' ⟨mkSl 64 [(1, .cplx .f64 p1.1 p1.2), (2, .cplx .f64 p2.1 p2.2), (8, .sl 2 (List.map c_T_trace_Stroke a81) g82), (27, .sl 2 (List.map c_T_trace_Stroke p0) 0), (28, .int .i64 (p0.length : Int)), (29, .int .i64 a83)], Hp h [(g82, .room)]⟩) ?_ ?_
          ·
            have hwo : WO [(r11, .room)] [(r11, .room)] := (.keep .nil)
            exact ⟨r11, hr11, (hwo.spec ok).1, WS.mk' (.cons (.refl _) (.cons (.refl _) (.cons (.refl _) (.cons (.refl _) (.cons (.refl _) (.cons (.refl _) .nil)))))) ok hwo⟩
          ·
            rintro G84 hG85 rec86 ⟨a81, a83⟩ s' ih87 hF ⟨g82, hg82, ok, hws⟩
            refine WP_ws hws ?_
            clear hws s'
            rw [F_trace_Turn_l0] at hF
            refine C_seq ?_
            refine C_reg (mdl []) ?_
            refine S_bin rfl rfl (ev_lss ..) ?_
            refine S_nil ?_
            refine C_seq ?_
            refine C_if (b := (decide (a83 < (p0.length : Int)))) rfl hF (fun hb88 hF => ?_) (fun hb88 hF => ?_)
            ·
              refine WP_skip ?_
              refine C_join hF (fun (a119 : (List T_trace_Stroke)) s' => ∃ g120 : Nat, g120 ≠ 0 ∧ OK h [(g120, .room)] ∧ WS s' ⟨mkSl 64 [(1, .cplx .f64 p1.1 p1.2), (2, .cplx .f64 p2.1 p2.2), (8, .sl 2 (List.map c_T_trace_Stroke a119) g120), (27, .sl 2 (List.map c_T_trace_Stroke p0) 0), (28, .int .i64 (p0.length : Int)), (29, .int .i64 a83)], Hp h [(g120, .room)]⟩) (fun J121 hF => ?_) ?_
              ·
                refine WP_block ?_
                refine C_seq ?_
                refine C_reg (mdl [(10, 1)]) ?_
                refine S_ix rfl rfl ty_sl_23 ty_sz_56 hF (fun x122 _ hF => ?_)
                refine S_ldQ rfl (p_agg (vs := c_T_trace_Stroke x122) ty_ag_56 ty_sz_56 rfl rfl) ?_
                refine S_all1 ok rfl ty_zc_56 ?_
                intro i123 hi123 ok
                refine S_st (j := 0) (cs' := [.sl 1 (List.map c_cplx x122.Spots) 0, .bool x122.Closed]) ok rfl rfl rfl hi123 rfl ty_sz_56 rfl rfl (fun ok => ?_)
                refine S_nil ?_
                refine C_seq ?_
                refine C_reg (mdl [(11, 1)]) ?_
                refine S_faP rfl ty_fd_56_1 ty_sz_4 ?_
                refine S_ldP (j := 0) ok rfl rfl rfl hi123 (p_one (v := .bool x122.Closed) ty_ag_4 ty_sz_4 rfl) ?_
                refine S_bld (v := .agg [.snil, .bool x122.Closed]) (b_st ty_zc_56 ty_pl_56 rfl) ?_
                refine S_all1 ok rfl ty_zc_56 ?_
                intro i124 hi124 ok
                refine S_st (j := 0) (cs' := [.snil, .bool x122.Closed]) ok rfl rfl rfl hi124 rfl ty_sz_56 rfl rfl (fun ok => ?_)
                refine S_ghostO 0 0 1 (fun r125 => [.sl 1 (List.map c_cplx ([] : List (Nat × Nat))) r125, .bool x122.Closed]) ok rfl hi124 rfl (fun _ => rfl) ?_
                intro r125 hr125 ok
                refine S_nil ?_
                refine C_join hF (fun (v : (List (Nat × Nat)) × Bool) s' => match v with | (a137, a139) => ∃ g138 : Nat, g138 ≠ 0 ∧ OK h [(g138, .room), (i124, .cells [.sl 1 (List.map c_cplx a137) g138, .bool a139]), (g82, .room)] ∧ WS s' ⟨mkSl 64 [(1, .cplx .f64 p1.1 p1.2), (2, .cplx .f64 p2.1 p2.2), (8, .sl 2 (List.map c_T_trace_Stroke a81) g82), (11, .ptr i124 0), (27, .sl 2 (List.map c_T_trace_Stroke p0) 0), (28, .int .i64 (p0.length : Int)), (29, .int .i64 a83)], Hp h [(g138, .room), (i124, .cells [.sl 1 (List.map c_cplx a137) g138, .bool a139]), (g82, .room)]⟩) (fun J140 hF => ?_) ?_
                ·
                  refine C_seq ?_
                  refine C_reg (mdl []) ?_
                  refine S_faP rfl ty_fd_56_0 ty_sz_54 ?_
                  refine S_ldP (j := 2) ok rfl rfl rfl hi123 (p_one (v := .sl 1 (List.map c_cplx x122.Spots) 0) ty_ag_54 ty_sz_54 rfl) ?_
                  refine S_lenL rfl ty_sl_54 ?_
                  refine S_m (v := .int _ _) rfl ?_
                  refine S_nil ?_
                  refine WP_block ?_
                  refine C_loop (σ := (List (Nat × Nat)) × Bool × Int) hF (fun (v : (List (Nat × Nat)) × Bool × Int) s' => match v with | (a141, a143, a144) => ∃ g142 : Nat, g142 ≠ 0 ∧ OK h [(g142, .room), (i124, .cells [.sl 1 (List.map c_cplx a141) g142, .bool a143]), (g82, .room)] ∧ WS s' ⟨mkSl 64 [(1, .cplx .f64 p1.1 p1.2), (2, .cplx .f64 p2.1 p2.2), (8, .sl 2 (List.map c_T_trace_Stroke a81) g82), (11, .ptr i124 0), (27, .sl 2 (List.map c_T_trace_Stroke p0) 0), (28, .int .i64 (p0.length : Int)), (29, .int .i64 a83), (37, .sl 1 (List.map c_cplx x122.Spots) 0), (38, .int .i64 (x122.Spots.length : Int)), (39, .int .i64 a144)], Hp h [(g142, .room), (i124, .cells [.sl 1 (List.map c_cplx a141) g142, .bool a143]), (g82, .room)]⟩) ?_ ?_
                  ·
                    have hwo : WO [(r125, .room), (i124, .cells [.sl 1 (List.map c_cplx ([] : List (Nat × Nat))) r125, .bool x122.Closed]), (i123, .cells [.sl 1 (List.map c_cplx x122.Spots) 0, .bool x122.Closed]), (g82, .room)] [(r125, .room), (i124, .cells [.sl 1 (List.map c_cplx ([] : List (Nat × Nat))) r125, .bool x122.Closed]), (g82, .room)] := (.keep (.keep (.drop (.keep .nil))))
                    exact ⟨r125, hr125, (hwo.spec ok).1, WS.mk' (.cons (.refl _) (.cons (.refl _) (.cons (.refl _) (.cons (.refl _) (.cons (.refl _) (.cons (.refl _) (.cons (.refl _) (.cons (.refl _) (.cons (.refl _) (.cons (.refl _) .nil)))))))))) ok hwo⟩
                  ·
                    rintro G145 hG146 rec147 ⟨a141, a143, a144⟩ s' ih148 hF ⟨g142, hg142, ok, hws⟩
                    refine WP_ws hws ?_
                    clear hws s'
                    rw [F_trace_Turn_l1] at hF
                    refine C_seq ?_
                    refine C_reg (mdl []) ?_
                    refine S_bin rfl rfl (ev_lss ..) ?_
                    refine S_nil ?_
                    refine C_seq ?_
                    refine C_if (b := (decide (a144 < (x122.Spots.length : Int)))) rfl hF (fun hb149 hF => ?_) (fun hb149 hF => ?_)
                    ·
                      refine WP_skip ?_
                      refine C_seq ?_
                      refine WP_block ?_
                      refine C_seq ?_
                      refine C_reg (mdl []) ?_
                      refine S_ix rfl rfl ty_sl_54 ty_sz_45 hF (fun x150 _ hF => ?_)
                      refine S_ldQ rfl (p_one ty_ag_45 ty_sz_45 rfl) ?_
                      refine S_a (v := .cplx _ _ _) rfl ?_
                      refine S_nil ?_
                      refine C_seq ?_
                      refine C_reg (mdl []) ?_
                      refine S_m (v := .cplx _ _ _) rfl ?_
                      refine S_m (v := .cplx _ _ _) rfl ?_
                      refine S_cmul (a := x150) (b := p1) rfl rfl hF (fun x151 _ hF => ?_)
                      refine S_m (v := .cplx _ _ _) rfl ?_
                      refine S_cadd (a := x151) (b := p2) rfl rfl hF (fun x152 _ hF => ?_)
                      refine S_a (v := .cplx _ _ _) rfl ?_
                      refine S_nil ?_
                      refine C_seq ?_
                      refine C_seq ?_
                      refine C_reg (mdl []) ?_
                      refine S_m (v := .cplx _ _ _) rfl ?_
                      refine S_call (F_trace_spot_ok _ hF fun x153 _ hF => ?_) (.cons (.refl _) (.nil))
                      refine S_un rfl (ev_not _) ?_
                      refine S_nil ?_
                      refine C_if (b := (!x153)) rfl hF (fun hb154 hF => ?_) (fun hb154 hF => ?_)
                      ·
                        refine C_seq ?_
                        refine C_reg (mdl []) ?_
                        refine S_a (v := .snil) rfl ?_
                        refine S_one 6 (v := .sl 2 (List.map c_T_trace_Stroke ([] : List T_trace_Stroke)) 0) (.nil _) ?_
                        refine S_a (v := .int _ _) rfl ?_
                        refine S_nil ?_
                        refine WP_ret ?_
                        replace hF := hG146 _ (F_some hF)
                        replace hF := hG85 _ (F_some hF)
                        repeat (first | with_reducible refine Exit.sel_ret ?_ | with_reducible refine Exit.blk_ret ?_ | with_reducible refine Exit.jmp_ret ?_)
                        refine C_ret (fn := Tryd.f24) rfl (.tmp (v := .sl 2 (List.map c_T_trace_Stroke ([] : List T_trace_Stroke)) 0) rfl (.tmp (v := .int .i64 (5 : Int)) rfl .nil)) ?_
                        exact ⟨_, _, (.tupC (.cons (.refl _) (.cons (.refl _) (.nil)))), ok.wh, _, F_some hF, rfl, rfl⟩
                      ·
                        refine WP_skip ?_
                        refine C_reg (mdl [(55, 2)]) ?_
                        refine S_faP rfl ty_fd_56_0 ty_sz_54 ?_
                        refine S_ldP (j := 1) ok rfl rfl rfl hi124 (p_one (v := .sl 1 (List.map c_cplx a141) g142) ty_ag_54 ty_sz_54 rfl) ?_
                        refine S_m (v := .cplx _ _ _) rfl ?_
                        refine S_lit0 (cs := [.cplx .f64 x152.1 x152.2]) (es := (List.map c_cplx [x152])) rfl ty_el_54 rfl (by kernel_rfl) (by kernel_rfl) ?_
                        refine S_app (j := 0) ok rfl rfl rfl rfl hg142 ty_el_54 ty_ni_54 hF ?_
                        intro r155 hr155 ok hF
                        refine S_faP rfl ty_fd_56_0 ty_sz_54 ?_
                        refine S_st (j := 1) (cs' := [.sl 1 (List.map c_cplx (a141 ++ [x152])) r155, .bool a143]) ok rfl rfl rfl hi124 rfl ty_sz_54 rfl rfl (fun ok => ?_)
                        refine S_nil ?_
                        refine C_reg (mdl []) ?_
                        refine S_bin rfl rfl (ev_add ..) ?_
                        refine S_m (v := .int _ _) rfl ?_
                        refine S_nil ?_
                        refine ih148 ((a141 ++ [x152]), a143, (IntKind.wrap .i64 (a144 + (1 : Int)))) _ hF ?_
                        have hwo : WO [(r155, .room), (i124, .cells [.sl 1 (List.map c_cplx (a141 ++ [x152])) r155, .bool a143]), (g82, .room)] [(r155, .room), (i124, .cells [.sl 1 (List.map c_cplx (a141 ++ [x152])) r155, .bool a143]), (g82, .room)] := (.keep (.keep (.keep .nil)))
                        exact ⟨r155, hr155, (hwo.spec ok).1, WS.mk' (.cons (.refl _) (.cons (.refl _) (.cons (.refl _) (.cons (.refl _) (.cons (.refl _) (.cons (.refl _) (.cons (.refl _) (.cons (.refl _) (.cons (.refl _) (.cons (.refl _) .nil)))))))))) ok hwo⟩
                    ·
                      refine WP_exit ?_
                      simp only [Exit.sel, Exit.blk, Exit.jmp, if_true, if_false, reduceIte, Nat.reduceEqDiff, Nat.succ_ne_zero, Nat.zero_ne_one, Nat.one_ne_zero]
                      replace hF := hG146 _ (F_some hF)
                      have hwo : WO [(g142, .room), (i124, .cells [.sl 1 (List.map c_cplx a141) g142, .bool a143]), (g82, .room)] [(g142, .room), (i124, .cells [.sl 1 (List.map c_cplx a141) g142, .bool a143]), (g82, .room)] := (.keep (.keep (.keep .nil)))
                      exact ⟨(a141, a143), hF, g142, hg142, (hwo.spec ok).1, WS.mk' (.cons (.refl _) (.cons (.refl _) (.cons (.refl _) (.cons (.refl _) (.cons (.refl _) (.cons (.refl _) (.cons (.refl _) .nil))))))) ok hwo⟩
                ·
                  rintro ⟨a137, a139⟩ s' hF ⟨g138, hg138, ok, hws⟩
                  refine WP_ws hws ?_
                  clear hws s'
                  refine C_reg (mdl [(61, 2)]) ?_
                  refine S_m (v := .sl _ _ _) rfl ?_
                  refine S_ldP (j := 1) ok rfl rfl rfl hi124 (p_agg (vs := [.sl 1 (List.map c_cplx a137) g138, .bool a139]) ty_ag_56 ty_sz_56 rfl rfl) ?_
                  refine S_one 59 (v := .agg (c_T_trace_Stroke (⟨a137, a139⟩ : T_trace_Stroke))) (.aggC (.cons (.zero _ _ _) (.cons (.refl _) (.nil)))) ?_
                  refine S_lit0 (cs := [.sl 1 (List.map c_cplx (⟨a137, a139⟩ : T_trace_Stroke).Spots) 0, .bool (⟨a137, a139⟩ : T_trace_Stroke).Closed]) (es := (List.map c_T_trace_Stroke [(⟨a137, a139⟩ : T_trace_Stroke)])) rfl ty_el_23 rfl (by kernel_rfl) (by kernel_rfl) ?_
                  refine S_app (j := 2) ok rfl rfl rfl rfl hg82 ty_el_23 ty_ni_23 hF ?_
                  intro r156 hr156 ok hF
                  refine S_a (v := .sl _ _ _) rfl ?_
                  refine S_nil ?_
                  have hwo : WO [(g138, .room), (i124, .cells [.sl 1 (List.map c_cplx a137) g138, .bool a139]), (r156, .room)] [(r156, .room)] := (.drop (.drop (.keep .nil)))
                  exact ⟨(a81 ++ [(⟨a137, a139⟩ : T_trace_Stroke)]), hF, r156, hr156, (hwo.spec ok).1, WS.mk' (.cons (.refl _) (.cons (.refl _) (.cons (.refl _) (.cons (.refl _) (.cons (.refl _) (.cons (.refl _) .nil)))))) ok hwo⟩
              ·
                rintro a119 s' hF ⟨g120, hg120, ok, hws⟩
                refine WP_ws hws ?_
                clear hws s'
                refine C_reg (mdl []) ?_
                refine S_bin rfl rfl (ev_add ..) ?_
                refine S_m (v := .int _ _) rfl ?_
                refine S_nil ?_
                refine ih87 (a119, (IntKind.wrap .i64 (a83 + (1 : Int)))) _ hF ?_
                have hwo : WO [(g120, .room)] [(g120, .room)] := (.keep .nil)
                exact ⟨g120, hg120, (hwo.spec ok).1, WS.mk' (.cons (.refl _) (.cons (.refl _) (.cons (.refl _) (.cons (.refl _) (.cons (.refl _) (.cons (.refl _) .nil)))))) ok hwo⟩
            ·
              refine WP_exit ?_
              simp only [Exit.sel, Exit.blk, Exit.jmp, if_true, if_false, reduceIte, Nat.reduceEqDiff, Nat.succ_ne_zero, Nat.zero_ne_one, Nat.one_ne_zero]
              replace hF := hG85 _ (F_some hF)
              have hwo : WO [(g82, .room)] [(g82, .room)] := (.keep .nil)
              exact ⟨a81, hF, g82, hg82, (hwo.spec ok).1, WS.mk' (.cons (.refl _) .nil) ok hwo⟩
        ·
          rintro a78 s' hF ⟨g79, hg79, ok, hws⟩
          refine WP_ws hws ?_
          clear hws s'
          refine C_seq ?_
          refine C_reg (mdl []) ?_
          refine S_m (v := .sl _ _ _) rfl ?_
          refine S_one 63 (v := .sl 2 (List.map c_T_trace_Stroke a78) 0) (.zero _ _ _) ?_
          refine S_a (v := .sl _ _ _) rfl ?_
          refine S_a (v := .int _ _) rfl ?_
          refine S_nil ?_
          refine WP_ret ?_
          repeat (first | with_reducible refine Exit.sel_ret ?_ | with_reducible refine Exit.blk_ret ?_ | with_reducible refine Exit.jmp_ret ?_)
          refine C_ret (fn := Tryd.f24) rfl (.tmp (v := .sl 2 (List.map c_T_trace_Stroke a78) 0) rfl (.tmp (v := .int .i64 (0 : Int)) rfl .nil)) ?_
          exact ⟨_, _, (.tupC (.cons (.refl _) (.cons (.refl _) (.nil)))), ok.wh, _, F_some hF, rfl, rfl⟩
theorem F_trace_Turn_ok {β : Type} {f : (List T_trace_Stroke) × Int → Option β} {G : β → Prop} {R : D → Heap → Prop} {p0 : List T_trace_Stroke} {p1 : Nat × Nat} {p2 : Nat × Nat} (h : Heap) (hF : OptP ((F_trace_Turn p0 p1 p2).bind f) G) (hk : ∀ r, F_trace_Turn p0 p1 p2 = some r → OptP (f r) G → R (.tup [.sl 2 (List.map c_T_trace_Stroke r.1) 0, .int .i64 r.2]) h) : CallsA Tryd.prog 24 [.sl 2 (List.map c_T_trace_Stroke p0) 0, .cplx .f64 p1.1 p1.2, .cplx .f64 p2.1 p2.2] h R := by
  obtain ⟨r0, hr, hF⟩ := F_bind hF
  refine (F_trace_Turn_w (G := fun r => r = r0) p0 p1 p2 h ⟨r0, hr, rfl⟩).mono ?_
  rintro _ _ ⟨r, rfl, rfl, rfl⟩
  exact hk _ hr hF
theorem F_trace_Box_w (p0 : List T_trace_Stroke) {G : (Nat × Nat) × (Nat × Nat) × Int → Prop} (h : Heap) (hF : OptP (F_trace_Box p0) G) : CallsA Tryd.prog 26 [.sl 2 (List.map c_T_trace_Stroke p0) 0] h fun d h' => ∃ r, G r ∧ d = .tup [.cplx .f64 r.1.1 r.1.2, .cplx .f64 r.2.1.1 r.2.1.2, .int .i64 r.2.2] ∧ h' = h := by
  refine CallsA.ret ?_
  refine C_body Tryd.func26 rfl en_26 Tryd.ntmps26 rfl (fun ok => ?_)
  rw [F_trace_Box] at hF
  refine C_seq ?_
  refine C_reg (mdl []) ?_
  refine S_a (v := .cplx _ _ _) rfl ?_
  refine S_a (v := .cplx _ _ _) rfl ?_
  refine S_a (v := .int _ _) rfl ?_
  refine S_nil ?_
  refine C_seq ?_
  refine WP_block ?_
  refine C_seq ?_
  refine C_reg (mdl []) ?_
  refine S_m (v := .sl _ _ _) rfl ?_
  refine S_call (F_trace_right_ok _ hF fun x1 _ hF => ?_) (.cons (.refl _) (.nil))
  refine S_un rfl (ev_not _) ?_
  refine S_a (v := .bool _) rfl ?_
  refine S_nil ?_
  refine C_if (b := (!x1)) rfl hF (fun hb2 hF => ?_) (fun hb2 hF => ?_)
  ·
    refine C_seq ?_
    refine C_reg (mdl []) ?_
    refine S_a (v := .cplx _ _ _) rfl ?_
    refine S_a (v := .cplx _ _ _) rfl ?_
    refine S_a (v := .int _ _) rfl ?_
    refine S_nil ?_
    refine WP_ret ?_
    repeat (first | with_reducible refine Exit.sel_ret ?_ | with_reducible refine Exit.blk_ret ?_ | with_reducible refine Exit.jmp_ret ?_)
    refine C_ret (fn := Tryd.f26) rfl (.tmp (v := .cplx .f64 ((0, 0) : Nat × Nat).1 ((0, 0) : Nat × Nat).2) rfl (.tmp (v := .cplx .f64 ((0, 0) : Nat × Nat).1 ((0, 0) : Nat × Nat).2) rfl (.tmp (v := .int .i64 (1 : Int)) rfl .nil))) ?_
    exact ⟨_, _, (.tupC (.cons (.refl _) (.cons (.refl _) (.cons (.refl _) (.nil))))), ok.wh, _, F_some hF, rfl, rfl⟩
  ·
    refine C_seq ?_
    refine C_reg (mdl []) ?_
    refine S_m (v := .sl _ _ _) rfl ?_
    refine S_lenL rfl ty_sl_23 ?_
    refine S_bin rfl rfl (ev_eql ..) ?_
    refine S_a (v := .bool _) rfl ?_
    refine S_nil ?_
    refine C_if (b := ((p0.length : Int) == (0 : Int))) rfl hF (fun hb3 hF => ?_) (fun hb3 hF => ?_)
    ·
      refine C_seq ?_
      refine C_reg (mdl []) ?_
      refine S_a (v := .cplx _ _ _) rfl ?_
      refine S_a (v := .cplx _ _ _) rfl ?_
      refine S_a (v := .int _ _) rfl ?_
      refine S_nil ?_
      refine WP_ret ?_
      repeat (first | with_reducible refine Exit.sel_ret ?_ | with_reducible refine Exit.blk_ret ?_ | with_reducible refine Exit.jmp_ret ?_)
      refine C_ret (fn := Tryd.f26) rfl (.tmp (v := .cplx .f64 ((0, 0) : Nat × Nat).1 ((0, 0) : Nat × Nat).2) rfl (.tmp (v := .cplx .f64 ((0, 0) : Nat × Nat).1 ((0, 0) : Nat × Nat).2) rfl (.tmp (v := .int .i64 (7 : Int)) rfl .nil))) ?_
      exact ⟨_, _, (.tupC (.cons (.refl _) (.cons (.refl _) (.cons (.refl _) (.nil))))), ok.wh, _, F_some hF, rfl, rfl⟩
    ·
      refine WP_skip ?_
      refine C_seq ?_
      refine C_reg (mdl []) ?_
      refine S_m (v := .sl _ _ _) rfl ?_
      refine S_ix rfl rfl ty_sl_23 ty_sz_56 hF (fun x4 _ hF => ?_)
      refine S_faQ rfl ty_fd_56_0 ty_sz_54 rfl ?_
      refine S_ldQ rfl (p_one ty_ag_54 ty_sz_54 rfl) ?_
      refine S_ix rfl rfl ty_sl_54 ty_sz_45 hF (fun x5 _ hF => ?_)
      refine S_ldQ rfl (p_one ty_ag_45 ty_sz_45 rfl) ?_
      refine S_a (v := .cplx _ _ _) rfl ?_
      refine S_nil ?_
      refine C_seq ?_
      refine C_reg (mdl []) ?_
      refine S_m (v := .cplx _ _ _) rfl ?_
      refine S_a (v := .cplx _ _ _) rfl ?_
      refine S_nil ?_
      refine C_join hF (fun (v : (Nat × Nat) × (Nat × Nat)) s' => match v with | (a34, a35) => OK h [] ∧ WS s' ⟨mkSl 63 [(2, .cplx .f64 a34.1 a34.2), (3, .cplx .f64 a35.1 a35.2)], Hp h []⟩) (fun J36 hF => ?_) ?_
      ·
        refine C_seq ?_
        refine C_reg (mdl []) ?_
        refine S_m (v := .sl _ _ _) rfl ?_
        refine S_lenL rfl ty_sl_23 ?_
        refine S_m (v := .int _ _) rfl ?_
        refine S_nil ?_
        refine WP_block ?_
        refine C_loop (σ := (Nat × Nat) × (Nat × Nat) × Int) hF (fun (v : (Nat × Nat) × (Nat × Nat) × Int) s' => match v with | (a37, a38, a39) => OK h [] ∧ WS s' ⟨mkSl 63 [(2, .cplx .f64 a37.1 a37.2), (3, .cplx .f64 a38.1 a38.2), (24, .sl 2 (List.map c_T_trace_Stroke p0) 0), (25, .int .i64 (p0.length : Int)), (26, .int .i64 a39)], Hp h []⟩) ?_ ?_
        ·
          have hwo : WO [] [] := .nil
          exact ⟨(hwo.spec ok).1, WS.mk' (.cons (.refl _) (.cons (.refl _) (.cons (.refl _) (.cons (.refl _) (.cons (.refl _) .nil))))) ok hwo⟩
        ·
          rintro G40 hG41 rec42 ⟨a37, a38, a39⟩ s' ih43 hF ⟨ok, hws⟩
          refine WP_ws hws ?_
          clear hws s'
          rw [F_trace_Box_l0] at hF
          refine C_seq ?_
          refine C_reg (mdl []) ?_
          refine S_bin rfl rfl (ev_lss ..) ?_
          refine S_nil ?_
          refine C_seq ?_
          refine C_if (b := (decide (a39 < (p0.length : Int)))) rfl hF (fun hb44 hF => ?_) (fun hb44 hF => ?_)
          ·
            refine WP_skip ?_
            refine C_join hF (fun (v : (Nat × Nat) × (Nat × Nat)) s' => match v with | (a56, a57) => OK h [] ∧ WS s' ⟨mkSl 63 [(2, .cplx .f64 a56.1 a56.2), (3, .cplx .f64 a57.1 a57.2), (24, .sl 2 (List.map c_T_trace_Stroke p0) 0), (25, .int .i64 (p0.length : Int)), (26, .int .i64 a39)], Hp h []⟩) (fun J58 hF => ?_) ?_
            ·
              refine WP_block ?_
              refine C_seq ?_
              refine C_reg (mdl [(6, 1)]) ?_
              refine S_ix rfl rfl ty_sl_23 ty_sz_56 hF (fun x59 _ hF => ?_)
              refine S_ldQ rfl (p_agg (vs := c_T_trace_Stroke x59) ty_ag_56 ty_sz_56 rfl rfl) ?_
              refine S_all1 ok rfl ty_zc_56 ?_
              intro i60 hi60 ok
              refine S_st (j := 0) (cs' := [.sl 1 (List.map c_cplx x59.Spots) 0, .bool x59.Closed]) ok rfl rfl rfl hi60 rfl ty_sz_56 rfl rfl (fun ok => ?_)
              refine S_nil ?_
              refine C_seq ?_
              refine C_reg (mdl []) ?_
              refine S_faP rfl ty_fd_56_0 ty_sz_54 ?_
              refine S_ldP (j := 0) ok rfl rfl rfl hi60 (p_one (v := .sl 1 (List.map c_cplx x59.Spots) 0) ty_ag_54 ty_sz_54 rfl) ?_
              refine S_lenL rfl ty_sl_54 ?_
              refine S_m (v := .int _ _) rfl ?_
              refine S_nil ?_
              refine WP_block ?_
              refine C_loop (σ := (Nat × Nat) × (Nat × Nat) × Int) hF (fun (v : (Nat × Nat) × (Nat × Nat) × Int) s' => match v with | (a61, a62, a63) => OK h [] ∧ WS s' ⟨mkSl 63 [(2, .cplx .f64 a61.1 a61.2), (3, .cplx .f64 a62.1 a62.2), (24, .sl 2 (List.map c_T_trace_Stroke p0) 0), (25, .int .i64 (p0.length : Int)), (26, .int .i64 a39), (31, .sl 1 (List.map c_cplx x59.Spots) 0), (32, .int .i64 (x59.Spots.length : Int)), (33, .int .i64 a63)], Hp h []⟩) ?_ ?_
              ·
                have hwo : WO [(i60, .cells [.sl 1 (List.map c_cplx x59.Spots) 0, .bool x59.Closed])] [] := (.drop .nil)
                exact ⟨(hwo.spec ok).1, WS.mk' (.cons (.refl _) (.cons (.refl _) (.cons (.refl _) (.cons (.refl _) (.cons (.refl _) (.cons (.refl _) (.cons (.refl _) (.cons (.refl _) .nil)))))))) ok hwo⟩
              ·
                rintro G64 hG65 rec66 ⟨a61, a62, a63⟩ s' ih67 hF ⟨ok, hws⟩
                refine WP_ws hws ?_
                clear hws s'
                rw [F_trace_Box_l1] at hF
                refine C_seq ?_
                refine C_reg (mdl []) ?_
                refine S_bin rfl rfl (ev_lss ..) ?_
                refine S_nil ?_
                refine C_seq ?_
                refine C_if (b := (decide (a63 < (x59.Spots.length : Int)))) rfl hF (fun hb68 hF => ?_) (fun hb68 hF => ?_)
                ·
                  refine WP_skip ?_
                  refine C_seq ?_
                  refine WP_block ?_
                  refine C_seq ?_
                  refine C_reg (mdl []) ?_
                  refine S_ix rfl rfl ty_sl_54 ty_sz_45 hF (fun x69 _ hF => ?_)
                  refine S_ldQ rfl (p_one ty_ag_45 ty_sz_45 rfl) ?_
                  refine S_a (v := .cplx _ _ _) rfl ?_
                  refine S_nil ?_
                  refine C_seq ?_
                  refine C_reg (mdl []) ?_
                  refine S_m (v := .cplx _ _ _) rfl ?_
                  refine S_real (a := a61) rfl ?_
                  refine S_m (v := .cplx _ _ _) rfl ?_
                  refine S_real (a := x69) rfl ?_
                  refine S_fmin (a := a61.1) (b := x69.1) rfl rfl hF (fun x70 _ hF => ?_)
                  refine S_m (v := .cplx _ _ _) rfl ?_
                  refine S_imag (a := a61) rfl ?_
                  refine S_m (v := .cplx _ _ _) rfl ?_
                  refine S_imag (a := x69) rfl ?_
                  refine S_fmin (a := a61.2) (b := x69.2) rfl rfl hF (fun x71 _ hF => ?_)
                  refine S_cplx (a := x70) (b := x71) rfl rfl ?_
                  refine S_a (v := .cplx _ _ _) rfl ?_
                  refine S_nil ?_
                  refine C_reg (mdl []) ?_
                  refine S_m (v := .cplx _ _ _) rfl ?_
                  refine S_real (a := a62) rfl ?_
                  refine S_m (v := .cplx _ _ _) rfl ?_
                  refine S_real (a := x69) rfl ?_
                  refine S_fmax (a := a62.1) (b := x69.1) rfl rfl hF (fun x72 _ hF => ?_)
                  refine S_m (v := .cplx _ _ _) rfl ?_
                  refine S_imag (a := a62) rfl ?_
                  refine S_m (v := .cplx _ _ _) rfl ?_
                  refine S_imag (a := x69) rfl ?_
                  refine S_fmax (a := a62.2) (b := x69.2) rfl rfl hF (fun x73 _ hF => ?_)
                  refine S_cplx (a := x72) (b := x73) rfl rfl ?_
                  refine S_a (v := .cplx _ _ _) rfl ?_
                  refine S_nil ?_
                  refine C_reg (mdl []) ?_
                  refine S_bin rfl rfl (ev_add ..) ?_
                  refine S_m (v := .int _ _) rfl ?_
                  refine S_nil ?_
                  refine ih67 (((x70, x71) : Nat × Nat), ((x72, x73) : Nat × Nat), (IntKind.wrap .i64 (a63 + (1 : Int)))) _ hF ?_
                  have hwo : WO [] [] := .nil
                  exact ⟨(hwo.spec ok).1, WS.mk' (.cons (.refl _) (.cons (.refl _) (.cons (.refl _) (.cons (.refl _) (.cons (.refl _) (.cons (.refl _) (.cons (.refl _) (.cons (.refl _) .nil)))))))) ok hwo⟩
                ·
                  refine WP_exit ?_
                  simp only [Exit.sel, Exit.blk, Exit.jmp, if_true, if_false, reduceIte, Nat.reduceEqDiff, Nat.succ_ne_zero, Nat.zero_ne_one, Nat.one_ne_zero]
                  replace hF := hG65 _ (F_some hF)
                  have hwo : WO [] [] := .nil
                  exact ⟨(a61, a62), hF, (hwo.spec ok).1, WS.mk' (.cons (.refl _) (.cons (.refl _) (.cons (.refl _) (.cons (.refl _) (.cons (.refl _) .nil))))) ok hwo⟩
            ·
              rintro ⟨a56, a57⟩ s' hF ⟨ok, hws⟩
              refine WP_ws hws ?_
              clear hws s'
              refine C_reg (mdl []) ?_
              refine S_bin rfl rfl (ev_add ..) ?_
              refine S_m (v := .int _ _) rfl ?_
              refine S_nil ?_
              refine ih43 (a56, a57, (IntKind.wrap .i64 (a39 + (1 : Int)))) _ hF ?_
              have hwo : WO [] [] := .nil
              exact ⟨(hwo.spec ok).1, WS.mk' (.cons (.refl _) (.cons (.refl _) (.cons (.refl _) (.cons (.refl _) (.cons (.refl _) .nil))))) ok hwo⟩
          ·
            refine WP_exit ?_
            simp only [Exit.sel, Exit.blk, Exit.jmp, if_true, if_false, reduceIte, Nat.reduceEqDiff, Nat.succ_ne_zero, Nat.zero_ne_one, Nat.one_ne_zero]
            replace hF := hG41 _ (F_some hF)
            have hwo : WO [] [] := .nil
            exact ⟨(a37, a38), hF, (hwo.spec ok).1, WS.mk' (.cons (.refl _) (.cons (.refl _) .nil)) ok hwo⟩
      ·
        rintro ⟨a34, a35⟩ s' hF ⟨ok, hws⟩
        refine WP_ws hws ?_
        clear hws s'
        refine C_seq ?_
        refine C_reg (mdl []) ?_
        refine S_m (v := .cplx _ _ _) rfl ?_
        refine S_m (v := .cplx _ _ _) rfl ?_
        refine S_a (v := .cplx _ _ _) rfl ?_
        refine S_a (v := .cplx _ _ _) rfl ?_
        refine S_a (v := .int _ _) rfl ?_
        refine S_nil ?_
        refine WP_ret ?_
        repeat (first | with_reducible refine Exit.sel_ret ?_ | with_reducible refine Exit.blk_ret ?_ | with_reducible refine Exit.jmp_ret ?_)
        refine C_ret (fn := Tryd.f26) rfl (.tmp (v := .cplx .f64 a34.1 a34.2) rfl (.tmp (v := .cplx .f64 a35.1 a35.2) rfl (.tmp (v := .int .i64 (0 : Int)) rfl .nil))) ?_
        exact ⟨_, _, (.tupC (.cons (.refl _) (.cons (.refl _) (.cons (.refl _) (.nil))))), ok.wh, _, F_some hF, rfl, rfl⟩
theorem F_trace_Box_ok {β : Type} {f : (Nat × Nat) × (Nat × Nat) × Int → Option β} {G : β → Prop} {R : D → Heap → Prop} {p0 : List T_trace_Stroke} (h : Heap) (hF : OptP ((F_trace_Box p0).bind f) G) (hk : ∀ r, F_trace_Box p0 = some r → OptP (f r) G → R (.tup [.cplx .f64 r.1.1 r.1.2, .cplx .f64 r.2.1.1 r.2.1.2, .int .i64 r.2.2]) h) : CallsA Tryd.prog 26 [.sl 2 (List.map c_T_trace_Stroke p0) 0] h R := by
  obtain ⟨r0, hr, hF⟩ := F_bind hF
  refine (F_trace_Box_w (G := fun r => r = r0) p0 h ⟨r0, hr, rfl⟩).mono ?_
  rintro _ _ ⟨r, rfl, rfl, rfl⟩
  exact hk _ hr hF
theorem F_lecternref10_From_w (p0 : Nat × Nat) {G : T_lecternref10_Spot × Bool → Prop} (h : Heap) (hF : OptP (F_lecternref10_From p0) G) : CallsA Tryd.prog 25 [.cplx .f64 p0.1 p0.2] h fun d h' => ∃ r, G r ∧ d = .tup [.agg (c_T_lecternref10_Spot r.1), .bool r.2] ∧ h' = h := by
  refine CallsA.ret ?_
  refine C_body Tryd.func25 rfl en_25 Tryd.ntmps25 rfl (fun ok => ?_)
  rw [F_lecternref10_From] at hF
  refine C_seq ?_
  refine C_reg (mdl [(2, 1)]) ?_
  refine S_all1 ok rfl ty_zc_52 ?_
  intro i1 hi1 ok
  refine S_a (v := .bool _) rfl ?_
  refine S_nil ?_
  refine C_seq ?_
  refine C_reg (mdl []) ?_
  refine S_m (v := .cplx _ _ _) rfl ?_
  refine S_real (a := p0) rfl ?_
  refine S_m (v := .cplx _ _ _) rfl ?_
  refine S_imag (a := p0) rfl ?_
  refine S_a (v := .float _ _) rfl ?_
  refine S_a (v := .float _ _) rfl ?_
  refine S_nil ?_
  refine C_seq ?_
  refine C_seq ?_
  refine C_reg (mdl []) ?_
  refine S_m (v := .float _ _) rfl ?_
  refine S_bin rfl rfl (e_fge (a := p0.1) (b := (13920209183539462144 : Nat))) ?_
  refine S_m (v := .bool _) rfl ?_
  refine S_two (b := (fge p0.1 (13920209183539462144 : Nat))) 3 16 (.bool ((fge p0.1 (13920209183539462144 : Nat)) && (fle p0.1 (4696837146684686336 : Nat)))) (fun hb2 => ?_) (fun hb2 => ?_) ?_
  ·
    refine S_on rfl rfl hb2 ?_
    refine S_in ?_
    refine S_m (v := .float _ _) rfl ?_
    refine S_nil ?_
    refine S_on rfl rfl hb2 ?_
    refine S_in ?_
    refine S_bin rfl rfl (e_fle (a := p0.1) (b := (4696837146684686336 : Nat))) ?_
    refine S_nil ?_
    refine S_pickT (v := .bool _) rfl hb2 rfl ?_
    refine S_nil ?_
    refine .hd (and_t hb2) ?_
    repeat (first | with_reducible exact WS.refl _ | refine WS.add ?_ rfl | exact WS.refl _)
  ·
    refine S_off rfl rfl hb2 ?_
    refine S_offD ?_
    refine S_off rfl rfl hb2 ?_
    refine S_offD ?_
    refine S_pickF (v := .bool _) rfl hb2 rfl ?_
    refine S_nil ?_
    refine .hd (and_f hb2) ?_
    repeat (first | with_reducible exact WS.refl _ | refine WS.add ?_ rfl | exact WS.refl _)
  refine S_m (v := .bool _) rfl ?_
  refine S_two (b := ((fge p0.1 (13920209183539462144 : Nat)) && (fle p0.1 (4696837146684686336 : Nat)))) 3 20 (.bool (((fge p0.1 (13920209183539462144 : Nat)) && (fle p0.1 (4696837146684686336 : Nat))) && (fge p0.2 (13920209183539462144 : Nat)))) (fun hb3 => ?_) (fun hb3 => ?_) ?_
  ·
    refine S_on rfl rfl hb3 ?_
    refine S_in ?_
    refine S_m (v := .float _ _) rfl ?_
    refine S_nil ?_
    refine S_on rfl rfl hb3 ?_
    refine S_in ?_
    refine S_bin rfl rfl (e_fge (a := p0.2) (b := (13920209183539462144 : Nat))) ?_
    refine S_nil ?_
    refine S_pickT (v := .bool _) rfl hb3 rfl ?_
    refine S_nil ?_
    refine .hd (and_t hb3) ?_
    repeat (first | with_reducible exact WS.refl _ | refine WS.add ?_ rfl | exact WS.refl _)
  ·
    refine S_off rfl rfl hb3 ?_
    refine S_offD ?_
    refine S_off rfl rfl hb3 ?_
    refine S_offD ?_
    refine S_pickF (v := .bool _) rfl hb3 rfl ?_
    refine S_nil ?_
    refine .hd (and_f hb3) ?_
    repeat (first | with_reducible exact WS.refl _ | refine WS.add ?_ rfl | exact WS.refl _)
  refine S_m (v := .bool _) rfl ?_
  refine S_two (b := (((fge p0.1 (13920209183539462144 : Nat)) && (fle p0.1 (4696837146684686336 : Nat))) && (fge p0.2 (13920209183539462144 : Nat)))) 3 24 (.bool ((((fge p0.1 (13920209183539462144 : Nat)) && (fle p0.1 (4696837146684686336 : Nat))) && (fge p0.2 (13920209183539462144 : Nat))) && (fle p0.2 (4696837146684686336 : Nat)))) (fun hb4 => ?_) (fun hb4 => ?_) ?_
  ·
    refine S_on rfl rfl hb4 ?_
    refine S_in ?_
    refine S_m (v := .float _ _) rfl ?_
    refine S_nil ?_
    refine S_on rfl rfl hb4 ?_
    refine S_in ?_
    refine S_bin rfl rfl (e_fle (a := p0.2) (b := (4696837146684686336 : Nat))) ?_
    refine S_nil ?_
    refine S_pickT (v := .bool _) rfl hb4 rfl ?_
    refine S_nil ?_
    refine .hd (and_t hb4) ?_
    repeat (first | with_reducible exact WS.refl _ | refine WS.add ?_ rfl | exact WS.refl _)
  ·
    refine S_off rfl rfl hb4 ?_
    refine S_offD ?_
    refine S_off rfl rfl hb4 ?_
    refine S_offD ?_
    refine S_pickF (v := .bool _) rfl hb4 rfl ?_
    refine S_nil ?_
    refine .hd (and_f hb4) ?_
    repeat (first | with_reducible exact WS.refl _ | refine WS.add ?_ rfl | exact WS.refl _)
  refine S_un rfl (ev_not _) ?_
  refine S_nil ?_
  refine C_if (b := (!((((fge p0.1 (13920209183539462144 : Nat)) && (fle p0.1 (4696837146684686336 : Nat))) && (fge p0.2 (13920209183539462144 : Nat))) && (fle p0.2 (4696837146684686336 : Nat))))) rfl hF (fun hb5 hF => ?_) (fun hb5 hF => ?_)
  ·
    refine C_seq ?_
    refine C_reg (mdl []) ?_
    refine S_bld (v := .agg (c_T_lecternref10_Spot (⟨(0 : Int), (0 : Int)⟩ : T_lecternref10_Spot))) (b_st ty_zc_52 ty_pl_52 rfl) ?_
    refine S_st (j := 0) (cs' := [.int .i64 (⟨(0 : Int), (0 : Int)⟩ : T_lecternref10_Spot).X, .int .i64 (⟨(0 : Int), (0 : Int)⟩ : T_lecternref10_Spot).Y]) ok rfl rfl rfl hi1 rfl ty_sz_52 rfl rfl (fun ok => ?_)
    refine S_a (v := .bool _) rfl ?_
    refine S_nil ?_
    refine WP_ret ?_
    repeat (first | with_reducible refine Exit.sel_ret ?_ | with_reducible refine Exit.blk_ret ?_ | with_reducible refine Exit.jmp_ret ?_)
    refine C_ret (fn := Tryd.f25) rfl (.cell rfl (ld_ptr (j := 0) ok rfl hi1 (p_agg (vs := [.int .i64 (⟨(0 : Int), (0 : Int)⟩ : T_lecternref10_Spot).X, .int .i64 (⟨(0 : Int), (0 : Int)⟩ : T_lecternref10_Spot).Y]) ty_ag_52 ty_sz_52 rfl rfl)) (.tmp (v := .bool false) rfl .nil)) ?_
    exact ⟨_, _, (.tupC (.cons (.aggC (.cons (.refl _) (.cons (.refl _) (.nil)))) (.cons (.refl _) (.nil)))), ok.wh, _, F_some hF, rfl, rfl⟩
  ·
    refine WP_skip ?_
    refine C_seq ?_
    refine C_reg (mdl [(6, 1)]) ?_
    refine S_m (v := .float _ _) rfl ?_
    refine S_f2i rfl ty_ki_3 ty_un_40 hF (fun x6 _ hF => ?_)
    refine S_m (v := .float _ _) rfl ?_
    refine S_f2i rfl ty_ki_3 ty_un_40 hF (fun x7 _ hF => ?_)
    refine S_bld (v := .agg (c_T_lecternref10_Spot (⟨x6, x7⟩ : T_lecternref10_Spot))) (b_st ty_zc_52 ty_pl_52 rfl) ?_
    refine S_all1 ok rfl ty_zc_52 ?_
    intro i8 hi8 ok
    refine S_st (j := 0) (cs' := [.int .i64 (⟨x6, x7⟩ : T_lecternref10_Spot).X, .int .i64 (⟨x6, x7⟩ : T_lecternref10_Spot).Y]) ok rfl rfl rfl hi8 rfl ty_sz_52 rfl rfl (fun ok => ?_)
    refine S_nil ?_
    refine C_join hF (fun (v : Int × Int × Bool) s' => match v with | (a11, a12, a13) => OK h [(i1, .cells [.int .i64 a11, .int .i64 a12])] ∧ WS s' ⟨mkSl 45 [(2, .ptr i1 0), (3, .bool a13)], Hp h [(i1, .cells [.int .i64 a11, .int .i64 a12])]⟩) (fun J14 hF => ?_) ?_
    ·
      refine C_fork (mdl []) [0, 1, 2, 3, 4, 5, 6, 7, 10] [8, 9, 11, 12, 13, 14] [13, 8, 9, 11, 12, 14] [_, _, _, _, _, _, _, _, _] [_, _, _, _, _, _] [_, _, _, _, _, _] (by kernel_rfl) rfl rfl rfl rfl (by kernel_rfl) ?_
      refine S_ldP (j := 0) ok rfl rfl rfl hi8 (p_agg (vs := c_T_lecternref10_Spot (⟨x6, x7⟩ : T_lecternref10_Spot)) ty_ag_52 ty_sz_52 rfl rfl) ?_
      refine S_faP rfl ty_fd_52_0 ty_sz_3 ?_
      refine S_ldP (j := 0) ok rfl rfl rfl hi8 (p_one (v := .int .i64 (⟨x6, x7⟩ : T_lecternref10_Spot).X) ty_ag_3 ty_sz_3 rfl) ?_
      refine S_conv rfl (e_i2f ty_ki_40 ty_fa_40 ty_un_3) ?_
      refine S_m (v := .float _ _) rfl ?_
      refine S_bin rfl rfl (e_feq (a := (i2f (⟨x6, x7⟩ : T_lecternref10_Spot).X)) (b := p0.1)) ?_
      refine S_m (v := .bool _) rfl ?_
      refine S_if (b := (feq (i2f (⟨x6, x7⟩ : T_lecternref10_Spot).X) p0.1)) hF (fun hb15 hF => ?_) (fun hb16 hF => ?_)
      ·
        refine S_on rfl rfl hb15 ?_
        refine S_in ?_
        refine S_faP rfl ty_fd_52_1 ty_sz_3 ?_
        refine S_nil ?_
        refine S_on rfl rfl hb15 ?_
        refine S_in ?_
        refine S_m (v := .float _ _) rfl ?_
        refine S_nil ?_
        refine S_nil ?_
        refine ⟨?_, ?_⟩
        ·
          refine S_on rfl rfl hb15 ?_
          refine S_in ?_
          refine S_ldP (j := 0) ok rfl rfl rfl hi8 (p_one (v := .int .i64 (⟨x6, x7⟩ : T_lecternref10_Spot).Y) ty_ag_3 ty_sz_3 rfl) ?_
          refine S_nil ?_
          refine S_on rfl rfl hb15 ?_
          refine S_in ?_
          refine S_conv rfl (e_i2f ty_ki_40 ty_fa_40 ty_un_3) ?_
          refine S_nil ?_
          refine S_on rfl rfl hb15 ?_
          refine S_in ?_
          refine S_bin rfl rfl (e_feq (a := (i2f (⟨x6, x7⟩ : T_lecternref10_Spot).Y)) (b := p0.2)) ?_
          refine S_nil ?_
          refine S_pickT (v := .bool _) rfl hb15 rfl ?_
          refine S_st (j := 1) (cs' := [.int .i64 (⟨x6, x7⟩ : T_lecternref10_Spot).X, .int .i64 (⟨x6, x7⟩ : T_lecternref10_Spot).Y]) ok rfl rfl rfl hi1 rfl ty_sz_52 rfl rfl (fun ok => ?_)
          refine S_a (v := .bool _) rfl ?_
          refine S_nil ?_
          have hwo : WO [(i8, .cells [.int .i64 (⟨x6, x7⟩ : T_lecternref10_Spot).X, .int .i64 (⟨x6, x7⟩ : T_lecternref10_Spot).Y]), (i1, .cells [.int .i64 (⟨x6, x7⟩ : T_lecternref10_Spot).X, .int .i64 (⟨x6, x7⟩ : T_lecternref10_Spot).Y])] [(i1, .cells [.int .i64 (⟨x6, x7⟩ : T_lecternref10_Spot).X, .int .i64 (⟨x6, x7⟩ : T_lecternref10_Spot).Y])] := (.drop (.keep .nil))
          exact ⟨((⟨x6, x7⟩ : T_lecternref10_Spot).X, (⟨x6, x7⟩ : T_lecternref10_Spot).Y, (feq (i2f (⟨x6, x7⟩ : T_lecternref10_Spot).Y) p0.2)), hF, (hwo.spec ok).1, WS.mk' (.cons (.refl _) (.cons (.refl _) .nil)) ok hwo⟩
        ·
          refine S_st (j := 1) (cs' := [.int .i64 (⟨x6, x7⟩ : T_lecternref10_Spot).X, .int .i64 (⟨x6, x7⟩ : T_lecternref10_Spot).Y]) ok rfl rfl rfl hi1 rfl ty_sz_52 rfl rfl (fun ok => ?_)
          refine S_on rfl rfl hb15 ?_
          refine S_in ?_
          refine S_ldP (j := 0) ok rfl rfl rfl hi8 (p_one (v := .int .i64 (⟨x6, x7⟩ : T_lecternref10_Spot).Y) ty_ag_3 ty_sz_3 rfl) ?_
          refine S_nil ?_
          refine S_on rfl rfl hb15 ?_
          refine S_in ?_
          refine S_conv rfl (e_i2f ty_ki_40 ty_fa_40 ty_un_3) ?_
          refine S_nil ?_
          refine S_on rfl rfl hb15 ?_
          refine S_in ?_
          refine S_bin rfl rfl (e_feq (a := (i2f (⟨x6, x7⟩ : T_lecternref10_Spot).Y)) (b := p0.2)) ?_
          refine S_nil ?_
          refine S_pickT (v := .bool _) rfl hb15 rfl ?_
          refine S_a (v := .bool _) rfl ?_
          refine S_nil ?_
          have hwo : WO [(i8, .cells [.int .i64 (⟨x6, x7⟩ : T_lecternref10_Spot).X, .int .i64 (⟨x6, x7⟩ : T_lecternref10_Spot).Y]), (i1, .cells [.int .i64 (⟨x6, x7⟩ : T_lecternref10_Spot).X, .int .i64 (⟨x6, x7⟩ : T_lecternref10_Spot).Y])] [(i1, .cells [.int .i64 (⟨x6, x7⟩ : T_lecternref10_Spot).X, .int .i64 (⟨x6, x7⟩ : T_lecternref10_Spot).Y])] := (.drop (.keep .nil))
          exact ⟨((⟨x6, x7⟩ : T_lecternref10_Spot).X, (⟨x6, x7⟩ : T_lecternref10_Spot).Y, (feq (i2f (⟨x6, x7⟩ : T_lecternref10_Spot).Y) p0.2)), hF, (hwo.spec ok).1, WS.mk' (.cons (.refl _) (.cons (.refl _) .nil)) ok hwo⟩
      ·
        refine S_off rfl rfl hb16 ?_
        refine S_offD ?_
        refine S_off rfl rfl hb16 ?_
        refine S_offD ?_
        refine S_nil ?_
        refine ⟨?_, ?_⟩
        ·
          refine S_off rfl rfl hb16 ?_
          refine S_offD ?_
          refine S_off rfl rfl hb16 ?_
          refine S_offD ?_
          refine S_off rfl rfl hb16 ?_
          refine S_offD ?_
          refine S_pickF (v := .bool _) rfl hb16 rfl ?_
          refine S_st (j := 1) (cs' := [.int .i64 (⟨x6, x7⟩ : T_lecternref10_Spot).X, .int .i64 (⟨x6, x7⟩ : T_lecternref10_Spot).Y]) ok rfl rfl rfl hi1 rfl ty_sz_52 rfl rfl (fun ok => ?_)
          refine S_a (v := .bool _) rfl ?_
          refine S_nil ?_
          have hwo : WO [(i8, .cells [.int .i64 (⟨x6, x7⟩ : T_lecternref10_Spot).X, .int .i64 (⟨x6, x7⟩ : T_lecternref10_Spot).Y]), (i1, .cells [.int .i64 (⟨x6, x7⟩ : T_lecternref10_Spot).X, .int .i64 (⟨x6, x7⟩ : T_lecternref10_Spot).Y])] [(i1, .cells [.int .i64 (⟨x6, x7⟩ : T_lecternref10_Spot).X, .int .i64 (⟨x6, x7⟩ : T_lecternref10_Spot).Y])] := (.drop (.keep .nil))
          exact ⟨((⟨x6, x7⟩ : T_lecternref10_Spot).X, (⟨x6, x7⟩ : T_lecternref10_Spot).Y, false), hF, (hwo.spec ok).1, WS.mk' (.cons (.refl _) (.cons (.refl _) .nil)) ok hwo⟩
        ·
          refine S_st (j := 1) (cs' := [.int .i64 (⟨x6, x7⟩ : T_lecternref10_Spot).X, .int .i64 (⟨x6, x7⟩ : T_lecternref10_Spot).Y]) ok rfl rfl rfl hi1 rfl ty_sz_52 rfl rfl (fun ok => ?_)
          refine S_off rfl rfl hb16 ?_
          refine S_offD ?_
          refine S_off rfl rfl hb16 ?_
          refine S_offD ?_
          refine S_off rfl rfl hb16 ?_
          refine S_offD ?_
          refine S_pickF (v := .bool _) rfl hb16 rfl ?_
          refine S_a (v := .bool _) rfl ?_
          refine S_nil ?_
          have hwo : WO [(i8, .cells [.int .i64 (⟨x6, x7⟩ : T_lecternref10_Spot).X, .int .i64 (⟨x6, x7⟩ : T_lecternref10_Spot).Y]), (i1, .cells [.int .i64 (⟨x6, x7⟩ : T_lecternref10_Spot).X, .int .i64 (⟨x6, x7⟩ : T_lecternref10_Spot).Y])] [(i1, .cells [.int .i64 (⟨x6, x7⟩ : T_lecternref10_Spot).X, .int .i64 (⟨x6, x7⟩ : T_lecternref10_Spot).Y])] := (.drop (.keep .nil))
          exact ⟨((⟨x6, x7⟩ : T_lecternref10_Spot).X, (⟨x6, x7⟩ : T_lecternref10_Spot).Y, false), hF, (hwo.spec ok).1, WS.mk' (.cons (.refl _) (.cons (.refl _) .nil)) ok hwo⟩
    ·
      rintro ⟨a11, a12, a13⟩ s' hF ⟨ok, hws⟩
      refine WP_ws hws ?_
      clear hws s'
      refine WP_ret ?_
      repeat (first | with_reducible refine Exit.sel_ret ?_ | with_reducible refine Exit.blk_ret ?_ | with_reducible refine Exit.jmp_ret ?_)
      refine C_ret (fn := Tryd.f25) rfl (.cell rfl (ld_ptr (j := 0) ok rfl hi1 (p_agg (vs := [.int .i64 a11, .int .i64 a12]) ty_ag_52 ty_sz_52 rfl rfl)) (.tmp (v := .bool a13) rfl .nil)) ?_
      exact ⟨_, _, (.tupC (.cons (.aggC (.cons (.refl _) (.cons (.refl _) (.nil)))) (.cons (.refl _) (.nil)))), ok.wh, _, F_some hF, rfl, rfl⟩
theorem F_lecternref10_From_ok {β : Type} {f : T_lecternref10_Spot × Bool → Option β} {G : β → Prop} {R : D → Heap → Prop} {p0 : Nat × Nat} (h : Heap) (hF : OptP ((F_lecternref10_From p0).bind f) G) (hk : ∀ r, F_lecternref10_From p0 = some r → OptP (f r) G → R (.tup [.agg (c_T_lecternref10_Spot r.1), .bool r.2]) h) : CallsA Tryd.prog 25 [.cplx .f64 p0.1 p0.2] h R := by
  obtain ⟨r0, hr, hF⟩ := F_bind hF
  refine (F_lecternref10_From_w (G := fun r => r = r0) p0 h ⟨r0, hr, rfl⟩).mono ?_
  rintro _ _ ⟨r, rfl, rfl, rfl⟩
  exact hk _ hr hF
theorem F_lecternlaw10_same_w (p0 : List T_trace_Stroke) (p1 : List T_lecternref10_Stroke) {G : Bool → Prop} (h : Heap) (hF : OptP (F_lecternlaw10_same p0 p1) G) : CallsA Tryd.prog 14 [.sl 2 (List.map c_T_trace_Stroke p0) 0, .sl 2 (List.map c_T_lecternref10_Stroke p1) 0] h fun d h' => ∃ r, G r ∧ d = .bool r ∧ h' = h := by
  refine CallsA.ret ?_
  refine C_body Tryd.func14 rfl en_14 Tryd.ntmps14 rfl (fun ok => ?_)
  rw [F_lecternlaw10_same] at hF
  refine C_seq ?_
  refine C_reg (mdl []) ?_
  refine S_a (v := .bool _) rfl ?_
  refine S_nil ?_
  refine C_seq ?_
  refine C_seq ?_
  refine C_reg (mdl []) ?_
  refine S_m (v := .sl _ _ _) rfl ?_
  refine S_lenL rfl ty_sl_23 ?_
  refine S_m (v := .sl _ _ _) rfl ?_
  refine S_lenL rfl ty_sl_27 ?_
  refine S_bin rfl rfl (ev_neq ..) ?_
  refine S_nil ?_
  refine C_if (b := ((p0.length : Int) != (p1.length : Int))) rfl hF (fun hb1 hF => ?_) (fun hb1 hF => ?_)
  ·
    refine C_seq ?_
    refine C_reg (mdl []) ?_
    refine S_a (v := .bool _) rfl ?_
    refine S_nil ?_
    refine WP_ret ?_
    repeat (first | with_reducible refine Exit.sel_ret ?_ | with_reducible refine Exit.blk_ret ?_ | with_reducible refine Exit.jmp_ret ?_)
    refine C_ret (fn := Tryd.f14) rfl (.tmp (v := .bool false) rfl .nil) ?_
    exact ⟨_, _, (.refl _), ok.wh, _, F_some hF, rfl, rfl⟩
  ·
    refine WP_skip ?_
    refine C_join hF (fun (_ : Unit) s' => OK h [] ∧ WS s' ⟨mkSl 78 [], Hp h []⟩) (fun J64 hF => ?_) ?_
    ·
      refine C_seq ?_
      refine C_reg (mdl []) ?_
      refine S_m (v := .sl _ _ _) rfl ?_
      refine S_lenL rfl ty_sl_23 ?_
      refine S_m (v := .int _ _) rfl ?_
      refine S_nil ?_
      refine WP_block ?_
      refine C_loop (σ := Int) hF (fun (a65 : Int) s' => OK h [] ∧ WS s' ⟨mkSl 78 [(0, .sl 2 (List.map c_T_trace_Stroke p0) 0), (1, .sl 2 (List.map c_T_lecternref10_Stroke p1) 0), (16, .int .i64 (p0.length : Int)), (17, .int .i64 a65)], Hp h []⟩) ?_ ?_
      ·
        have hwo : WO [] [] := .nil
        exact ⟨(hwo.spec ok).1, WS.mk' (.cons (.refl _) (.cons (.refl _) (.cons (.refl _) (.cons (.refl _) .nil)))) ok hwo⟩
      ·
        rintro G66 hG67 rec68 a65 s' ih69 hF ⟨ok, hws⟩
        refine WP_ws hws ?_
        clear hws s'
        rw [F_lecternlaw10_same_l0] at hF
        refine C_seq ?_
        refine C_reg (mdl []) ?_
        refine S_bin rfl rfl (ev_lss ..) ?_
        refine S_nil ?_
        refine C_seq ?_
        refine C_if (b := (decide (a65 < (p0.length : Int)))) rfl hF (fun hb70 hF => ?_) (fun hb70 hF => ?_)
        ·
          refine WP_skip ?_
          refine C_join hF (fun (_ : Unit) s' => OK h [] ∧ WS s' ⟨mkSl 78 [(0, .sl 2 (List.map c_T_trace_Stroke p0) 0), (1, .sl 2 (List.map c_T_lecternref10_Stroke p1) 0), (16, .int .i64 (p0.length : Int)), (17, .int .i64 a65)], Hp h []⟩) (fun J101 hF => ?_) ?_
          ·
            refine WP_block ?_
            refine C_seq ?_
            refine C_reg (mdl []) ?_
            refine S_m (v := .int _ _) rfl ?_
            refine S_a (v := .int _ _) rfl ?_
            refine S_nil ?_
            refine C_seq ?_
            refine C_join hF (fun (a108 : Bool) s' => OK h [] ∧ WS s' ⟨mkSl 78 [(0, .sl 2 (List.map c_T_trace_Stroke p0) 0), (1, .sl 2 (List.map c_T_lecternref10_Stroke p1) 0), (5, .int .i64 a65), (16, .int .i64 (p0.length : Int)), (17, .int .i64 a65), (45, .bool a108)], Hp h []⟩) (fun J109 hF => ?_) ?_
            ·
              refine C_drw (mdl [(24, 3), (29, 3), (36, 3), (42, 3)]) (by kernel_rfl) (by kernel_rfl) ?_
              refine S_m (v := .sl _ _ _) rfl ?_
              refine S_m (v := .int _ _) rfl ?_
              refine S_ix rfl rfl ty_sl_23 ty_sz_56 hF (fun x110 _ hF => ?_)
              refine S_faQ rfl ty_fd_56_1 ty_sz_4 rfl ?_
              refine S_ldQ rfl (p_one ty_ag_4 ty_sz_4 rfl) ?_
              refine S_m (v := .sl _ _ _) rfl ?_
              refine S_m (v := .int _ _) rfl ?_
              refine S_ix rfl rfl ty_sl_27 ty_sz_80 hF (fun x111 _ hF => ?_)
              refine S_faQ rfl ty_fd_80_1 ty_sz_4 rfl ?_
              refine S_ldQ rfl (p_one ty_ag_4 ty_sz_4 rfl) ?_
              refine S_bin rfl rfl (e_bne ty_bo_4) ?_
              refine S_m (v := .bool _) rfl ?_
              refine S_if (b := (!(x110.Closed == x111.Closed))) hF (fun hb112 hF => ?_) (fun hb113 hF => ?_)
              ·
                refine S_off rfl rfl hb112 ?_
                refine S_offD ?_
                refine S_off rfl rfl hb112 ?_
                refine S_offD ?_
                refine S_off rfl rfl hb112 ?_
                refine S_offD ?_
                refine S_off rfl rfl hb112 ?_
                refine S_offD ?_
                refine S_off rfl rfl hb112 ?_
                refine S_offD ?_
                refine S_off rfl rfl hb112 ?_
                refine S_offD ?_
                refine S_off rfl rfl hb112 ?_
                refine S_offD ?_
                refine S_off rfl rfl hb112 ?_
                refine S_offD ?_
                refine S_off rfl rfl hb112 ?_
                refine S_offD ?_
                refine S_off rfl rfl hb112 ?_
                refine S_offD ?_
                refine S_off rfl rfl hb112 ?_
                refine S_offD ?_
                refine S_off rfl rfl hb112 ?_
                refine S_offD ?_
                refine S_off rfl rfl hb112 ?_
                refine S_offD ?_
                refine S_pickT (v := .bool _) rfl hb112 rfl ?_
                refine S_nil ?_
                have hwo : WO [] [] := .nil
                exact ⟨true, hF, (hwo.spec ok).1, WS.mk' (.cons (.refl _) (.cons (.refl _) (.cons (.refl _) (.cons (.refl _) (.cons (.refl _) (.cons (.refl _) .nil)))))) ok hwo⟩
              ·
                refine S_on rfl rfl hb113 ?_
                refine S_in ?_
                refine S_m (v := .sl _ _ _) rfl ?_
                refine S_nil ?_
                refine S_on rfl rfl hb113 ?_
                refine S_in ?_
                refine S_m (v := .int _ _) rfl ?_
                refine S_nil ?_
                refine S_on rfl rfl hb113 ?_
                refine S_in ?_
                refine S_ix rfl rfl ty_sl_23 ty_sz_56 hF (fun x114 _ hF => ?_)
                refine S_nil ?_
                refine S_on rfl rfl hb113 ?_
                refine S_in ?_
                refine S_faQ rfl ty_fd_56_0 ty_sz_54 rfl ?_
                refine S_nil ?_
                refine S_on rfl rfl hb113 ?_
                refine S_in ?_
                refine S_ldQ rfl (p_one ty_ag_54 ty_sz_54 rfl) ?_
                refine S_nil ?_
                refine S_on rfl rfl hb113 ?_
                refine S_in ?_
                refine S_lenL rfl ty_sl_54 ?_
                refine S_nil ?_
                refine S_on rfl rfl hb113 ?_
                refine S_in ?_
                refine S_m (v := .sl _ _ _) rfl ?_
                refine S_nil ?_
                refine S_on rfl rfl hb113 ?_
                refine S_in ?_
                refine S_m (v := .int _ _) rfl ?_
                refine S_nil ?_
                refine S_on rfl rfl hb113 ?_
                refine S_in ?_
                refine S_ix rfl rfl ty_sl_27 ty_sz_80 hF (fun x115 _ hF => ?_)
                refine S_nil ?_
                refine S_on rfl rfl hb113 ?_
                refine S_in ?_
                refine S_faQ rfl ty_fd_80_0 ty_sz_78 rfl ?_
                refine S_nil ?_
                refine S_on rfl rfl hb113 ?_
                refine S_in ?_
                refine S_ldQ rfl (p_one ty_ag_78 ty_sz_78 rfl) ?_
                refine S_nil ?_
                refine S_on rfl rfl hb113 ?_
                refine S_in ?_
                refine S_lenL rfl ty_sl_78 ?_
                refine S_nil ?_
                refine S_on rfl rfl hb113 ?_
                refine S_in ?_
                refine S_bin rfl rfl (ev_neq ..) ?_
                refine S_nil ?_
                refine S_pickF (v := .bool _) rfl hb113 rfl ?_
                refine S_nil ?_
                have hwo : WO [] [] := .nil
                exact ⟨((x114.Spots.length : Int) != (x115.Spots.length : Int)), hF, (hwo.spec ok).1, WS.mk' (.cons (.refl _) (.cons (.refl _) (.cons (.refl _) (.cons (.refl _) (.cons (.refl _) (.cons (.refl _) .nil)))))) ok hwo⟩
            ·
              rintro a108 s' hF ⟨ok, hws⟩
              refine WP_ws hws ?_
              clear hws s'
              refine C_if (b := a108) rfl hF (fun hb116 hF => ?_) (fun hb116 hF => ?_)
              ·
                refine C_seq ?_
                refine C_reg (mdl []) ?_
                refine S_a (v := .bool _) rfl ?_
                refine S_nil ?_
                refine WP_ret ?_
                replace hF := hG67 _ (F_some hF)
                repeat (first | with_reducible refine Exit.sel_ret ?_ | with_reducible refine Exit.blk_ret ?_ | with_reducible refine Exit.jmp_ret ?_)
                refine C_ret (fn := Tryd.f14) rfl (.tmp (v := .bool false) rfl .nil) ?_
                exact ⟨_, _, (.refl _), ok.wh, _, F_some hF, rfl, rfl⟩
              ·
                refine WP_skip ?_
                refine C_seq ?_
                refine C_reg (mdl []) ?_
                refine S_m (v := .sl _ _ _) rfl ?_
                refine S_m (v := .int _ _) rfl ?_
                refine S_ix rfl rfl ty_sl_23 ty_sz_56 hF (fun x117 _ hF => ?_)
                refine S_faQ rfl ty_fd_56_0 ty_sz_54 rfl ?_
                refine S_ldQ rfl (p_one ty_ag_54 ty_sz_54 rfl) ?_
                refine S_lenL rfl ty_sl_54 ?_
                refine S_m (v := .int _ _) rfl ?_
                refine S_nil ?_
                refine WP_block ?_
                refine C_loop (σ := Int) hF (fun (a118 : Int) s' => OK h [] ∧ WS s' ⟨mkSl 78 [(0, .sl 2 (List.map c_T_trace_Stroke p0) 0), (1, .sl 2 (List.map c_T_lecternref10_Stroke p1) 0), (5, .int .i64 a65), (16, .int .i64 (p0.length : Int)), (17, .int .i64 a65), (50, .sl 1 (List.map c_cplx x117.Spots) 0), (51, .int .i64 (x117.Spots.length : Int)), (52, .int .i64 a118)], Hp h []⟩) ?_ ?_
                ·
                  have hwo : WO [] [] := .nil
                  exact ⟨(hwo.spec ok).1, WS.mk' (.cons (.refl _) (.cons (.refl _) (.cons (.refl _) (.cons (.refl _) (.cons (.refl _) (.cons (.refl _) (.cons (.refl _) (.cons (.refl _) .nil)))))))) ok hwo⟩
                ·
                  rintro G119 hG120 rec121 a118 s' ih122 hF ⟨ok, hws⟩
                  refine WP_ws hws ?_
                  clear hws s'
                  rw [F_lecternlaw10_same_l1] at hF
                  refine C_seq ?_
                  refine C_reg (mdl []) ?_
                  refine S_bin rfl rfl (ev_lss ..) ?_
                  refine S_nil ?_
                  refine C_seq ?_
                  refine C_if (b := (decide (a118 < (x117.Spots.length : Int)))) rfl hF (fun hb123 hF => ?_) (fun hb123 hF => ?_)
                  ·
                    refine WP_skip ?_
                    refine C_seq ?_
                    refine WP_block ?_
                    refine C_seq ?_
                    refine C_reg (mdl []) ?_
                    refine S_m (v := .int _ _) rfl ?_
                    refine S_ix rfl rfl ty_sl_54 ty_sz_45 hF (fun x124 _ hF => ?_)
                    refine S_ldQ rfl (p_one ty_ag_45 ty_sz_45 rfl) ?_
                    refine S_a (v := .int _ _) rfl ?_
                    refine S_a (v := .cplx _ _ _) rfl ?_
                    refine S_nil ?_
                    refine C_seq ?_
                    refine C_reg (mdl [(8, 1)]) ?_
                    refine S_m (v := .cplx _ _ _) rfl ?_
                    refine S_call (F_lecternref10_From_ok _ hF fun x125 _ hF => ?_) (.cons (.refl _) (.nil))
                    refine S_m (v := .tup _) rfl ?_
                    refine S_ext rfl rfl ?_
                    refine S_ext rfl rfl ?_
                    refine S_all1 ok rfl ty_zc_52 ?_
                    intro i126 hi126 ok
                    refine S_st (j := 0) (cs' := [.int .i64 x125.1.X, .int .i64 x125.1.Y]) ok rfl rfl rfl hi126 rfl ty_sz_52 rfl rfl (fun ok => ?_)
                    refine S_a (v := .bool _) rfl ?_
                    refine S_nil ?_
                    refine C_join hF (fun (a131 : Bool) s' => OK h [] ∧ WS s' ⟨mkSl 78 [(0, .sl 2 (List.map c_T_trace_Stroke p0) 0), (1, .sl 2 (List.map c_T_lecternref10_Stroke p1) 0), (5, .int .i64 a65), (16, .int .i64 (p0.length : Int)), (17, .int .i64 a65), (50, .sl 1 (List.map c_cplx x117.Spots) 0), (51, .int .i64 (x117.Spots.length : Int)), (52, .int .i64 a118), (75, .bool a131)], Hp h []⟩) (fun J132 hF => ?_) ?_
                    ·
                      refine C_drw (mdl [(70, 3), (73, 3)]) (by kernel_rfl) (by kernel_rfl) ?_
                      refine S_m (v := .bool _) rfl ?_
                      refine S_un rfl (ev_not _) ?_
                      refine S_m (v := .bool _) rfl ?_
                      refine S_if (b := (!x125.2)) hF (fun hb133 hF => ?_) (fun hb134 hF => ?_)
                      ·
                        refine S_off rfl rfl hb133 ?_
                        refine S_offD ?_
                        refine S_off rfl rfl hb133 ?_
                        refine S_offD ?_
                        refine S_off rfl rfl hb133 ?_
                        refine S_offD ?_
                        refine S_off rfl rfl hb133 ?_
                        refine S_offD ?_
                        refine S_off rfl rfl hb133 ?_
                        refine S_offD ?_
                        refine S_off rfl rfl hb133 ?_
                        refine S_offD ?_
                        refine S_off rfl rfl hb133 ?_
                        refine S_offD ?_
                        refine S_off rfl rfl hb133 ?_
                        refine S_offD ?_
                        refine S_off rfl rfl hb133 ?_
                        refine S_offD ?_
                        refine S_off rfl rfl hb133 ?_
                        refine S_offD ?_
                        refine S_pickT (v := .bool _) rfl hb133 rfl ?_
                        refine S_nil ?_
                        have hwo : WO [(i126, .cells [.int .i64 x125.1.X, .int .i64 x125.1.Y])] [] := (.drop .nil)
                        exact ⟨true, hF, (hwo.spec ok).1, WS.mk' (.cons (.refl _) (.cons (.refl _) (.cons (.refl _) (.cons (.refl _) (.cons (.refl _) (.cons (.refl _) (.cons (.refl _) (.cons (.refl _) (.cons (.refl _) .nil))))))))) ok hwo⟩
                      ·
                        refine S_on rfl rfl hb134 ?_
                        refine S_in ?_
                        refine S_ldP (j := 0) ok rfl rfl rfl hi126 (p_agg (vs := c_T_lecternref10_Spot x125.1) ty_ag_52 ty_sz_52 rfl rfl) ?_
                        refine S_nil ?_
                        refine S_on rfl rfl hb134 ?_
                        refine S_in ?_
                        refine S_m (v := .sl _ _ _) rfl ?_
                        refine S_nil ?_
                        refine S_on rfl rfl hb134 ?_
                        refine S_in ?_
                        refine S_m (v := .int _ _) rfl ?_
                        refine S_nil ?_
                        refine S_on rfl rfl hb134 ?_
                        refine S_in ?_
                        refine S_ix rfl rfl ty_sl_27 ty_sz_80 hF (fun x135 _ hF => ?_)
                        refine S_nil ?_
                        refine S_on rfl rfl hb134 ?_
                        refine S_in ?_
                        refine S_faQ rfl ty_fd_80_0 ty_sz_78 rfl ?_
                        refine S_nil ?_
                        refine S_on rfl rfl hb134 ?_
                        refine S_in ?_
                        refine S_ldQ rfl (p_one ty_ag_78 ty_sz_78 rfl) ?_
                        refine S_nil ?_
                        refine S_on rfl rfl hb134 ?_
                        refine S_in ?_
                        refine S_m (v := .int _ _) rfl ?_
                        refine S_nil ?_
                        refine S_on rfl rfl hb134 ?_
                        refine S_in ?_
                        refine S_ix rfl rfl ty_sl_78 ty_sz_52 hF (fun x136 _ hF => ?_)
                        refine S_nil ?_
                        refine S_on rfl rfl hb134 ?_
                        refine S_in ?_
                        refine S_ldQ rfl (p_agg (vs := c_T_lecternref10_Spot x136) ty_ag_52 ty_sz_52 rfl rfl) ?_
                        refine S_nil ?_
                        refine S_on rfl rfl hb134 ?_
                        refine S_in ?_
                        refine S_bin rfl rfl (e_aggn (b := ((x125.1.X == x136.X) && ((x125.1.Y == x136.Y) && true))) ty_qg_52 ty_sf_52 (by simp only [c_T_lecternref10_Spot, ev_eqF_cons, ev_eqF_nil, ev_part, ty_sf_52, ty_qg_52, ty_ag_3, ty_sz_3, ty_ki_3, ty_ag_3, ty_sz_3, ty_ki_3, ev_eq_int, ev_eq_str, ev_eq_bool, ev_eq_agg, ev_eq_int2, ev_eq_str2, ev_eq_bool2, List.drop_zero, List.drop_succ_cons, List.length_cons, List.length_nil, List.take_succ_cons, List.take_zero, Option.isSome_some, if_true, Option.bind_some, Option.map_some, Nat.reduceAdd, Nat.reduceLeDiff])) ?_
                        refine S_nil ?_
                        refine S_pickF (v := .bool _) rfl hb134 rfl ?_
                        refine S_nil ?_
                        have hwo : WO [(i126, .cells [.int .i64 x125.1.X, .int .i64 x125.1.Y])] [] := (.drop .nil)
                        exact ⟨(!((x125.1.X == x136.X) && ((x125.1.Y == x136.Y) && true))), hF, (hwo.spec ok).1, WS.mk' (.cons (.refl _) (.cons (.refl _) (.cons (.refl _) (.cons (.refl _) (.cons (.refl _) (.cons (.refl _) (.cons (.refl _) (.cons (.refl _) (.cons (.refl _) .nil))))))))) ok hwo⟩
                    ·
                      rintro a131 s' hF ⟨ok, hws⟩
                      refine WP_ws hws ?_
                      clear hws s'
                      refine C_if (b := a131) rfl hF (fun hb137 hF => ?_) (fun hb137 hF => ?_)
                      ·
                        refine C_seq ?_
                        refine C_reg (mdl []) ?_
                        refine S_a (v := .bool _) rfl ?_
                        refine S_nil ?_
                        refine WP_ret ?_
                        replace hF := hG120 _ (F_some hF)
                        replace hF := hG67 _ (F_some hF)
                        repeat (first | with_reducible refine Exit.sel_ret ?_ | with_reducible refine Exit.blk_ret ?_ | with_reducible refine Exit.jmp_ret ?_)
                        refine C_ret (fn := Tryd.f14) rfl (.tmp (v := .bool false) rfl .nil) ?_
                        exact ⟨_, _, (.refl _), ok.wh, _, F_some hF, rfl, rfl⟩
                      ·
                        refine WP_skip ?_
                        refine C_reg (mdl []) ?_
                        refine S_bin rfl rfl (ev_add ..) ?_
                        refine S_m (v := .int _ _) rfl ?_
                        refine S_nil ?_
                        refine ih122 (IntKind.wrap .i64 (a118 + (1 : Int))) _ hF ?_
                        have hwo : WO [] [] := .nil
                        exact ⟨(hwo.spec ok).1, WS.mk' (.cons (.refl _) (.cons (.refl _) (.cons (.refl _) (.cons (.refl _) (.cons (.refl _) (.cons (.refl _) (.cons (.refl _) (.cons (.refl _) .nil)))))))) ok hwo⟩
                  ·
                    refine WP_exit ?_
                    simp only [Exit.sel, Exit.blk, Exit.jmp, if_true, if_false, reduceIte, Nat.reduceEqDiff, Nat.succ_ne_zero, Nat.zero_ne_one, Nat.one_ne_zero]
                    replace hF := hG120 _ (F_some hF)
                    have hwo : WO [] [] := .nil
                    exact ⟨(), hF, (hwo.spec ok).1, WS.mk' (.cons (.refl _) (.cons (.refl _) (.cons (.refl _) (.cons (.refl _) .nil)))) ok hwo⟩
          ·
            rintro ⟨⟩ s' hF ⟨ok, hws⟩
            refine WP_ws hws ?_
            clear hws s'
            refine C_reg (mdl []) ?_
            refine S_bin rfl rfl (ev_add ..) ?_
            refine S_m (v := .int _ _) rfl ?_
            refine S_nil ?_
            refine ih69 (IntKind.wrap .i64 (a65 + (1 : Int))) _ hF ?_
            have hwo : WO [] [] := .nil
            exact ⟨(hwo.spec ok).1, WS.mk' (.cons (.refl _) (.cons (.refl _) (.cons (.refl _) (.cons (.refl _) .nil)))) ok hwo⟩
        ·
          refine WP_exit ?_
          simp only [Exit.sel, Exit.blk, Exit.jmp, if_true, if_false, reduceIte, Nat.reduceEqDiff, Nat.succ_ne_zero, Nat.zero_ne_one, Nat.one_ne_zero]
          replace hF := hG67 _ (F_some hF)
          have hwo : WO [] [] := .nil
          exact ⟨(), hF, (hwo.spec ok).1, WS.mk' .nil ok hwo⟩
    ·
      rintro ⟨⟩ s' hF ⟨ok, hws⟩
      refine WP_ws hws ?_
      clear hws s'
      refine C_seq ?_
      refine C_reg (mdl []) ?_
      refine S_a (v := .bool _) rfl ?_
      refine S_nil ?_
      refine WP_ret ?_
      repeat (first | with_reducible refine Exit.sel_ret ?_ | with_reducible refine Exit.blk_ret ?_ | with_reducible refine Exit.jmp_ret ?_)
      refine C_ret (fn := Tryd.f14) rfl (.tmp (v := .bool true) rfl .nil) ?_
      exact ⟨_, _, (.refl _), ok.wh, _, F_some hF, rfl, rfl⟩
theorem F_lecternlaw10_same_ok {β : Type} {f : Bool → Option β} {G : β → Prop} {R : D → Heap → Prop} {p0 : List T_trace_Stroke} {p1 : List T_lecternref10_Stroke} (h : Heap) (hF : OptP ((F_lecternlaw10_same p0 p1).bind f) G) (hk : ∀ r, F_lecternlaw10_same p0 p1 = some r → OptP (f r) G → R (.bool r) h) : CallsA Tryd.prog 14 [.sl 2 (List.map c_T_trace_Stroke p0) 0, .sl 2 (List.map c_T_lecternref10_Stroke p1) 0] h R := by
  obtain ⟨r0, hr, hF⟩ := F_bind hF
  refine (F_lecternlaw10_same_w (G := fun r => r = r0) p0 p1 h ⟨r0, hr, rfl⟩).mono ?_
  rintro _ _ ⟨r, rfl, rfl, rfl⟩
  exact hk _ hr hF
end Go.Proofs.YtocfjohangcajaaDoor
