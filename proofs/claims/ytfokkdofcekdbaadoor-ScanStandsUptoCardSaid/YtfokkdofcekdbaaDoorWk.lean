/- The walks. No condition. -/
import Derived.Test.YtfokkdofcekdbaaDoorWk2
set_option linter.unusedVariables false
set_option linter.unusedSimpArgs false
set_option maxRecDepth 20000
set_option maxHeartbeats 8000000
namespace Go.Proofs.YtfokkdofcekdbaaDoor
theorem F_lecternlaw03_ScanStands_w (p0 : List UInt8) {G : Bool → Prop} (h : Heap) (hF : OptP (F_lecternlaw03_ScanStands p0) G) : CallsA Tryd.prog 3 [.sl 1 (List.map c_u8 p0) 0] h fun d h' => ∃ r, G r ∧ d = .bool r := by
  refine CallsA.ret ?_
  refine C_body Tryd.func3 rfl en_3 Tryd.ntmps3 rfl (fun ok => ?_)
  rw [F_lecternlaw03_ScanStands] at hF
  refine C_seq ?_
  refine C_reg (mdl []) ?_
  refine S_a (v := .bool _) rfl ?_
  refine S_nil ?_
  refine C_seq ?_
  refine C_seq ?_
  refine C_reg (mdl []) ?_
  refine S_call (F_lecternlaw03_awake_ok _ hF fun x1 _ hF => ?_) (.nil)
  refine S_un rfl (ev_not _) ?_
  refine S_nil ?_
  refine C_if (b := (!x1)) rfl hF (fun hb2 hF => ?_) (fun hb2 hF => ?_)
  ·
    refine C_seq ?_
    refine C_reg (mdl []) ?_
    refine S_a (v := .bool _) rfl ?_
    refine S_nil ?_
    refine WP_ret ?_
    repeat (first | with_reducible refine Exit.sel_ret ?_ | with_reducible refine Exit.blk_ret ?_ | with_reducible refine Exit.jmp_ret ?_)
    refine C_ret (fn := Tryd.f3) rfl (.tmp (v := .bool false) rfl .nil) ?_
    exact ⟨_, _, (.refl _), WH.refl _, _, F_some hF, rfl⟩
  ·
    refine WP_skip ?_
    refine C_seq ?_
    refine C_reg (mdl []) ?_
    refine S_m (v := .sl _ _ _) rfl ?_
    refine S_call (F_scan_All_ok _ hF fun x3 _ hF => ?_) (.cons (.refl _) (.nil))
    refine S_m (v := .tup _) rfl ?_
    refine S_ext rfl rfl ?_
    refine S_ext rfl rfl ?_
    refine S_ext rfl rfl ?_
    refine S_a (v := .sl _ _ _) rfl ?_
    refine S_a (v := .int _ _) rfl ?_
    refine S_a (v := .int _ _) rfl ?_
    refine S_nil ?_
    refine C_seq ?_
    refine C_seq ?_
    refine C_reg (mdl []) ?_
    refine S_m (v := .int _ _) rfl ?_
    refine S_bin rfl rfl (ev_neq ..) ?_
    refine S_nil ?_
    refine C_if (b := (x3.2.2 != (0 : Int))) rfl hF (fun hb4 hF => ?_) (fun hb4 hF => ?_)
    ·
      refine C_seq ?_
      refine C_reg (mdl []) ?_
      refine S_m (v := .sl _ _ _) rfl ?_
      refine S_lenL rfl ty_sl_24 ?_
      refine S_bin rfl rfl (ev_eql ..) ?_
      refine S_m (v := .bool _) rfl ?_
      refine S_two (b := ((x3.1.length : Int) == (0 : Int))) 3 30 (.bool (((x3.1.length : Int) == (0 : Int)) && (decide ((0 : Int) ≤ x3.2.1)))) (fun hb5 => ?_) (fun hb5 => ?_) ?_
      ·
        refine S_on rfl rfl hb5 ?_
        refine S_in ?_
        refine S_m (v := .int _ _) rfl ?_
        refine S_nil ?_
        refine S_on rfl rfl hb5 ?_
        refine S_in ?_
        refine S_bin rfl rfl (ev_geq ..) ?_
        refine S_nil ?_
        refine S_pickT (v := .bool _) rfl hb5 rfl ?_
        refine S_nil ?_
        refine .hd (and_t hb5) ?_
        repeat (first | with_reducible exact WS.refl _ | refine WS.add ?_ rfl | exact WS.refl _)
      ·
        refine S_off rfl rfl hb5 ?_
        refine S_offD ?_
        refine S_off rfl rfl hb5 ?_
        refine S_offD ?_
        refine S_pickF (v := .bool _) rfl hb5 rfl ?_
        refine S_nil ?_
        refine .hd (and_f hb5) ?_
        repeat (first | with_reducible exact WS.refl _ | refine WS.add ?_ rfl | exact WS.refl _)
      refine S_m (v := .bool _) rfl ?_
      refine S_two (b := (((x3.1.length : Int) == (0 : Int)) && (decide ((0 : Int) ≤ x3.2.1)))) 5 36 (.bool ((((x3.1.length : Int) == (0 : Int)) && (decide ((0 : Int) ≤ x3.2.1))) && (decide (x3.2.1 ≤ (p0.length : Int))))) (fun hb6 => ?_) (fun hb6 => ?_) ?_
      ·
        refine S_on rfl rfl hb6 ?_
        refine S_in ?_
        refine S_m (v := .int _ _) rfl ?_
        refine S_nil ?_
        refine S_on rfl rfl hb6 ?_
        refine S_in ?_
        refine S_m (v := .sl _ _ _) rfl ?_
        refine S_nil ?_
        refine S_on rfl rfl hb6 ?_
        refine S_in ?_
        refine S_lenL rfl ty_sl_22 ?_
        refine S_nil ?_
        refine S_on rfl rfl hb6 ?_
        refine S_in ?_
        refine S_bin rfl rfl (ev_leq ..) ?_
        refine S_nil ?_
        refine S_pickT (v := .bool _) rfl hb6 rfl ?_
        refine S_nil ?_
        refine .hd (and_t hb6) ?_
        repeat (first | with_reducible exact WS.refl _ | refine WS.add ?_ rfl | exact WS.refl _)
      ·
        refine S_off rfl rfl hb6 ?_
        refine S_offD ?_
        refine S_off rfl rfl hb6 ?_
        refine S_offD ?_
        refine S_off rfl rfl hb6 ?_
        refine S_offD ?_
        refine S_off rfl rfl hb6 ?_
        refine S_offD ?_
        refine S_pickF (v := .bool _) rfl hb6 rfl ?_
        refine S_nil ?_
        refine .hd (and_f hb6) ?_
        repeat (first | with_reducible exact WS.refl _ | refine WS.add ?_ rfl | exact WS.refl _)
      refine S_a (v := .bool _) rfl ?_
      refine S_nil ?_
      refine WP_ret ?_
      repeat (first | with_reducible refine Exit.sel_ret ?_ | with_reducible refine Exit.blk_ret ?_ | with_reducible refine Exit.jmp_ret ?_)
      refine C_ret (fn := Tryd.f3) rfl (.tmp (v := .bool ((((x3.1.length : Int) == (0 : Int)) && (decide ((0 : Int) ≤ x3.2.1))) && (decide (x3.2.1 ≤ (p0.length : Int))))) rfl .nil) ?_
      exact ⟨_, _, (.refl _), WH.refl _, _, F_some hF, rfl⟩
    ·
      refine WP_skip ?_
      refine C_seq ?_
      refine C_reg (mdl []) ?_
      refine S_a (v := .int _ _) rfl ?_
      refine S_nil ?_
      refine C_join hF (fun (_ : Unit) s' => OK h [] ∧ WS s' ⟨mkSl 154 [(0, .sl 1 (List.map c_u8 p0) 0), (3, .sl 6 (List.map c_T_scan_Token x3.1) 0), (4, .int .i64 x3.2.1)], Hp h []⟩) (fun J91 hF => ?_) ?_
      ·
        refine C_seq ?_
        refine C_reg (mdl []) ?_
        refine S_m (v := .sl _ _ _) rfl ?_
        refine S_lenL rfl ty_sl_24 ?_
        refine S_m (v := .int _ _) rfl ?_
        refine S_nil ?_
        refine WP_block ?_
        refine C_loop (σ := Int × Int) hF (fun (v : Int × Int) s' => match v with | (a92, a93) => OK h [] ∧ WS s' ⟨mkSl 154 [(0, .sl 1 (List.map c_u8 p0) 0), (3, .sl 6 (List.map c_T_scan_Token x3.1) 0), (4, .int .i64 x3.2.1), (6, .int .i64 a92), (37, .sl 6 (List.map c_T_scan_Token x3.1) 0), (38, .int .i64 (x3.1.length : Int)), (39, .int .i64 a93)], Hp h []⟩) ?_ ?_
        ·
          have hwo : WO [] [] := .nil
          exact ⟨(hwo.spec ok).1, WS.mk' (.cons (.refl _) (.cons (.refl _) (.cons (.refl _) (.cons (.refl _) (.cons (.refl _) (.cons (.refl _) (.cons (.refl _) .nil))))))) ok hwo⟩
        ·
          rintro G94 hG95 rec96 ⟨a92, a93⟩ s' ih97 hF ⟨ok, hws⟩
          refine WP_ws hws ?_
          clear hws s'
          rw [F_lecternlaw03_ScanStands_l0] at hF
          refine C_seq ?_
          refine C_reg (mdl []) ?_
          refine S_bin rfl rfl (ev_lss ..) ?_
          refine S_nil ?_
          refine C_seq ?_
          refine C_if (b := (decide (a93 < (x3.1.length : Int)))) rfl hF (fun hb98 hF => ?_) (fun hb98 hF => ?_)
          ·
            refine WP_skip ?_
            refine C_join hF (fun (a139 : Int) s' => OK h [] ∧ WS s' ⟨mkSl 154 [(0, .sl 1 (List.map c_u8 p0) 0), (3, .sl 6 (List.map c_T_scan_Token x3.1) 0), (4, .int .i64 x3.2.1), (6, .int .i64 a139), (37, .sl 6 (List.map c_T_scan_Token x3.1) 0), (38, .int .i64 (x3.1.length : Int)), (39, .int .i64 a93)], Hp h []⟩) (fun J140 hF => ?_) ?_
            ·
              refine WP_block ?_
              refine C_seq ?_
              refine C_reg (mdl [(8, 1)]) ?_
              refine S_m (v := .int _ _) rfl ?_
              refine S_ix rfl rfl ty_sl_24 ty_sz_30 hF (fun x141 _ hF => ?_)
              refine S_ldQ rfl (p_agg (vs := c_T_scan_Token x141) ty_ag_30 ty_sz_30 rfl rfl) ?_
              refine S_all1 ok rfl ty_zc_30 ?_
              intro i142 hi142 ok
              refine S_a (v := .int _ _) rfl ?_
              refine S_st (j := 0) (cs' := [.int .i64 x141.Kind, .int .i64 x141.At, .str x141.Name, .sl 2 (List.map c_T_scan_Pair x141.Pairs) 0, .str x141.Text, .int .i64 x141.Refs]) ok rfl rfl rfl hi142 rfl ty_sz_30 rfl rfl (fun ok => ?_)
              refine S_nil ?_
              refine C_seq ?_
              refine C_seq ?_
              refine C_reg (mdl []) ?_
              refine S_faP rfl ty_fd_30_1 ty_sz_3 ?_
              refine S_ldP (j := 0) ok rfl rfl rfl hi142 (p_one (v := .int .i64 x141.At) ty_ag_3 ty_sz_3 rfl) ?_
              refine S_m (v := .int _ _) rfl ?_
              refine S_bin rfl rfl (ev_leq ..) ?_
              refine S_m (v := .bool _) rfl ?_
              refine S_two (b := (decide (x141.At ≤ a92))) 8 56 (.bool ((decide (x141.At ≤ a92)) || ((a93 == (0 : Int)) && (x141.At != (0 : Int))))) (fun hb143 => ?_) (fun hb143 => ?_) ?_
              ·
                refine S_off rfl rfl hb143 ?_
                refine S_offD ?_
                refine S_off rfl rfl hb143 ?_
                refine S_offD ?_
                refine S_off rfl rfl hb143 ?_
                refine S_offD ?_
                refine S_off2 rfl rfl ?_
                refine S_offD ?_
                refine S_off2 rfl rfl ?_
                refine S_offD ?_
                refine S_off2 rfl rfl ?_
                refine S_offD ?_
                refine S_off rfl rfl hb143 ?_
                refine S_offD ?_
                refine S_pickT (v := .bool _) rfl hb143 rfl ?_
                refine S_nil ?_
                refine .hd (or_t hb143) ?_
                repeat (first | with_reducible exact WS.refl _ | refine WS.add ?_ rfl | exact WS.refl _)
              ·
                refine S_on rfl rfl hb143 ?_
                refine S_in ?_
                refine S_m (v := .int _ _) rfl ?_
                refine S_nil ?_
                refine S_on rfl rfl hb143 ?_
                refine S_in ?_
                refine S_bin rfl rfl (ev_eql ..) ?_
                refine S_nil ?_
                refine S_on rfl rfl hb143 ?_
                refine S_in ?_
                refine S_m (v := .bool _) rfl ?_
                refine S_nil ?_
                refine S_two (b := (a93 == (0 : Int))) 4 55 (.bool ((a93 == (0 : Int)) && (x141.At != (0 : Int)))) (fun hb145 => ?_) (fun hb145 => ?_) ?_
                ·
                  refine S_on rfl rfl hb145 ?_
                  refine S_in ?_
                  refine S_faP rfl ty_fd_30_1 ty_sz_3 ?_
                  refine S_nil ?_
                  refine S_on rfl rfl hb145 ?_
                  refine S_in ?_
                  refine S_ldP (j := 0) ok rfl rfl rfl hi142 (p_one (v := .int .i64 x141.At) ty_ag_3 ty_sz_3 rfl) ?_
                  refine S_nil ?_
                  refine S_on rfl rfl hb145 ?_
                  refine S_in ?_
                  refine S_bin rfl rfl (ev_neq ..) ?_
                  refine S_nil ?_
                  refine S_on rfl rfl hb143 ?_
                  refine S_in ?_
                  refine S_pickT (v := .bool _) rfl hb145 rfl ?_
                  refine S_nil ?_
                  refine S_nil ?_
                  refine .hd (and_t hb145) ?_
                  repeat (first | with_reducible exact WS.refl _ | refine WS.add ?_ rfl | exact WS.refl _)
                ·
                  refine S_off rfl rfl hb145 ?_
                  refine S_offD ?_
                  refine S_off rfl rfl hb145 ?_
                  refine S_offD ?_
                  refine S_off rfl rfl hb145 ?_
                  refine S_offD ?_
                  refine S_on rfl rfl hb143 ?_
                  refine S_in ?_
                  refine S_pickF (v := .bool _) rfl hb145 rfl ?_
                  refine S_nil ?_
                  refine S_nil ?_
                  refine .hd (and_f hb145) ?_
                  repeat (first | with_reducible exact WS.refl _ | refine WS.add ?_ rfl | exact WS.refl _)
                refine S_pickF (v := .bool _) rfl hb143 rfl ?_
                refine S_nil ?_
                refine .hd (or_f hb143) ?_
                repeat (first | with_reducible exact WS.refl _ | refine WS.add ?_ rfl | exact WS.refl _)
              refine S_m (v := .bool _) rfl ?_
              refine S_two (b := ((decide (x141.At ≤ a92)) || ((a93 == (0 : Int)) && (x141.At != (0 : Int))))) 6 63 (.bool (((decide (x141.At ≤ a92)) || ((a93 == (0 : Int)) && (x141.At != (0 : Int)))) || (decide ((p0.length : Int) ≤ x141.At)))) (fun hb146 => ?_) (fun hb146 => ?_) ?_
              ·
                refine S_off rfl rfl hb146 ?_
                refine S_offD ?_
                refine S_off rfl rfl hb146 ?_
                refine S_offD ?_
                refine S_off rfl rfl hb146 ?_
                refine S_offD ?_
                refine S_off rfl rfl hb146 ?_
                refine S_offD ?_
                refine S_off rfl rfl hb146 ?_
                refine S_offD ?_
                refine S_pickT (v := .bool _) rfl hb146 rfl ?_
                refine S_nil ?_
                refine .hd (or_t hb146) ?_
                repeat (first | with_reducible exact WS.refl _ | refine WS.add ?_ rfl | exact WS.refl _)
              ·
                refine S_on rfl rfl hb146 ?_
                refine S_in ?_
                refine S_faP rfl ty_fd_30_1 ty_sz_3 ?_
                refine S_nil ?_
                refine S_on rfl rfl hb146 ?_
                refine S_in ?_
                refine S_ldP (j := 0) ok rfl rfl rfl hi142 (p_one (v := .int .i64 x141.At) ty_ag_3 ty_sz_3 rfl) ?_
                refine S_nil ?_
                refine S_on rfl rfl hb146 ?_
                refine S_in ?_
                refine S_m (v := .sl _ _ _) rfl ?_
                refine S_nil ?_
                refine S_on rfl rfl hb146 ?_
                refine S_in ?_
                refine S_lenL rfl ty_sl_22 ?_
                refine S_nil ?_
                refine S_on rfl rfl hb146 ?_
                refine S_in ?_
                refine S_bin rfl rfl (ev_geq ..) ?_
                refine S_nil ?_
                refine S_pickF (v := .bool _) rfl hb146 rfl ?_
                refine S_nil ?_
                refine .hd (or_f hb146) ?_
                repeat (first | with_reducible exact WS.refl _ | refine WS.add ?_ rfl | exact WS.refl _)
              refine S_m (v := .bool _) rfl ?_
              refine S_twoJ 17 81 hF (fun J148 hb147 hF => ?_) (fun J148 hb147 hF => ?_) (fun v149 hF => ?_)
              ·
                refine S_off rfl rfl hb147 ?_
                refine S_offD ?_
                refine S_off rfl rfl hb147 ?_
                refine S_offD ?_
                refine S_off rfl rfl hb147 ?_
                refine S_offD ?_
                refine S_off2 rfl rfl ?_
                refine S_offD ?_
                refine S_off2 rfl rfl ?_
                refine S_offD ?_
                refine S_off2 rfl rfl ?_
                refine S_offD ?_
                refine S_off rfl rfl hb147 ?_
                refine S_offD ?_
                refine S_off rfl rfl hb147 ?_
                refine S_offD ?_
                refine S_off2 rfl rfl ?_
                refine S_offD ?_
                refine S_off2 rfl rfl ?_
                refine S_offD ?_
                refine S_off2 rfl rfl ?_
                refine S_offD ?_
                refine S_off2 rfl rfl ?_
                refine S_offD ?_
                refine S_off2 rfl rfl ?_
                refine S_offD ?_
                refine S_off2 rfl rfl ?_
                refine S_offD ?_
                refine S_off2 rfl rfl ?_
                refine S_offD ?_
                refine S_off rfl rfl hb147 ?_
                refine S_offD ?_
                refine S_pickT (v := .bool _) rfl hb147 rfl ?_
                refine S_nil ?_
                refine ⟨_, hF, .hd (.refl _) ?_⟩
                repeat (first | with_reducible exact WS.refl _ | refine WS.add ?_ rfl | exact WS.refl _)
              ·
                refine S_on rfl rfl hb147 ?_
                refine S_in ?_
                refine S_m (v := .int _ _) rfl ?_
                refine S_nil ?_
                refine S_on rfl rfl hb147 ?_
                refine S_in ?_
                refine S_bin rfl rfl (ev_gtr ..) ?_
                refine S_nil ?_
                refine S_on rfl rfl hb147 ?_
                refine S_in ?_
                refine S_m (v := .bool _) rfl ?_
                refine S_nil ?_
                refine S_two (b := (decide ((0 : Int) < a93))) 4 71 (.bool ((decide ((0 : Int) < a93)) && (x141.Kind == (5 : Int)))) (fun hb150 => ?_) (fun hb150 => ?_) ?_
                ·
                  refine S_on rfl rfl hb150 ?_
                  refine S_in ?_
                  refine S_faP rfl ty_fd_30_0 ty_sz_3 ?_
                  refine S_nil ?_
                  refine S_on rfl rfl hb150 ?_
                  refine S_in ?_
                  refine S_ldP (j := 0) ok rfl rfl rfl hi142 (p_one (v := .int .i64 x141.Kind) ty_ag_3 ty_sz_3 rfl) ?_
                  refine S_nil ?_
                  refine S_on rfl rfl hb150 ?_
                  refine S_in ?_
                  refine S_bin rfl rfl (ev_eql ..) ?_
                  refine S_nil ?_
                  refine S_on rfl rfl hb147 ?_
                  refine S_in ?_
                  refine S_pickT (v := .bool _) rfl hb150 rfl ?_
                  refine S_nil ?_
                  refine S_nil ?_
                  refine .hd (and_t hb150) ?_
                  repeat (first | with_reducible exact WS.refl _ | refine WS.add ?_ rfl | exact WS.refl _)
                ·
                  refine S_off rfl rfl hb150 ?_
                  refine S_offD ?_
                  refine S_off rfl rfl hb150 ?_
                  refine S_offD ?_
                  refine S_off rfl rfl hb150 ?_
                  refine S_offD ?_
                  refine S_on rfl rfl hb147 ?_
                  refine S_in ?_
                  refine S_pickF (v := .bool _) rfl hb150 rfl ?_
                  refine S_nil ?_
                  refine S_nil ?_
                  refine .hd (and_f hb150) ?_
                  repeat (first | with_reducible exact WS.refl _ | refine WS.add ?_ rfl | exact WS.refl _)
                refine S_on rfl rfl hb147 ?_
                refine S_in ?_
                refine S_m (v := .bool _) rfl ?_
                refine S_nil ?_
                refine S_twoJ 8 80 hF (fun J152 hb151 hF => ?_) (fun J152 hb151 hF => ?_) (fun v153 hF => ?_)
                ·
                  refine S_on rfl rfl hb151 ?_
                  refine S_in ?_
                  refine S_m (v := .sl _ _ _) rfl ?_
                  refine S_nil ?_
                  refine S_on rfl rfl hb151 ?_
                  refine S_in ?_
                  refine S_m (v := .int _ _) rfl ?_
                  refine S_nil ?_
                  refine S_on rfl rfl hb151 ?_
                  refine S_in ?_
                  refine S_bin rfl rfl (ev_sub ..) ?_
                  refine S_nil ?_
                  refine S_on rfl rfl hb151 ?_
                  refine S_in ?_
                  refine S_ix rfl rfl ty_sl_24 ty_sz_30 hF (fun x154 _ hF => ?_)
                  refine S_nil ?_
                  refine S_on rfl rfl hb151 ?_
                  refine S_in ?_
                  refine S_faQ rfl ty_fd_30_0 ty_sz_3 rfl ?_
                  refine S_nil ?_
                  refine S_on rfl rfl hb151 ?_
                  refine S_in ?_
                  refine S_ldQ rfl (p_one ty_ag_3 ty_sz_3 rfl) ?_
                  refine S_nil ?_
                  refine S_on rfl rfl hb151 ?_
                  refine S_in ?_
                  refine S_bin rfl rfl (ev_eql ..) ?_
                  refine S_nil ?_
                  refine S_on rfl rfl hb147 ?_
                  refine S_in ?_
                  refine S_pickT (v := .bool _) rfl hb151 rfl ?_
                  refine S_nil ?_
                  refine S_nil ?_
                  refine ⟨_, hF, .hd (.refl _) ?_⟩
                  repeat (first | with_reducible exact WS.refl _ | refine WS.add ?_ rfl | exact WS.refl _)
                ·
                  refine S_off rfl rfl hb151 ?_
                  refine S_offD ?_
                  refine S_off rfl rfl hb151 ?_
                  refine S_offD ?_
                  refine S_off rfl rfl hb151 ?_
                  refine S_offD ?_
                  refine S_off rfl rfl hb151 ?_
                  refine S_offD ?_
                  refine S_off rfl rfl hb151 ?_
                  refine S_offD ?_
                  refine S_off rfl rfl hb151 ?_
                  refine S_offD ?_
                  refine S_off rfl rfl hb151 ?_
                  refine S_offD ?_
                  refine S_on rfl rfl hb147 ?_
                  refine S_in ?_
                  refine S_pickF (v := .bool _) rfl hb151 rfl ?_
                  refine S_nil ?_
                  refine S_nil ?_
                  refine ⟨_, hF, .hd (.refl _) ?_⟩
                  repeat (first | with_reducible exact WS.refl _ | refine WS.add ?_ rfl | exact WS.refl _)
                ·
                  refine S_pickF (v := .bool _) rfl hb147 rfl ?_
                  refine S_nil ?_
                  refine ⟨_, hF, .hd (.refl _) ?_⟩
                  repeat (first | with_reducible exact WS.refl _ | refine WS.add ?_ rfl | exact WS.refl _)
              ·
                refine S_m (v := .bool _) rfl ?_
                refine S_two (b := v149) 8 90 (.bool (v149 || ((x141.Kind == (1 : Int)) && (decide ((0 : Int) < a93))))) (fun hb155 => ?_) (fun hb155 => ?_) ?_
                ·
                  refine S_off rfl rfl hb155 ?_
                  refine S_offD ?_
                  refine S_off rfl rfl hb155 ?_
                  refine S_offD ?_
                  refine S_off rfl rfl hb155 ?_
                  refine S_offD ?_
                  refine S_off rfl rfl hb155 ?_
                  refine S_offD ?_
                  refine S_off2 rfl rfl ?_
                  refine S_offD ?_
                  refine S_off2 rfl rfl ?_
                  refine S_offD ?_
                  refine S_off rfl rfl hb155 ?_
                  refine S_offD ?_
                  refine S_pickT (v := .bool _) rfl hb155 rfl ?_
                  refine S_nil ?_
                  refine .hd (or_t hb155) ?_
                  repeat (first | with_reducible exact WS.refl _ | refine WS.add ?_ rfl | exact WS.refl _)
                ·
                  refine S_on rfl rfl hb155 ?_
                  refine S_in ?_
                  refine S_faP rfl ty_fd_30_0 ty_sz_3 ?_
                  refine S_nil ?_
                  refine S_on rfl rfl hb155 ?_
                  refine S_in ?_
                  refine S_ldP (j := 0) ok rfl rfl rfl hi142 (p_one (v := .int .i64 x141.Kind) ty_ag_3 ty_sz_3 rfl) ?_
                  refine S_nil ?_
                  refine S_on rfl rfl hb155 ?_
                  refine S_in ?_
                  refine S_bin rfl rfl (ev_eql ..) ?_
                  refine S_nil ?_
                  refine S_on rfl rfl hb155 ?_
                  refine S_in ?_
                  refine S_m (v := .bool _) rfl ?_
                  refine S_nil ?_
                  refine S_two (b := (x141.Kind == (1 : Int))) 3 89 (.bool ((x141.Kind == (1 : Int)) && (decide ((0 : Int) < a93)))) (fun hb157 => ?_) (fun hb157 => ?_) ?_
                  ·
                    refine S_on rfl rfl hb157 ?_
                    refine S_in ?_
                    refine S_m (v := .int _ _) rfl ?_
                    refine S_nil ?_
                    refine S_on rfl rfl hb157 ?_
                    refine S_in ?_
                    refine S_bin rfl rfl (ev_gtr ..) ?_
                    refine S_nil ?_
                    refine S_on rfl rfl hb155 ?_
                    refine S_in ?_
                    refine S_pickT (v := .bool _) rfl hb157 rfl ?_
                    refine S_nil ?_
                    refine S_nil ?_
                    refine .hd (and_t hb157) ?_
                    repeat (first | with_reducible exact WS.refl _ | refine WS.add ?_ rfl | exact WS.refl _)
                  ·
                    refine S_off rfl rfl hb157 ?_
                    refine S_offD ?_
                    refine S_off rfl rfl hb157 ?_
                    refine S_offD ?_
                    refine S_on rfl rfl hb155 ?_
                    refine S_in ?_
                    refine S_pickF (v := .bool _) rfl hb157 rfl ?_
                    refine S_nil ?_
                    refine S_nil ?_
                    refine .hd (and_f hb157) ?_
                    repeat (first | with_reducible exact WS.refl _ | refine WS.add ?_ rfl | exact WS.refl _)
                  refine S_pickF (v := .bool _) rfl hb155 rfl ?_
                  refine S_nil ?_
                  refine .hd (or_f hb155) ?_
                  repeat (first | with_reducible exact WS.refl _ | refine WS.add ?_ rfl | exact WS.refl _)
                refine S_nil ?_
                refine C_if (b := (v149 || ((x141.Kind == (1 : Int)) && (decide ((0 : Int) < a93))))) rfl hF (fun hb158 hF => ?_) (fun hb158 hF => ?_)
                ·
                  refine C_seq ?_
                  refine C_reg (mdl []) ?_
                  refine S_a (v := .bool _) rfl ?_
                  refine S_nil ?_
                  refine WP_ret ?_
                  replace hF := hG95 _ (F_some hF)
                  repeat (first | with_reducible refine Exit.sel_ret ?_ | with_reducible refine Exit.blk_ret ?_ | with_reducible refine Exit.jmp_ret ?_)
                  refine C_ret (fn := Tryd.f3) rfl (.tmp (v := .bool false) rfl .nil) ?_
                  exact ⟨_, _, (.refl _), WH.refl _, _, F_some hF, rfl⟩
                ·
                  refine WP_skip ?_
                  refine C_seq ?_
                  refine C_reg (mdl []) ?_
                  refine S_faP rfl ty_fd_30_1 ty_sz_3 ?_
                  refine S_ldP (j := 0) ok rfl rfl rfl hi142 (p_one (v := .int .i64 x141.At) ty_ag_3 ty_sz_3 rfl) ?_
                  refine S_a (v := .int _ _) rfl ?_
                  refine S_nil ?_
                  refine C_seq ?_
                  refine C_seq ?_
                  refine C_reg (mdl []) ?_
                  refine S_faP rfl ty_fd_30_0 ty_sz_3 ?_
                  refine S_ldP (j := 0) ok rfl rfl rfl hi142 (p_one (v := .int .i64 x141.Kind) ty_ag_3 ty_sz_3 rfl) ?_
                  refine S_bin rfl rfl (ev_eql ..) ?_
                  refine S_m (v := .bool _) rfl ?_
                  refine S_two (b := (x141.Kind == (2 : Int))) 4 100 (.bool ((x141.Kind == (2 : Int)) || (x141.Kind == (3 : Int)))) (fun hb159 => ?_) (fun hb159 => ?_) ?_
                  ·
                    refine S_off rfl rfl hb159 ?_
                    refine S_offD ?_
                    refine S_off rfl rfl hb159 ?_
                    refine S_offD ?_
                    refine S_off rfl rfl hb159 ?_
                    refine S_offD ?_
                    refine S_pickT (v := .bool _) rfl hb159 rfl ?_
                    refine S_nil ?_
                    refine .hd (or_t hb159) ?_
                    repeat (first | with_reducible exact WS.refl _ | refine WS.add ?_ rfl | exact WS.refl _)
                  ·
                    refine S_on rfl rfl hb159 ?_
                    refine S_in ?_
                    refine S_faP rfl ty_fd_30_0 ty_sz_3 ?_
                    refine S_nil ?_
                    refine S_on rfl rfl hb159 ?_
                    refine S_in ?_
                    refine S_ldP (j := 0) ok rfl rfl rfl hi142 (p_one (v := .int .i64 x141.Kind) ty_ag_3 ty_sz_3 rfl) ?_
                    refine S_nil ?_
                    refine S_on rfl rfl hb159 ?_
                    refine S_in ?_
                    refine S_bin rfl rfl (ev_eql ..) ?_
                    refine S_nil ?_
                    refine S_pickF (v := .bool _) rfl hb159 rfl ?_
                    refine S_nil ?_
                    refine .hd (or_f hb159) ?_
                    repeat (first | with_reducible exact WS.refl _ | refine WS.add ?_ rfl | exact WS.refl _)
                  refine S_m (v := .bool _) rfl ?_
                  refine S_two (b := ((x141.Kind == (2 : Int)) || (x141.Kind == (3 : Int)))) 4 105 (.bool (((x141.Kind == (2 : Int)) || (x141.Kind == (3 : Int))) || (x141.Kind == (4 : Int)))) (fun hb160 => ?_) (fun hb160 => ?_) ?_
                  ·
                    refine S_off rfl rfl hb160 ?_
                    refine S_offD ?_
                    refine S_off rfl rfl hb160 ?_
                    refine S_offD ?_
                    refine S_off rfl rfl hb160 ?_
                    refine S_offD ?_
                    refine S_pickT (v := .bool _) rfl hb160 rfl ?_
                    refine S_nil ?_
                    refine .hd (or_t hb160) ?_
                    repeat (first | with_reducible exact WS.refl _ | refine WS.add ?_ rfl | exact WS.refl _)
                  ·
                    refine S_on rfl rfl hb160 ?_
                    refine S_in ?_
                    refine S_faP rfl ty_fd_30_0 ty_sz_3 ?_
                    refine S_nil ?_
                    refine S_on rfl rfl hb160 ?_
                    refine S_in ?_
                    refine S_ldP (j := 0) ok rfl rfl rfl hi142 (p_one (v := .int .i64 x141.Kind) ty_ag_3 ty_sz_3 rfl) ?_
                    refine S_nil ?_
                    refine S_on rfl rfl hb160 ?_
                    refine S_in ?_
                    refine S_bin rfl rfl (ev_eql ..) ?_
                    refine S_nil ?_
                    refine S_pickF (v := .bool _) rfl hb160 rfl ?_
                    refine S_nil ?_
                    refine .hd (or_f hb160) ?_
                    repeat (first | with_reducible exact WS.refl _ | refine WS.add ?_ rfl | exact WS.refl _)
                  refine S_m (v := .bool _) rfl ?_
                  refine S_two (b := (((x141.Kind == (2 : Int)) || (x141.Kind == (3 : Int))) || (x141.Kind == (4 : Int)))) 4 110 (.bool ((((x141.Kind == (2 : Int)) || (x141.Kind == (3 : Int))) || (x141.Kind == (4 : Int))) || (x141.Kind == (8 : Int)))) (fun hb161 => ?_) (fun hb161 => ?_) ?_
                  ·
                    refine S_off rfl rfl hb161 ?_
                    refine S_offD ?_
                    refine S_off rfl rfl hb161 ?_
                    refine S_offD ?_
                    refine S_off rfl rfl hb161 ?_
                    refine S_offD ?_
                    refine S_pickT (v := .bool _) rfl hb161 rfl ?_
                    refine S_nil ?_
                    refine .hd (or_t hb161) ?_
                    repeat (first | with_reducible exact WS.refl _ | refine WS.add ?_ rfl | exact WS.refl _)
                  ·
                    refine S_on rfl rfl hb161 ?_
                    refine S_in ?_
                    refine S_faP rfl ty_fd_30_0 ty_sz_3 ?_
                    refine S_nil ?_
                    refine S_on rfl rfl hb161 ?_
                    refine S_in ?_
                    refine S_ldP (j := 0) ok rfl rfl rfl hi142 (p_one (v := .int .i64 x141.Kind) ty_ag_3 ty_sz_3 rfl) ?_
                    refine S_nil ?_
                    refine S_on rfl rfl hb161 ?_
                    refine S_in ?_
                    refine S_bin rfl rfl (ev_eql ..) ?_
                    refine S_nil ?_
                    refine S_pickF (v := .bool _) rfl hb161 rfl ?_
                    refine S_nil ?_
                    refine .hd (or_f hb161) ?_
                    repeat (first | with_reducible exact WS.refl _ | refine WS.add ?_ rfl | exact WS.refl _)
                  refine S_a (v := .bool _) rfl ?_
                  refine S_nil ?_
                  refine C_seq ?_
                  refine C_reg (mdl []) ?_
                  refine S_m (v := .bool _) rfl ?_
                  refine S_faP rfl ty_fd_30_2 ty_sz_9 ?_
                  refine S_ldP (j := 0) ok rfl rfl rfl hi142 (p_one (v := .str x141.Name) ty_ag_9 ty_sz_9 rfl) ?_
                  refine S_bin rfl rfl e_sneq ?_
                  refine S_bin rfl rfl (e_bne ty_bo_4) ?_
                  refine S_nil ?_
                  refine C_if (b := (!(((((x141.Kind == (2 : Int)) || (x141.Kind == (3 : Int))) || (x141.Kind == (4 : Int))) || (x141.Kind == (8 : Int))) == (!(x141.Name == ([] : List UInt8)))))) rfl hF (fun hb162 hF => ?_) (fun hb162 hF => ?_)
                  ·
                    refine C_seq ?_
                    refine C_reg (mdl []) ?_
                    refine S_a (v := .bool _) rfl ?_
                    refine S_nil ?_
                    refine WP_ret ?_
                    replace hF := hG95 _ (F_some hF)
                    repeat (first | with_reducible refine Exit.sel_ret ?_ | with_reducible refine Exit.blk_ret ?_ | with_reducible refine Exit.jmp_ret ?_)
                    refine C_ret (fn := Tryd.f3) rfl (.tmp (v := .bool false) rfl .nil) ?_
                    exact ⟨_, _, (.refl _), WH.refl _, _, F_some hF, rfl⟩
                  ·
                    refine WP_skip ?_
                    refine C_seq ?_
                    refine C_reg (mdl []) ?_
                    refine S_faP rfl ty_fd_30_3 ty_sz_28 ?_
                    refine S_ldP (j := 0) ok rfl rfl rfl hi142 (p_one (v := .sl 2 (List.map c_T_scan_Pair x141.Pairs) 0) ty_ag_28 ty_sz_28 rfl) ?_
                    refine S_lenL rfl ty_sl_28 ?_
                    refine S_m (v := .int _ _) rfl ?_
                    refine S_nil ?_
                    refine WP_block ?_
                    refine C_loop (σ := Int) hF (fun (a163 : Int) s' => OK h [(i142, .cells [.int .i64 x141.Kind, .int .i64 x141.At, .str x141.Name, .sl 2 (List.map c_T_scan_Pair x141.Pairs) 0, .str x141.Text, .int .i64 x141.Refs])] ∧ WS s' ⟨mkSl 154 [(0, .sl 1 (List.map c_u8 p0) 0), (3, .sl 6 (List.map c_T_scan_Token x3.1) 0), (4, .int .i64 x3.2.1), (6, .int .i64 x141.At), (8, .ptr i142 0), (37, .sl 6 (List.map c_T_scan_Token x3.1) 0), (38, .int .i64 (x3.1.length : Int)), (39, .int .i64 a93), (117, .sl 2 (List.map c_T_scan_Pair x141.Pairs) 0), (118, .int .i64 (x141.Pairs.length : Int)), (119, .int .i64 a163)], Hp h [(i142, .cells [.int .i64 x141.Kind, .int .i64 x141.At, .str x141.Name, .sl 2 (List.map c_T_scan_Pair x141.Pairs) 0, .str x141.Text, .int .i64 x141.Refs])]⟩) ?_ ?_
                    ·
                      have hwo : WO [(i142, .cells [.int .i64 x141.Kind, .int .i64 x141.At, .str x141.Name, .sl 2 (List.map c_T_scan_Pair x141.Pairs) 0, .str x141.Text, .int .i64 x141.Refs])] [(i142, .cells [.int .i64 x141.Kind, .int .i64 x141.At, .str x141.Name, .sl 2 (List.map c_T_scan_Pair x141.Pairs) 0, .str x141.Text, .int .i64 x141.Refs])] := (.keep .nil)
                      exact ⟨(hwo.spec ok).1, WS.mk' (.cons (.refl _) (.cons (.refl _) (.cons (.refl _) (.cons (.refl _) (.cons (.refl _) (.cons (.refl _) (.cons (.refl _) (.cons (.refl _) (.cons (.refl _) (.cons (.refl _) (.cons (.refl _) .nil))))))))))) ok hwo⟩
                    ·
                      rintro G164 hG165 rec166 a163 s' ih167 hF ⟨ok, hws⟩
                      refine WP_ws hws ?_
                      clear hws s'
                      rw [F_lecternlaw03_ScanStands_l1] at hF
                      refine C_seq ?_
                      refine C_reg (mdl []) ?_
                      refine S_bin rfl rfl (ev_lss ..) ?_
                      refine S_nil ?_
                      refine C_seq ?_
                      refine C_if (b := (decide (a163 < (x141.Pairs.length : Int)))) rfl hF (fun hb168 hF => ?_) (fun hb168 hF => ?_)
                      ·
                        refine WP_skip ?_
                        refine C_join hF (fun (_ : Unit) s' => OK h [(i142, .cells [.int .i64 x141.Kind, .int .i64 x141.At, .str x141.Name, .sl 2 (List.map c_T_scan_Pair x141.Pairs) 0, .str x141.Text, .int .i64 x141.Refs])] ∧ WS s' ⟨mkSl 154 [(0, .sl 1 (List.map c_u8 p0) 0), (3, .sl 6 (List.map c_T_scan_Token x3.1) 0), (4, .int .i64 x3.2.1), (6, .int .i64 x141.At), (8, .ptr i142 0), (37, .sl 6 (List.map c_T_scan_Token x3.1) 0), (38, .int .i64 (x3.1.length : Int)), (39, .int .i64 a93), (117, .sl 2 (List.map c_T_scan_Pair x141.Pairs) 0), (118, .int .i64 (x141.Pairs.length : Int)), (119, .int .i64 a163)], Hp h [(i142, .cells [.int .i64 x141.Kind, .int .i64 x141.At, .str x141.Name, .sl 2 (List.map c_T_scan_Pair x141.Pairs) 0, .str x141.Text, .int .i64 x141.Refs])]⟩) (fun J177 hF => ?_) ?_
                        ·
                          refine WP_block ?_
                          refine C_seq ?_
                          refine C_reg (mdl [(11, 1)]) ?_
                          refine S_m (v := .int _ _) rfl ?_
                          refine S_ix rfl rfl ty_sl_28 ty_sz_32 hF (fun x178 _ hF => ?_)
                          refine S_ldQ rfl (p_agg (vs := c_T_scan_Pair x178) ty_ag_32 ty_sz_32 rfl rfl) ?_
                          refine S_all1 ok rfl ty_zc_32 ?_
                          intro i179 hi179 ok
                          refine S_a (v := .int _ _) rfl ?_
                          refine S_st (j := 0) (cs' := [.str x178.Name, .str x178.Value]) ok rfl rfl rfl hi179 rfl ty_sz_32 rfl rfl (fun ok => ?_)
                          refine S_nil ?_
                          refine C_seq ?_
                          refine C_reg (mdl []) ?_
                          refine S_faP rfl ty_fd_30_3 ty_sz_28 ?_
                          refine S_ldP (j := 1) ok rfl rfl rfl hi142 (p_one (v := .sl 2 (List.map c_T_scan_Pair x141.Pairs) 0) ty_ag_28 ty_sz_28 rfl) ?_
                          refine S_m (v := .int _ _) rfl ?_
                          refine S_slL rfl ty_sl_28 ty_sz_32 bd_no (bd_at rfl) hF (fun x180 _ hF => ?_)
                          refine S_lenL rfl ty_sl_28 ?_
                          refine S_m (v := .int _ _) rfl ?_
                          refine S_nil ?_
                          refine WP_block ?_
                          refine C_loop (σ := Int) hF (fun (a181 : Int) s' => OK h [(i179, .cells [.str x178.Name, .str x178.Value]), (i142, .cells [.int .i64 x141.Kind, .int .i64 x141.At, .str x141.Name, .sl 2 (List.map c_T_scan_Pair x141.Pairs) 0, .str x141.Text, .int .i64 x141.Refs])] ∧ WS s' ⟨mkSl 154 [(0, .sl 1 (List.map c_u8 p0) 0), (3, .sl 6 (List.map c_T_scan_Token x3.1) 0), (4, .int .i64 x3.2.1), (6, .int .i64 x141.At), (8, .ptr i142 0), (11, .ptr i179 0), (37, .sl 6 (List.map c_T_scan_Token x3.1) 0), (38, .int .i64 (x3.1.length : Int)), (39, .int .i64 a93), (117, .sl 2 (List.map c_T_scan_Pair x141.Pairs) 0), (118, .int .i64 (x141.Pairs.length : Int)), (119, .int .i64 a163), (127, .sl 2 (List.map c_T_scan_Pair x180) 0), (128, .int .i64 (x180.length : Int)), (129, .int .i64 a181)], Hp h [(i179, .cells [.str x178.Name, .str x178.Value]), (i142, .cells [.int .i64 x141.Kind, .int .i64 x141.At, .str x141.Name, .sl 2 (List.map c_T_scan_Pair x141.Pairs) 0, .str x141.Text, .int .i64 x141.Refs])]⟩) ?_ ?_
                          ·
                            have hwo : WO [(i179, .cells [.str x178.Name, .str x178.Value]), (i142, .cells [.int .i64 x141.Kind, .int .i64 x141.At, .str x141.Name, .sl 2 (List.map c_T_scan_Pair x141.Pairs) 0, .str x141.Text, .int .i64 x141.Refs])] [(i179, .cells [.str x178.Name, .str x178.Value]), (i142, .cells [.int .i64 x141.Kind, .int .i64 x141.At, .str x141.Name, .sl 2 (List.map c_T_scan_Pair x141.Pairs) 0, .str x141.Text, .int .i64 x141.Refs])] := (.keep (.keep .nil))
                            exact ⟨(hwo.spec ok).1, WS.mk' (.cons (.refl _) (.cons (.refl _) (.cons (.refl _) (.cons (.refl _) (.cons (.refl _) (.cons (.refl _) (.cons (.refl _) (.cons (.refl _) (.cons (.refl _) (.cons (.refl _) (.cons (.refl _) (.cons (.refl _) (.cons (.refl _) (.cons (.refl _) (.cons (.refl _) .nil))))))))))))))) ok hwo⟩
                          ·
                            rintro G182 hG183 rec184 a181 s' ih185 hF ⟨ok, hws⟩
                            refine WP_ws hws ?_
                            clear hws s'
                            rw [F_lecternlaw03_ScanStands_l2] at hF
                            refine C_seq ?_
                            refine C_reg (mdl []) ?_
                            refine S_bin rfl rfl (ev_lss ..) ?_
                            refine S_nil ?_
                            refine C_seq ?_
                            refine C_if (b := (decide (a181 < (x180.length : Int)))) rfl hF (fun hb186 hF => ?_) (fun hb186 hF => ?_)
                            ·
                              refine WP_skip ?_
                              refine C_seq ?_
                              refine WP_block ?_
                              refine C_seq ?_
                              refine C_reg (mdl [(13, 1)]) ?_
                              refine S_ix rfl rfl ty_sl_28 ty_sz_32 hF (fun x187 _ hF => ?_)
                              refine S_ldQ rfl (p_agg (vs := c_T_scan_Pair x187) ty_ag_32 ty_sz_32 rfl rfl) ?_
                              refine S_all1 ok rfl ty_zc_32 ?_
                              intro i188 hi188 ok
                              refine S_st (j := 0) (cs' := [.str x187.Name, .str x187.Value]) ok rfl rfl rfl hi188 rfl ty_sz_32 rfl rfl (fun ok => ?_)
                              refine S_nil ?_
                              refine C_seq ?_
                              refine C_reg (mdl []) ?_
                              refine S_faP rfl ty_fd_32_0 ty_sz_9 ?_
                              refine S_ldP (j := 0) ok rfl rfl rfl hi188 (p_one (v := .str x187.Name) ty_ag_9 ty_sz_9 rfl) ?_
                              refine S_faP rfl ty_fd_32_0 ty_sz_9 ?_
                              refine S_ldP (j := 1) ok rfl rfl rfl hi179 (p_one (v := .str x178.Name) ty_ag_9 ty_sz_9 rfl) ?_
                              refine S_bin rfl rfl e_seql ?_
                              refine S_nil ?_
                              refine C_if (b := (x187.Name == x178.Name)) rfl hF (fun hb189 hF => ?_) (fun hb189 hF => ?_)
                              ·
                                refine C_seq ?_
                                refine C_reg (mdl []) ?_
                                refine S_a (v := .bool _) rfl ?_
                                refine S_nil ?_
                                refine WP_ret ?_
                                replace hF := hG183 _ (F_some hF)
                                replace hF := hG165 _ (F_some hF)
                                replace hF := hG95 _ (F_some hF)
                                repeat (first | with_reducible refine Exit.sel_ret ?_ | with_reducible refine Exit.blk_ret ?_ | with_reducible refine Exit.jmp_ret ?_)
                                refine C_ret (fn := Tryd.f3) rfl (.tmp (v := .bool false) rfl .nil) ?_
                                exact ⟨_, _, (.refl _), WH.refl _, _, F_some hF, rfl⟩
                              ·
                                refine WP_skip ?_
                                refine C_reg (mdl []) ?_
                                refine S_bin rfl rfl (ev_add ..) ?_
                                refine S_m (v := .int _ _) rfl ?_
                                refine S_nil ?_
                                refine ih185 (IntKind.wrap .i64 (a181 + (1 : Int))) _ hF ?_
                                have hwo : WO [(i188, .cells [.str x187.Name, .str x187.Value]), (i179, .cells [.str x178.Name, .str x178.Value]), (i142, .cells [.int .i64 x141.Kind, .int .i64 x141.At, .str x141.Name, .sl 2 (List.map c_T_scan_Pair x141.Pairs) 0, .str x141.Text, .int .i64 x141.Refs])] [(i179, .cells [.str x178.Name, .str x178.Value]), (i142, .cells [.int .i64 x141.Kind, .int .i64 x141.At, .str x141.Name, .sl 2 (List.map c_T_scan_Pair x141.Pairs) 0, .str x141.Text, .int .i64 x141.Refs])] := (.drop (.keep (.keep .nil)))
                                exact ⟨(hwo.spec ok).1, WS.mk' (.cons (.refl _) (.cons (.refl _) (.cons (.refl _) (.cons (.refl _) (.cons (.refl _) (.cons (.refl _) (.cons (.refl _) (.cons (.refl _) (.cons (.refl _) (.cons (.refl _) (.cons (.refl _) (.cons (.refl _) (.cons (.refl _) (.cons (.refl _) (.cons (.refl _) .nil))))))))))))))) ok hwo⟩
                            ·
                              refine WP_exit ?_
                              simp only [Exit.sel, Exit.blk, Exit.jmp, if_true, if_false, reduceIte, Nat.reduceEqDiff, Nat.succ_ne_zero, Nat.zero_ne_one, Nat.one_ne_zero]
                              replace hF := hG183 _ (F_some hF)
                              have hwo : WO [(i179, .cells [.str x178.Name, .str x178.Value]), (i142, .cells [.int .i64 x141.Kind, .int .i64 x141.At, .str x141.Name, .sl 2 (List.map c_T_scan_Pair x141.Pairs) 0, .str x141.Text, .int .i64 x141.Refs])] [(i142, .cells [.int .i64 x141.Kind, .int .i64 x141.At, .str x141.Name, .sl 2 (List.map c_T_scan_Pair x141.Pairs) 0, .str x141.Text, .int .i64 x141.Refs])] := (.drop (.keep .nil))
                              exact ⟨(), hF, (hwo.spec ok).1, WS.mk' (.cons (.refl _) (.cons (.refl _) (.cons (.refl _) (.cons (.refl _) (.cons (.refl _) (.cons (.refl _) (.cons (.refl _) (.cons (.refl _) (.cons (.refl _) (.cons (.refl _) (.cons (.refl _) .nil))))))))))) ok hwo⟩
                        ·
                          rintro ⟨⟩ s' hF ⟨ok, hws⟩
                          refine WP_ws hws ?_
                          clear hws s'
                          refine C_reg (mdl []) ?_
                          refine S_bin rfl rfl (ev_add ..) ?_
                          refine S_m (v := .int _ _) rfl ?_
                          refine S_nil ?_
                          refine ih167 (IntKind.wrap .i64 (a163 + (1 : Int))) _ hF ?_
                          have hwo : WO [(i142, .cells [.int .i64 x141.Kind, .int .i64 x141.At, .str x141.Name, .sl 2 (List.map c_T_scan_Pair x141.Pairs) 0, .str x141.Text, .int .i64 x141.Refs])] [(i142, .cells [.int .i64 x141.Kind, .int .i64 x141.At, .str x141.Name, .sl 2 (List.map c_T_scan_Pair x141.Pairs) 0, .str x141.Text, .int .i64 x141.Refs])] := (.keep .nil)
                          exact ⟨(hwo.spec ok).1, WS.mk' (.cons (.refl _) (.cons (.refl _) (.cons (.refl _) (.cons (.refl _) (.cons (.refl _) (.cons (.refl _) (.cons (.refl _) (.cons (.refl _) (.cons (.refl _) (.cons (.refl _) (.cons (.refl _) .nil))))))))))) ok hwo⟩
                      ·
                        refine WP_exit ?_
                        simp only [Exit.sel, Exit.blk, Exit.jmp, if_true, if_false, reduceIte, Nat.reduceEqDiff, Nat.succ_ne_zero, Nat.zero_ne_one, Nat.one_ne_zero]
                        replace hF := hG165 _ (F_some hF)
                        have hwo : WO [(i142, .cells [.int .i64 x141.Kind, .int .i64 x141.At, .str x141.Name, .sl 2 (List.map c_T_scan_Pair x141.Pairs) 0, .str x141.Text, .int .i64 x141.Refs])] [] := (.drop .nil)
                        exact ⟨x141.At, hF, (hwo.spec ok).1, WS.mk' (.cons (.refl _) (.cons (.refl _) (.cons (.refl _) (.cons (.refl _) (.cons (.refl _) (.cons (.refl _) (.cons (.refl _) .nil))))))) ok hwo⟩
            ·
              rintro a139 s' hF ⟨ok, hws⟩
              refine WP_ws hws ?_
              clear hws s'
              refine C_reg (mdl []) ?_
              refine S_bin rfl rfl (ev_add ..) ?_
              refine S_m (v := .int _ _) rfl ?_
              refine S_nil ?_
              refine ih97 (a139, (IntKind.wrap .i64 (a93 + (1 : Int)))) _ hF ?_
              have hwo : WO [] [] := .nil
              exact ⟨(hwo.spec ok).1, WS.mk' (.cons (.refl _) (.cons (.refl _) (.cons (.refl _) (.cons (.refl _) (.cons (.refl _) (.cons (.refl _) (.cons (.refl _) .nil))))))) ok hwo⟩
          ·
            refine WP_exit ?_
            simp only [Exit.sel, Exit.blk, Exit.jmp, if_true, if_false, reduceIte, Nat.reduceEqDiff, Nat.succ_ne_zero, Nat.zero_ne_one, Nat.one_ne_zero]
            replace hF := hG95 _ (F_some hF)
            have hwo : WO [] [] := .nil
            exact ⟨(), hF, (hwo.spec ok).1, WS.mk' (.cons (.refl _) (.cons (.refl _) (.cons (.refl _) .nil))) ok hwo⟩
      ·
        rintro ⟨⟩ s' hF ⟨ok, hws⟩
        refine WP_ws hws ?_
        clear hws s'
        refine C_seq ?_
        refine C_reg (mdl []) ?_
        refine S_m (v := .int _ _) rfl ?_
        refine S_bin rfl rfl (ev_eql ..) ?_
        refine S_m (v := .bool _) rfl ?_
        refine S_twoJ 10 153 hF (fun J191 hb190 hF => ?_) (fun J191 hb190 hF => ?_) (fun v192 hF => ?_)
        ·
          refine S_on rfl rfl hb190 ?_
          refine S_in ?_
          refine S_m (v := .sl _ _ _) rfl ?_
          refine S_nil ?_
          refine S_on rfl rfl hb190 ?_
          refine S_in ?_
          refine S_lenL rfl ty_sl_24 ?_
          refine S_nil ?_
          refine S_on rfl rfl hb190 ?_
          refine S_in ?_
          refine S_bin rfl rfl (ev_gtr ..) ?_
          refine S_nil ?_
          refine S_on rfl rfl hb190 ?_
          refine S_in ?_
          refine S_m (v := .bool _) rfl ?_
          refine S_nil ?_
          refine S_twoJ 5 152 hF (fun J194 hb193 hF => ?_) (fun J194 hb193 hF => ?_) (fun v195 hF => ?_)
          ·
            refine S_off rfl rfl hb193 ?_
            refine S_offD ?_
            refine S_off rfl rfl hb193 ?_
            refine S_offD ?_
            refine S_off rfl rfl hb193 ?_
            refine S_offD ?_
            refine S_off rfl rfl hb193 ?_
            refine S_offD ?_
            refine S_on rfl rfl hb190 ?_
            refine S_in ?_
            refine S_pickT (v := .bool _) rfl hb193 rfl ?_
            refine S_nil ?_
            refine S_nil ?_
            refine ⟨_, hF, .hd (.refl _) ?_⟩
            repeat (first | with_reducible exact WS.refl _ | refine WS.add ?_ rfl | exact WS.refl _)
          ·
            refine S_on rfl rfl hb193 ?_
            refine S_in ?_
            refine S_m (v := .sl _ _ _) rfl ?_
            refine S_nil ?_
            refine S_on rfl rfl hb193 ?_
            refine S_in ?_
            refine S_call (F_lecternref03_Text_ok _ hF fun x196 _ hF => ?_) (.cons (.refl _) (.nil))
            refine S_nil ?_
            refine S_on rfl rfl hb193 ?_
            refine S_in ?_
            refine S_lenS rfl ty_st_9 ?_
            refine S_nil ?_
            refine S_on rfl rfl hb193 ?_
            refine S_in ?_
            refine S_bin rfl rfl (ev_eql ..) ?_
            refine S_nil ?_
            refine S_on rfl rfl hb190 ?_
            refine S_in ?_
            refine S_pickF (v := .bool _) rfl hb193 rfl ?_
            refine S_nil ?_
            refine S_nil ?_
            refine ⟨_, hF, .hd (.refl _) ?_⟩
            repeat (first | with_reducible exact WS.refl _ | refine WS.add ?_ rfl | exact WS.refl _)
          ·
            refine S_pickT (v := .bool _) rfl hb190 rfl ?_
            refine S_nil ?_
            refine ⟨_, hF, .hd (.refl _) ?_⟩
            repeat (first | with_reducible exact WS.refl _ | refine WS.add ?_ rfl | exact WS.refl _)
        ·
          refine S_off rfl rfl hb190 ?_
          refine S_offD ?_
          refine S_off rfl rfl hb190 ?_
          refine S_offD ?_
          refine S_off rfl rfl hb190 ?_
          refine S_offD ?_
          refine S_off rfl rfl hb190 ?_
          refine S_offD ?_
          refine S_off2 rfl rfl ?_
          refine S_offD ?_
          refine S_off2 rfl rfl ?_
          refine S_offD ?_
          refine S_off2 rfl rfl ?_
          refine S_offD ?_
          refine S_off2 rfl rfl ?_
          refine S_offD ?_
          refine S_off rfl rfl hb190 ?_
          refine S_offD ?_
          refine S_pickF (v := .bool _) rfl hb190 rfl ?_
          refine S_nil ?_
          refine ⟨_, hF, .hd (.refl _) ?_⟩
          repeat (first | with_reducible exact WS.refl _ | refine WS.add ?_ rfl | exact WS.refl _)
        ·
          refine S_a (v := .bool _) rfl ?_
          refine S_nil ?_
          refine WP_ret ?_
          repeat (first | with_reducible refine Exit.sel_ret ?_ | with_reducible refine Exit.blk_ret ?_ | with_reducible refine Exit.jmp_ret ?_)
          refine C_ret (fn := Tryd.f3) rfl (.tmp (v := .bool v192) rfl .nil) ?_
          exact ⟨_, _, (.refl _), WH.refl _, _, F_some hF, rfl⟩
end Go.Proofs.YtfokkdofcekdbaaDoor
