/- The walks. No condition. -/
import Derived.Test.YtcjndiagbdkikaaPfB
import Derived.Test.YtcjndiagbdkikaaTcB
set_option linter.unusedVariables false
set_option linter.unusedSimpArgs false
set_option maxRecDepth 20000
set_option maxHeartbeats 8000000
namespace Go.Proofs.Ytcjndiagbdkikaa
theorem F_lecternlaw16_CacheKinds_w (p0 : Int) (p1 : List T_lecternlaw16_Op) {G : Bool → Prop} (h : Heap) (hF : OptP (F_lecternlaw16_CacheKinds p0 p1) G) : CallsA Try.prog 6 [.int .i64 p0, .sl 4 (List.map c_T_lecternlaw16_Op p1) 0] h fun d h' => ∃ r, G r ∧ d = .bool r := by
  refine CallsA.ret ?_
  refine C_body Try.func6 rfl en_6 Try.ntmps6 rfl (fun ok => ?_)
  rw [F_lecternlaw16_CacheKinds] at hF
  refine C_seq ?_
  refine C_reg (mdl []) ?_
  refine S_a (v := .bool _) rfl ?_
  refine S_nil ?_
  refine C_seq ?_
  refine C_seq ?_
  refine C_reg (mdl []) ?_
  refine S_awake ok (fun m1 ok => ?_)
  refine S_un rfl (ev_not _) ?_
  refine S_nil ?_
  refine C_ff rfl rfl ?_
  refine WP_skip ?_
  refine C_seq ?_
  refine C_reg (mdl []) ?_
  refine S_m (v := .int _ _) rfl ?_
  refine S_conv rfl (e_ci ty_ki_24 ty_un_3) ?_
  refine S_bin rfl rfl (e_rem rfl) ?_
  refine S_conv rfl (e_ci ty_ki_3 ty_un_24) ?_
  refine S_bin rfl rfl (ev_add ..) ?_
  refine S_a (v := .int _ _) rfl ?_
  refine S_nil ?_
  refine C_seq ?_
  refine C_reg (mdl []) ?_
  refine S_m (v := .int _ _) rfl ?_
  refine I.S_new ok rfl hF (fun c2 m3 f4 ok hC hF => ?_) (fun hF => ?_)
  ·
    refine S_m (v := .tup _) rfl ?_
    refine S_ext rfl rfl ?_
    refine S_ext rfl rfl ?_
    refine S_a (v := .ptr _ _) rfl ?_
    refine S_a (v := .int _ _) rfl ?_
    refine S_nil ?_
    refine C_seq ?_
    refine C_reg (mdl []) ?_
    refine S_m (v := .int _ _) rfl ?_
    refine Du.S_new ok hC rfl hF (fun c6 m7 f8 ok hC hF => ?_) (fun hF => ?_)
    ·
      refine S_m (v := .tup _) rfl ?_
      refine S_ext rfl rfl ?_
      refine S_ext rfl rfl ?_
      refine S_a (v := .ptr _ _) rfl ?_
      refine S_a (v := .int _ _) rfl ?_
      refine S_nil ?_
      refine C_seq ?_
      refine C_seq ?_
      refine C_reg (mdl []) ?_
      refine S_m (v := .ptr _ _) rfl ?_
      refine S_bin rfl rfl (e_pn (by rw [ty_pt_25]; rfl)) ?_
      refine S_m (v := .bool _) rfl ?_
      refine S_on rfl rfl rfl ?_
      refine S_in ?_
      refine S_m (v := .ptr _ _) rfl ?_
      refine S_nil ?_
      refine S_on rfl rfl rfl ?_
      refine S_in ?_
      refine S_bin rfl rfl (e_pn (by rw [ty_pt_49]; rfl)) ?_
      refine S_nil ?_
      refine S_pickF (v := .bool _) rfl rfl rfl ?_
      refine S_m (v := .bool _) rfl ?_
      refine S_on rfl rfl rfl ?_
      refine S_in ?_
      refine S_m (v := .int _ _) rfl ?_
      refine S_nil ?_
      refine S_on rfl rfl rfl ?_
      refine S_in ?_
      refine S_bin rfl rfl (ev_neq ..) ?_
      refine S_nil ?_
      refine S_pickF (v := .bool _) rfl rfl rfl ?_
      refine S_m (v := .bool _) rfl ?_
      refine S_two (b := ((0 : Int) != (0 : Int))) 3 47 (.bool (((0 : Int) != (0 : Int)) || ((0 : Int) != (0 : Int)))) (fun hb10 => ?_) (fun hb10 => ?_) ?_
      ·
        refine S_off rfl rfl hb10 ?_
        refine S_offD ?_
        refine S_off rfl rfl hb10 ?_
        refine S_offD ?_
        refine S_pickT (v := .bool _) rfl hb10 rfl ?_
        refine S_nil ?_
        refine .hd (or_t hb10) ?_
        repeat (first | with_reducible exact WS.refl _ | refine WS.add ?_ rfl)
      ·
        refine S_on rfl rfl hb10 ?_
        refine S_in ?_
        refine S_m (v := .int _ _) rfl ?_
        refine S_nil ?_
        refine S_on rfl rfl hb10 ?_
        refine S_in ?_
        refine S_bin rfl rfl (ev_neq ..) ?_
        refine S_nil ?_
        refine S_pickF (v := .bool _) rfl hb10 rfl ?_
        refine S_nil ?_
        refine .hd (or_f hb10) ?_
        repeat (first | with_reducible exact WS.refl _ | refine WS.add ?_ rfl)
      refine S_nil ?_
      refine C_if (b := (((0 : Int) != (0 : Int)) || ((0 : Int) != (0 : Int)))) rfl hF (fun hb11 hF => ?_) (fun hb11 hF => ?_)
      ·
        refine C_seq ?_
        refine C_reg (mdl []) ?_
        refine S_a (v := .bool _) rfl ?_
        refine S_nil ?_
        refine WP_ret ?_
        repeat (first | with_reducible refine Exit.sel_ret ?_ | with_reducible refine Exit.blk_ret ?_)
        refine C_ret (fn := Try.f6) rfl (.tmp (v := .bool false) rfl .nil) ?_
        exact ⟨_, _, (.refl _), WH.refl _, _, F_some hF, rfl⟩
      ·
        refine WP_skip ?_
        refine C_join hF (fun (a162 : (List I.Ent × List B.Ent)) s' => ∃ (m161 : Heap) (f163 : List Nat), Du.CaL m161 (c2, c6) f163 ((IntKind.wrap .i64 ((1 : Int) + (IntKind.wrap .i64 (Int.tmod (IntKind.wrap .u64 p0) (20 : Int))))), (IntKind.wrap .i64 ((1 : Int) + (IntKind.wrap .i64 (Int.tmod (IntKind.wrap .u64 p0) (20 : Int)))))) a162 ∧ OK m161 [] ∧ WS s' ⟨mkSl 195 [], Hp m161 []⟩) (fun J164 hF => ?_) ?_
        ·
          refine C_seq ?_
          refine C_reg (mdl []) ?_
          refine S_m (v := .sl _ _ _) rfl ?_
          refine S_lenL rfl ty_sl_35 ?_
          refine S_m (v := .int _ _) rfl ?_
          refine S_nil ?_
          refine WP_block ?_
          refine C_loop (σ := (List I.Ent × List B.Ent) × Int) hF (fun (v : (List I.Ent × List B.Ent) × Int) s' => match v with | (a166, a168) => ∃ (m165 : Heap) (f167 : List Nat), Du.CaL m165 (c2, c6) f167 ((IntKind.wrap .i64 ((1 : Int) + (IntKind.wrap .i64 (Int.tmod (IntKind.wrap .u64 p0) (20 : Int))))), (IntKind.wrap .i64 ((1 : Int) + (IntKind.wrap .i64 (Int.tmod (IntKind.wrap .u64 p0) (20 : Int)))))) a166 ∧ OK m165 [] ∧ WS s' ⟨mkSl 195 [(6, .ptr c2 0), (8, .ptr c6 0), (48, .sl 4 (List.map c_T_lecternlaw16_Op p1) 0), (49, .int .i64 (p1.length : Int)), (50, .int .i64 a168)], Hp m165 []⟩) ?_ ?_
          ·
            have hwo : WO [] [] := .nil
            exact ⟨m7, f8, hC, (hwo.spec ok).1, WS.mk' (.cons (.refl _) (.cons (.refl _) (.cons (.refl _) (.cons (.refl _) (.cons (.refl _) .nil))))) ok hwo⟩
          ·
            rintro G169 hG170 rec171 ⟨a166, a168⟩ s' ih172 hF ⟨m165, f167, hC, ok, hws⟩
            refine WP_ws hws ?_
            clear hws s'
            rw [F_lecternlaw16_CacheKinds_l0] at hF
            refine C_seq ?_
            refine C_reg (mdl []) ?_
            refine S_bin rfl rfl (ev_lss ..) ?_
            refine S_nil ?_
            refine C_seq ?_
            refine C_if (b := (decide (a168 < (p1.length : Int)))) rfl hF (fun hb173 hF => ?_) (fun hb173 hF => ?_)
            ·
              refine WP_skip ?_
              refine C_seq ?_
              refine WP_block ?_
              refine C_seq ?_
              refine C_reg (mdl [(11, 1)]) ?_
              refine S_m (v := .int _ _) rfl ?_
              refine S_ix rfl rfl ty_sl_35 ty_sz_38 hF (fun x174 _ hF => ?_)
              refine S_ldQ rfl (p_agg (vs := c_T_lecternlaw16_Op x174) ty_ag_38 ty_sz_38 rfl rfl) ?_
              refine S_all1 ok rfl ty_zc_38 ?_
              intro i175 hi175 ok
              refine S_a (v := .int _ _) rfl ?_
              refine S_st (j := 0) (cs' := [.int .i64 x174.Kind, .int .i64 x174.K, .int .i64 x174.V, .bool x174.Dirty]) ok rfl rfl rfl hi175 rfl ty_sz_38 rfl rfl (fun ok => ?_)
              refine S_nil ?_
              refine C_seq ?_
              refine C_seq ?_
              refine C_reg (mdl []) ?_
              refine S_m (v := .int _ _) rfl ?_
              refine S_bin rfl rfl (ev_geq ..) ?_
              refine S_nil ?_
              refine C_if (b := (decide ((200 : Int) ≤ a168))) rfl hF (fun hb176 hF => ?_) (fun hb176 hF => ?_)
              ·
                refine WP_exit ?_
                simp only [Exit.sel, Exit.blk, if_true, if_false, reduceIte, Nat.reduceEqDiff, Nat.succ_ne_zero, Nat.zero_ne_one, Nat.one_ne_zero]
                replace hF := hG170 _ (F_some hF)
                have hwo : WO [(i175, .cells [.int .i64 x174.Kind, .int .i64 x174.K, .int .i64 x174.V, .bool x174.Dirty])] [] := (.drop .nil)
                exact ⟨a166, hF, m165, f167, hC, (hwo.spec ok).1, WS.mk' .nil ok hwo⟩
              ·
                refine WP_skip ?_
                refine C_seq ?_
                refine C_reg (mdl [(12, 1)]) ?_
                refine S_faP rfl ty_fd_38_1 ty_sz_3 ?_
                refine S_ldP (j := 0) ok rfl rfl rfl hi175 (p_one (v := .int .i64 x174.K) ty_ag_3 ty_sz_3 rfl) ?_
                refine S_bin rfl rfl (e_and ..) ?_
                refine S_bin rfl rfl (ev_eql ..) ?_
                refine S_faP rfl ty_fd_38_1 ty_sz_3 ?_
                refine S_ldP (j := 0) ok rfl rfl rfl hi175 (p_one (v := .int .i64 x174.K) ty_ag_3 ty_sz_3 rfl) ?_
                refine S_bin rfl rfl (e_and ..) ?_
                refine S_bin rfl rfl (ev_eql ..) ?_
                refine S_bld (v := .agg (B.kC ((((iand .i64 x174.K (1 : Int)) == (1 : Int)), ((iand .i64 x174.K (2 : Int)) == (2 : Int))) : Bool × Bool))) (b_ar ty_zc_52 ty_pl_52 ty_ar_52 ty_sz_4 rfl) ?_
                refine S_all1 ok rfl ty_zc_52 ?_
                intro i177 hi177 ok
                refine S_st (j := 0) (cs' := [.bool ((((iand .i64 x174.K (1 : Int)) == (1 : Int)), ((iand .i64 x174.K (2 : Int)) == (2 : Int))) : Bool × Bool).1, .bool ((((iand .i64 x174.K (1 : Int)) == (1 : Int)), ((iand .i64 x174.K (2 : Int)) == (2 : Int))) : Bool × Bool).2]) ok rfl rfl rfl hi177 rfl ty_sz_52 rfl rfl (fun ok => ?_)
                refine S_nil ?_
                refine C_seq ?_
                refine C_reg (mdl []) ?_
                refine S_faP rfl ty_fd_38_1 ty_sz_3 ?_
                refine S_ldP (j := 1) ok rfl rfl rfl hi175 (p_one (v := .int .i64 x174.K) ty_ag_3 ty_sz_3 rfl) ?_
                refine S_bin rfl rfl (e_and ..) ?_
                refine S_faP rfl ty_fd_38_1 ty_sz_3 ?_
                refine S_st (j := 1) (cs' := [.int .i64 x174.Kind, .int .i64 (iand .i64 x174.K (3 : Int)), .int .i64 x174.V, .bool x174.Dirty]) ok rfl rfl rfl hi175 rfl ty_sz_3 rfl rfl (fun ok => ?_)
                refine S_nil ?_
                refine C_join hF (fun (a244 : (List I.Ent × List B.Ent)) s' => ∃ (m243 : Heap) (f245 : List Nat), Du.CaL m243 (c2, c6) f245 ((IntKind.wrap .i64 ((1 : Int) + (IntKind.wrap .i64 (Int.tmod (IntKind.wrap .u64 p0) (20 : Int))))), (IntKind.wrap .i64 ((1 : Int) + (IntKind.wrap .i64 (Int.tmod (IntKind.wrap .u64 p0) (20 : Int)))))) a244 ∧ OK m243 [] ∧ WS s' ⟨mkSl 195 [(6, .ptr c2 0), (8, .ptr c6 0), (48, .sl 4 (List.map c_T_lecternlaw16_Op p1) 0), (49, .int .i64 (p1.length : Int)), (50, .int .i64 a168)], Hp m243 []⟩) (fun J246 hF => ?_) ?_
                ·
                  refine C_seq ?_
                  refine C_reg (mdl []) ?_
                  refine S_frzP 1 11 ok rfl rfl hi175 (fun ok => ?_)
                  refine S_frzP 0 12 ok rfl rfl hi177 (fun ok => ?_)
                  refine S_faQ rfl ty_fd_38_0 ty_sz_3 rfl ?_
                  refine S_ldQ rfl (p_one ty_ag_3 ty_sz_3 rfl) ?_
                  refine S_nil ?_
                  refine WP_block ?_
                  refine C_seq ?_
                  refine C_reg (mdl []) ?_
                  refine S_bin rfl rfl (ev_eql ..) ?_
                  refine S_a (v := .bool _) rfl ?_
                  refine S_nil ?_
                  refine C_if (b := ((⟨x174.Kind, (iand .i64 x174.K (3 : Int)), x174.V, x174.Dirty⟩ : T_lecternlaw16_Op).Kind == (0 : Int))) rfl hF (fun hb251 hF => ?_) (fun hb251 hF => ?_)
                  ·
                    refine C_seq ?_
                    refine C_reg (mdl []) ?_
                    refine S_m (v := .ptr _ _) rfl ?_
                    refine S_faQ rfl ty_fd_38_1 ty_sz_3 rfl ?_
                    refine S_ldQ rfl (p_one ty_ag_3 ty_sz_3 rfl) ?_
                    refine Du.S_geta (k := (⟨x174.Kind, (iand .i64 x174.K (3 : Int)), x174.V, x174.Dirty⟩ : T_lecternlaw16_Op).K) ok hC rfl rfl (fun m252 f253 ok hC => ?_)
                    obtain ⟨a254, ha254, hF⟩ := F_let hF
                    rw [← ha254] at hC
                    refine S_m (v := .tup _) rfl ?_
                    refine S_ext rfl rfl ?_
                    refine S_ext rfl rfl ?_
                    refine S_a (v := .int _ _) rfl ?_
                    refine S_a (v := .bool _) rfl ?_
                    refine S_nil ?_
                    refine C_seq ?_
                    refine C_reg (mdl []) ?_
                    refine S_m (v := .ptr _ _) rfl ?_
                    refine S_ldQ rfl (p_agg (vs := B.kC ((((iand .i64 x174.K (1 : Int)) == (1 : Int)), ((iand .i64 x174.K (2 : Int)) == (2 : Int))) : Bool × Bool)) ty_ag_52 ty_sz_52 rfl rfl) ?_
                    refine Du.S_getb (k := ((((iand .i64 x174.K (1 : Int)) == (1 : Int)), ((iand .i64 x174.K (2 : Int)) == (2 : Int))) : Bool × Bool)) ok hC rfl rfl (fun m255 f256 ok hC => ?_)
                    obtain ⟨a257, ha257, hF⟩ := F_let hF
                    rw [← ha257] at hC
                    refine S_m (v := .tup _) rfl ?_
                    refine S_ext rfl rfl ?_
                    refine S_ext rfl rfl ?_
                    refine S_a (v := B.vD _) rfl ?_
                    refine S_a (v := .bool _) rfl ?_
                    refine S_nil ?_
                    refine C_seq ?_
                    refine C_reg (mdl []) ?_
                    refine S_m (v := .bool _) rfl ?_
                    refine S_m (v := .bool _) rfl ?_
                    refine S_bin rfl rfl (e_bne ty_bo_4) ?_
                    refine S_m (v := .bool _) rfl ?_
                    refine S_twoJ 14 104 hF (fun J259 hb258 hF => ?_) (fun J259 hb258 hF => ?_) (fun v260 hF => ?_)
                    ·
                      refine S_off rfl rfl hb258 ?_
                      refine S_offD ?_
                      refine S_off rfl rfl hb258 ?_
                      refine S_offD ?_
                      refine S_off2 rfl rfl ?_
                      refine S_offD ?_
                      refine S_off2 rfl rfl ?_
                      refine S_offD ?_
                      refine S_off2 rfl rfl ?_
                      refine S_offD ?_
                      refine S_off2 rfl rfl ?_
                      refine S_offD ?_
                      refine S_off2 rfl rfl ?_
                      refine S_offD ?_
                      refine S_off2 rfl rfl ?_
                      refine S_offD ?_
                      refine S_off2 rfl rfl ?_
                      refine S_offD ?_
                      refine S_off2 rfl rfl ?_
                      refine S_offD ?_
                      refine S_off2 rfl rfl ?_
                      refine S_offD ?_
                      refine S_off2 rfl rfl ?_
                      refine S_offD ?_
                      refine S_off rfl rfl hb258 ?_
                      refine S_offD ?_
                      refine S_pickT (v := .bool _) rfl hb258 rfl ?_
                      refine S_nil ?_
                      refine ⟨_, hF, .hd (.refl _) ?_⟩
                      repeat (first | with_reducible exact WS.refl _ | refine WS.add ?_ rfl)
                    ·
                      refine S_on rfl rfl hb258 ?_
                      refine S_in ?_
                      refine S_m (v := .bool _) rfl ?_
                      refine S_nil ?_
                      refine S_on rfl rfl hb258 ?_
                      refine S_in ?_
                      refine S_m (v := .bool _) rfl ?_
                      refine S_nil ?_
                      refine S_twoJ 11 103 hF (fun J262 hb261 hF => ?_) (fun J262 hb261 hF => ?_) (fun v263 hF => ?_)
                      ·
                        refine S_on rfl rfl hb261 ?_
                        refine S_in ?_
                        refine S_m (v := B.vD _) rfl ?_
                        refine S_nil ?_
                        refine S_on rfl rfl hb261 ?_
                        refine S_in ?_
                        refine B.S_lenV rfl (by rw [ty_sl_22]; rfl) ?_
                        refine S_nil ?_
                        refine S_on rfl rfl hb261 ?_
                        refine S_in ?_
                        refine S_bin rfl rfl (ev_neq ..) ?_
                        refine S_nil ?_
                        refine S_on rfl rfl hb261 ?_
                        refine S_in ?_
                        refine S_m (v := .bool _) rfl ?_
                        refine S_nil ?_
                        refine S_twoJ 6 102 hF (fun J265 hb264 hF => ?_) (fun J265 hb264 hF => ?_) (fun v266 hF => ?_)
                        ·
                          refine S_off rfl rfl hb264 ?_
                          refine S_offD ?_
                          refine S_off rfl rfl hb264 ?_
                          refine S_offD ?_
                          refine S_off rfl rfl hb264 ?_
                          refine S_offD ?_
                          refine S_off rfl rfl hb264 ?_
                          refine S_offD ?_
                          refine S_off rfl rfl hb264 ?_
                          refine S_offD ?_
                          refine S_on rfl rfl hb261 ?_
                          refine S_in ?_
                          refine S_pickT (v := .bool _) rfl hb264 rfl ?_
                          refine S_nil ?_
                          refine S_nil ?_
                          refine ⟨_, hF, .hd (.refl _) ?_⟩
                          repeat (first | with_reducible exact WS.refl _ | refine WS.add ?_ rfl)
                        ·
                          refine S_on rfl rfl hb264 ?_
                          refine S_in ?_
                          refine S_m (v := B.vD _) rfl ?_
                          refine S_nil ?_
                          refine S_on rfl rfl hb264 ?_
                          refine S_in ?_
                          refine B.S_ixV rfl rfl ty_sl_22 ty_sz_3 hF (fun x267 _ hF => ?_)
                          refine S_nil ?_
                          refine S_on rfl rfl hb264 ?_
                          refine S_in ?_
                          refine S_ldQ rfl (p_one ty_ag_3 ty_sz_3 rfl) ?_
                          refine S_nil ?_
                          refine S_on rfl rfl hb264 ?_
                          refine S_in ?_
                          refine S_m (v := .int _ _) rfl ?_
                          refine S_nil ?_
                          refine S_on rfl rfl hb264 ?_
                          refine S_in ?_
                          refine S_bin rfl rfl (ev_neq ..) ?_
                          refine S_nil ?_
                          refine S_on rfl rfl hb261 ?_
                          refine S_in ?_
                          refine S_pickF (v := .bool _) rfl hb264 rfl ?_
                          refine S_nil ?_
                          refine S_nil ?_
                          refine ⟨_, hF, .hd (.refl _) ?_⟩
                          repeat (first | with_reducible exact WS.refl _ | refine WS.add ?_ rfl)
                        ·
                          refine S_on rfl rfl hb258 ?_
                          refine S_in ?_
                          refine S_pickT (v := .bool _) rfl hb261 rfl ?_
                          refine S_nil ?_
                          refine S_nil ?_
                          refine ⟨_, hF, .hd (.refl _) ?_⟩
                          repeat (first | with_reducible exact WS.refl _ | refine WS.add ?_ rfl)
                      ·
                        refine S_off rfl rfl hb261 ?_
                        refine S_offD ?_
                        refine S_off rfl rfl hb261 ?_
                        refine S_offD ?_
                        refine S_off rfl rfl hb261 ?_
                        refine S_offD ?_
                        refine S_off rfl rfl hb261 ?_
                        refine S_offD ?_
                        refine S_off2 rfl rfl ?_
                        refine S_offD ?_
                        refine S_off2 rfl rfl ?_
                        refine S_offD ?_
                        refine S_off2 rfl rfl ?_
                        refine S_offD ?_
                        refine S_off2 rfl rfl ?_
                        refine S_offD ?_
                        refine S_off2 rfl rfl ?_
                        refine S_offD ?_
                        refine S_off rfl rfl hb261 ?_
                        refine S_offD ?_
                        refine S_on rfl rfl hb258 ?_
                        refine S_in ?_
                        refine S_pickF (v := .bool _) rfl hb261 rfl ?_
                        refine S_nil ?_
                        refine S_nil ?_
                        refine ⟨_, hF, .hd (.refl _) ?_⟩
                        repeat (first | with_reducible exact WS.refl _ | refine WS.add ?_ rfl)
                      ·
                        refine S_pickF (v := .bool _) rfl hb258 rfl ?_
                        refine S_nil ?_
                        refine ⟨_, hF, .hd (.refl _) ?_⟩
                        repeat (first | with_reducible exact WS.refl _ | refine WS.add ?_ rfl)
                    ·
                      refine S_m (v := .bool _) rfl ?_
                      refine S_two (b := v260) 7 112 (.bool (v260 || ((!(I.fnd (⟨x174.Kind, (iand .i64 x174.K (3 : Int)), x174.V, x174.Dirty⟩ : T_lecternlaw16_Op).K a166.1).isSome) && (Option.isSome (((B.fnd ((((iand .i64 x174.K (1 : Int)) == (1 : Int)), ((iand .i64 x174.K (2 : Int)) == (2 : Int))) : Bool × Bool) a254.2).map B.Ent.val).getD B.vz))))) (fun hb268 => ?_) (fun hb268 => ?_) ?_
                      ·
                        refine S_off rfl rfl hb268 ?_
                        refine S_offD ?_
                        refine S_off rfl rfl hb268 ?_
                        refine S_offD ?_
                        refine S_off rfl rfl hb268 ?_
                        refine S_offD ?_
                        refine S_off2 rfl rfl ?_
                        refine S_offD ?_
                        refine S_off2 rfl rfl ?_
                        refine S_offD ?_
                        refine S_off rfl rfl hb268 ?_
                        refine S_offD ?_
                        refine S_pickT (v := .bool _) rfl hb268 rfl ?_
                        refine S_nil ?_
                        refine .hd (or_t hb268) ?_
                        repeat (first | with_reducible exact WS.refl _ | refine WS.add ?_ rfl)
                      ·
                        refine S_on rfl rfl hb268 ?_
                        refine S_in ?_
                        refine S_m (v := .bool _) rfl ?_
                        refine S_nil ?_
                        refine S_on rfl rfl hb268 ?_
                        refine S_in ?_
                        refine S_un rfl (ev_not _) ?_
                        refine S_nil ?_
                        refine S_on rfl rfl hb268 ?_
                        refine S_in ?_
                        refine S_m (v := .bool _) rfl ?_
                        refine S_nil ?_
                        refine S_two (b := (!(I.fnd (⟨x174.Kind, (iand .i64 x174.K (3 : Int)), x174.V, x174.Dirty⟩ : T_lecternlaw16_Op).K a166.1).isSome)) 3 111 (.bool ((!(I.fnd (⟨x174.Kind, (iand .i64 x174.K (3 : Int)), x174.V, x174.Dirty⟩ : T_lecternlaw16_Op).K a166.1).isSome) && (Option.isSome (((B.fnd ((((iand .i64 x174.K (1 : Int)) == (1 : Int)), ((iand .i64 x174.K (2 : Int)) == (2 : Int))) : Bool × Bool) a254.2).map B.Ent.val).getD B.vz)))) (fun hb270 => ?_) (fun hb270 => ?_) ?_
                        ·
                          refine S_on rfl rfl hb270 ?_
                          refine S_in ?_
                          refine S_m (v := B.vD _) rfl ?_
                          refine S_nil ?_
                          refine S_on rfl rfl hb270 ?_
                          refine S_in ?_
                          refine B.S_neV rfl rfl (by rw [ty_sl_22]; rfl) ?_
                          refine S_nil ?_
                          refine S_on rfl rfl hb268 ?_
                          refine S_in ?_
                          refine S_pickT (v := .bool _) rfl hb270 rfl ?_
                          refine S_nil ?_
                          refine S_nil ?_
                          refine .hd (and_t hb270) ?_
                          repeat (first | with_reducible exact WS.refl _ | refine WS.add ?_ rfl)
                        ·
                          refine S_off rfl rfl hb270 ?_
                          refine S_offD ?_
                          refine S_off rfl rfl hb270 ?_
                          refine S_offD ?_
                          refine S_on rfl rfl hb268 ?_
                          refine S_in ?_
                          refine S_pickF (v := .bool _) rfl hb270 rfl ?_
                          refine S_nil ?_
                          refine S_nil ?_
                          refine .hd (and_f hb270) ?_
                          repeat (first | with_reducible exact WS.refl _ | refine WS.add ?_ rfl)
                        refine S_pickF (v := .bool _) rfl hb268 rfl ?_
                        refine S_nil ?_
                        refine .hd (or_f hb268) ?_
                        repeat (first | with_reducible exact WS.refl _ | refine WS.add ?_ rfl)
                      refine S_nil ?_
                      refine C_if (b := (v260 || ((!(I.fnd (⟨x174.Kind, (iand .i64 x174.K (3 : Int)), x174.V, x174.Dirty⟩ : T_lecternlaw16_Op).K a166.1).isSome) && (Option.isSome (((B.fnd ((((iand .i64 x174.K (1 : Int)) == (1 : Int)), ((iand .i64 x174.K (2 : Int)) == (2 : Int))) : Bool × Bool) a254.2).map B.Ent.val).getD B.vz))))) rfl hF (fun hb271 hF => ?_) (fun hb271 hF => ?_)
                      ·
                        refine C_seq ?_
                        refine C_reg (mdl []) ?_
                        refine S_a (v := .bool _) rfl ?_
                        refine S_nil ?_
                        refine WP_ret ?_
                        replace hF := hG170 _ (F_some hF)
                        repeat (first | with_reducible refine Exit.sel_ret ?_ | with_reducible refine Exit.blk_ret ?_)
                        refine C_ret (fn := Try.f6) rfl (.tmp (v := .bool false) rfl .nil) ?_
                        exact ⟨_, _, (.refl _), WH.refl _, _, F_some hF, rfl⟩
                      ·
                        refine WP_skip ?_
                        have hwo : WO [(0, .room), (0, .room)] [] := (.drop (.drop .nil))
                        exact ⟨a257, hF, m255, f256, hC, (hwo.spec ok).1, WS.mk' (.cons (.refl _) (.cons (.refl _) (.cons (.refl _) (.cons (.refl _) (.cons (.refl _) .nil))))) ok hwo⟩
                  ·
                    refine C_seq ?_
                    refine C_reg (mdl []) ?_
                    refine S_bin rfl rfl (ev_eql ..) ?_
                    refine S_a (v := .bool _) rfl ?_
                    refine S_nil ?_
                    refine C_if (b := ((⟨x174.Kind, (iand .i64 x174.K (3 : Int)), x174.V, x174.Dirty⟩ : T_lecternlaw16_Op).Kind == (1 : Int))) rfl hF (fun hb272 hF => ?_) (fun hb272 hF => ?_)
                    ·
                      refine C_seq ?_
                      refine C_plan (mdl [(117, 3), (119, 3), (121, 3), (124, 3), (126, 3), (129, 3)]) [0, 1, 2, 3, 4, 5, 6, 8, 9, 10, 11, 12, 13, 14, 7, 15, 16] [_, _, _, _, _, _, _, _, _, _, _, _, _, _, _, _, _] (by kernel_rfl) rfl rfl (by kernel_rfl) ?_
                      refine S_m (v := .ptr _ _) rfl ?_
                      refine S_faQ rfl ty_fd_38_1 ty_sz_3 rfl ?_
                      refine S_ldQ rfl (p_one ty_ag_3 ty_sz_3 rfl) ?_
                      refine S_faQ rfl ty_fd_38_2 ty_sz_3 rfl ?_
                      refine S_ldQ rfl (p_one ty_ag_3 ty_sz_3 rfl) ?_
                      refine S_faQ rfl ty_fd_38_3 ty_sz_4 rfl ?_
                      refine S_ldQ rfl (p_one ty_ag_4 ty_sz_4 rfl) ?_
                      refine S_m (v := .ptr _ _) rfl ?_
                      refine S_ldQ rfl (p_agg (vs := B.kC ((((iand .i64 x174.K (1 : Int)) == (1 : Int)), ((iand .i64 x174.K (2 : Int)) == (2 : Int))) : Bool × Bool)) ty_ag_52 ty_sz_52 rfl rfl) ?_
                      refine S_faQ rfl ty_fd_38_2 ty_sz_3 rfl ?_
                      refine S_ldQ rfl (p_one ty_ag_3 ty_sz_3 rfl) ?_
                      refine S_lit0 (cs := [.int .i64 (⟨x174.Kind, (iand .i64 x174.K (3 : Int)), x174.V, x174.Dirty⟩ : T_lecternlaw16_Op).V]) (es := (List.map c_i64 [(⟨x174.Kind, (iand .i64 x174.K (3 : Int)), x174.V, x174.Dirty⟩ : T_lecternlaw16_Op).V])) rfl ty_el_22 rfl (by kernel_rfl) (by kernel_rfl) ?_
                      refine S_faQ rfl ty_fd_38_3 ty_sz_4 rfl ?_
                      refine S_ldQ rfl (p_one ty_ag_4 ty_sz_4 rfl) ?_
                      refine Du.S_puta (k := (⟨x174.Kind, (iand .i64 x174.K (3 : Int)), x174.V, x174.Dirty⟩ : T_lecternlaw16_Op).K) (v := (⟨x174.Kind, (iand .i64 x174.K (3 : Int)), x174.V, x174.Dirty⟩ : T_lecternlaw16_Op).V) (b := (⟨x174.Kind, (iand .i64 x174.K (3 : Int)), x174.V, x174.Dirty⟩ : T_lecternlaw16_Op).Dirty) ok hC rfl rfl rfl rfl (fun m273 f274 ok hC => ?_)
                      obtain ⟨a275, ha275, hF⟩ := F_let hF
                      rw [← ha275] at hC
                      refine Du.S_putb (k := ((((iand .i64 x174.K (1 : Int)) == (1 : Int)), ((iand .i64 x174.K (2 : Int)) == (2 : Int))) : Bool × Bool)) (v := (some (⟨x174.Kind, (iand .i64 x174.K (3 : Int)), x174.V, x174.Dirty⟩ : T_lecternlaw16_Op).V)) (b := (⟨x174.Kind, (iand .i64 x174.K (3 : Int)), x174.V, x174.Dirty⟩ : T_lecternlaw16_Op).Dirty) ok hC rfl rfl rfl rfl (fun m276 f277 ok hC => ?_)
                      obtain ⟨a278, ha278, hF⟩ := F_let hF
                      rw [← ha278] at hC
                      refine S_bin rfl rfl (ev_neq ..) ?_
                      refine S_nil ?_
                      refine C_if (b := ((I.putL (⟨x174.Kind, (iand .i64 x174.K (3 : Int)), x174.V, x174.Dirty⟩ : T_lecternlaw16_Op).K (⟨x174.Kind, (iand .i64 x174.K (3 : Int)), x174.V, x174.Dirty⟩ : T_lecternlaw16_Op).V (⟨x174.Kind, (iand .i64 x174.K (3 : Int)), x174.V, x174.Dirty⟩ : T_lecternlaw16_Op).Dirty (IntKind.wrap .i64 ((1 : Int) + (IntKind.wrap .i64 (Int.tmod (IntKind.wrap .u64 p0) (20 : Int))))) a166.1).1 != (B.putL ((((iand .i64 x174.K (1 : Int)) == (1 : Int)), ((iand .i64 x174.K (2 : Int)) == (2 : Int))) : Bool × Bool) (some (⟨x174.Kind, (iand .i64 x174.K (3 : Int)), x174.V, x174.Dirty⟩ : T_lecternlaw16_Op).V) (⟨x174.Kind, (iand .i64 x174.K (3 : Int)), x174.V, x174.Dirty⟩ : T_lecternlaw16_Op).Dirty (IntKind.wrap .i64 ((1 : Int) + (IntKind.wrap .i64 (Int.tmod (IntKind.wrap .u64 p0) (20 : Int))))) a275.2).1)) rfl hF (fun hb279 hF => ?_) (fun hb279 hF => ?_)
                      ·
                        refine C_seq ?_
                        refine C_reg (mdl []) ?_
                        refine S_a (v := .bool _) rfl ?_
                        refine S_nil ?_
                        refine WP_ret ?_
                        replace hF := hG170 _ (F_some hF)
                        repeat (first | with_reducible refine Exit.sel_ret ?_ | with_reducible refine Exit.blk_ret ?_)
                        refine C_ret (fn := Try.f6) rfl (.tmp (v := .bool false) rfl .nil) ?_
                        exact ⟨_, _, (.refl _), WH.refl _, _, F_some hF, rfl⟩
                      ·
                        refine WP_skip ?_
                        have hwo : WO [(0, .room), (0, .room)] [] := (.drop (.drop .nil))
                        exact ⟨a278, hF, m276, f277, hC, (hwo.spec ok).1, WS.mk' (.cons (.refl _) (.cons (.refl _) (.cons (.refl _) (.cons (.refl _) (.cons (.refl _) .nil))))) ok hwo⟩
                    ·
                      refine C_seq ?_
                      refine C_reg (mdl []) ?_
                      refine S_bin rfl rfl (ev_eql ..) ?_
                      refine S_a (v := .bool _) rfl ?_
                      refine S_nil ?_
                      refine C_if (b := ((⟨x174.Kind, (iand .i64 x174.K (3 : Int)), x174.V, x174.Dirty⟩ : T_lecternlaw16_Op).Kind == (2 : Int))) rfl hF (fun hb280 hF => ?_) (fun hb280 hF => ?_)
                      ·
                        refine C_seq ?_
                        refine C_plan (mdl [(136, 3), (139, 3)]) [0, 1, 2, 4, 5, 3, 6, 7] [_, _, _, _, _, _, _, _] (by kernel_rfl) rfl rfl (by kernel_rfl) ?_
                        refine S_m (v := .ptr _ _) rfl ?_
                        refine S_faQ rfl ty_fd_38_1 ty_sz_3 rfl ?_
                        refine S_ldQ rfl (p_one ty_ag_3 ty_sz_3 rfl) ?_
                        refine S_m (v := .ptr _ _) rfl ?_
                        refine S_ldQ rfl (p_agg (vs := B.kC ((((iand .i64 x174.K (1 : Int)) == (1 : Int)), ((iand .i64 x174.K (2 : Int)) == (2 : Int))) : Bool × Bool)) ty_ag_52 ty_sz_52 rfl rfl) ?_
                        refine Du.S_dropa (k := (⟨x174.Kind, (iand .i64 x174.K (3 : Int)), x174.V, x174.Dirty⟩ : T_lecternlaw16_Op).K) ok hC rfl rfl (fun m281 f282 ok hC => ?_)
                        obtain ⟨a283, ha283, hF⟩ := F_let hF
                        rw [← ha283] at hC
                        refine Du.S_dropb (k := ((((iand .i64 x174.K (1 : Int)) == (1 : Int)), ((iand .i64 x174.K (2 : Int)) == (2 : Int))) : Bool × Bool)) ok hC rfl rfl (fun m284 f285 ok hC => ?_)
                        obtain ⟨a286, ha286, hF⟩ := F_let hF
                        rw [← ha286] at hC
                        refine S_bin rfl rfl (e_bne ty_bo_4) ?_
                        refine S_nil ?_
                        refine C_if (b := (!((I.dropB (⟨x174.Kind, (iand .i64 x174.K (3 : Int)), x174.V, x174.Dirty⟩ : T_lecternlaw16_Op).K a166.1) == (B.dropB ((((iand .i64 x174.K (1 : Int)) == (1 : Int)), ((iand .i64 x174.K (2 : Int)) == (2 : Int))) : Bool × Bool) a283.2)))) rfl hF (fun hb287 hF => ?_) (fun hb287 hF => ?_)
                        ·
                          refine C_seq ?_
                          refine C_reg (mdl []) ?_
                          refine S_a (v := .bool _) rfl ?_
                          refine S_nil ?_
                          refine WP_ret ?_
                          replace hF := hG170 _ (F_some hF)
                          repeat (first | with_reducible refine Exit.sel_ret ?_ | with_reducible refine Exit.blk_ret ?_)
                          refine C_ret (fn := Try.f6) rfl (.tmp (v := .bool false) rfl .nil) ?_
                          exact ⟨_, _, (.refl _), WH.refl _, _, F_some hF, rfl⟩
                        ·
                          refine WP_skip ?_
                          have hwo : WO [(0, .room), (0, .room)] [] := (.drop (.drop .nil))
                          exact ⟨a286, hF, m284, f285, hC, (hwo.spec ok).1, WS.mk' (.cons (.refl _) (.cons (.refl _) (.cons (.refl _) (.cons (.refl _) (.cons (.refl _) .nil))))) ok hwo⟩
                      ·
                        refine C_seq ?_
                        refine C_reg (mdl []) ?_
                        refine S_bin rfl rfl (ev_eql ..) ?_
                        refine S_a (v := .bool _) rfl ?_
                        refine S_nil ?_
                        refine C_if (b := ((⟨x174.Kind, (iand .i64 x174.K (3 : Int)), x174.V, x174.Dirty⟩ : T_lecternlaw16_Op).Kind == (3 : Int))) rfl hF (fun hb288 hF => ?_) (fun hb288 hF => ?_)
                        ·
                          refine C_seq ?_
                          refine C_plan (mdl [(146, 3), (149, 3)]) [0, 1, 2, 4, 5, 3, 6, 7] [_, _, _, _, _, _, _, _] (by kernel_rfl) rfl rfl (by kernel_rfl) ?_
                          refine S_m (v := .ptr _ _) rfl ?_
                          refine S_faQ rfl ty_fd_38_1 ty_sz_3 rfl ?_
                          refine S_ldQ rfl (p_one ty_ag_3 ty_sz_3 rfl) ?_
                          refine S_m (v := .ptr _ _) rfl ?_
                          refine S_ldQ rfl (p_agg (vs := B.kC ((((iand .i64 x174.K (1 : Int)) == (1 : Int)), ((iand .i64 x174.K (2 : Int)) == (2 : Int))) : Bool × Bool)) ty_ag_52 ty_sz_52 rfl rfl) ?_
                          refine Du.S_pina (k := (⟨x174.Kind, (iand .i64 x174.K (3 : Int)), x174.V, x174.Dirty⟩ : T_lecternlaw16_Op).K) ok hC rfl rfl hF (fun m289 f290 ok hC hF => ?_)
                          obtain ⟨a291, ha291, hF⟩ := F_let hF
                          rw [← ha291] at hC
                          refine Du.S_pinb (k := ((((iand .i64 x174.K (1 : Int)) == (1 : Int)), ((iand .i64 x174.K (2 : Int)) == (2 : Int))) : Bool × Bool)) ok hC rfl rfl hF (fun m292 f293 ok hC hF => ?_)
                          obtain ⟨a294, ha294, hF⟩ := F_let hF
                          rw [← ha294] at hC
                          refine S_bin rfl rfl (e_bne ty_bo_4) ?_
                          refine S_nil ?_
                          refine C_if (b := (!((I.pinB (⟨x174.Kind, (iand .i64 x174.K (3 : Int)), x174.V, x174.Dirty⟩ : T_lecternlaw16_Op).K a166.1) == (B.pinB ((((iand .i64 x174.K (1 : Int)) == (1 : Int)), ((iand .i64 x174.K (2 : Int)) == (2 : Int))) : Bool × Bool) a291.2)))) rfl hF (fun hb295 hF => ?_) (fun hb295 hF => ?_)
                          ·
                            refine C_seq ?_
                            refine C_reg (mdl []) ?_
                            refine S_a (v := .bool _) rfl ?_
                            refine S_nil ?_
                            refine WP_ret ?_
                            replace hF := hG170 _ (F_some hF)
                            repeat (first | with_reducible refine Exit.sel_ret ?_ | with_reducible refine Exit.blk_ret ?_)
                            refine C_ret (fn := Try.f6) rfl (.tmp (v := .bool false) rfl .nil) ?_
                            exact ⟨_, _, (.refl _), WH.refl _, _, F_some hF, rfl⟩
                          ·
                            refine WP_skip ?_
                            have hwo : WO [(0, .room), (0, .room)] [] := (.drop (.drop .nil))
                            exact ⟨a294, hF, m292, f293, hC, (hwo.spec ok).1, WS.mk' (.cons (.refl _) (.cons (.refl _) (.cons (.refl _) (.cons (.refl _) (.cons (.refl _) .nil))))) ok hwo⟩
                        ·
                          refine C_seq ?_
                          refine C_reg (mdl []) ?_
                          refine S_bin rfl rfl (ev_eql ..) ?_
                          refine S_a (v := .bool _) rfl ?_
                          refine S_nil ?_
                          refine C_if (b := ((⟨x174.Kind, (iand .i64 x174.K (3 : Int)), x174.V, x174.Dirty⟩ : T_lecternlaw16_Op).Kind == (4 : Int))) rfl hF (fun hb296 hF => ?_) (fun hb296 hF => ?_)
                          ·
                            refine C_seq ?_
                            refine C_plan (mdl [(156, 3), (159, 3)]) [0, 1, 2, 4, 5, 3, 6, 7] [_, _, _, _, _, _, _, _] (by kernel_rfl) rfl rfl (by kernel_rfl) ?_
                            refine S_m (v := .ptr _ _) rfl ?_
                            refine S_faQ rfl ty_fd_38_1 ty_sz_3 rfl ?_
                            refine S_ldQ rfl (p_one ty_ag_3 ty_sz_3 rfl) ?_
                            refine S_m (v := .ptr _ _) rfl ?_
                            refine S_ldQ rfl (p_agg (vs := B.kC ((((iand .i64 x174.K (1 : Int)) == (1 : Int)), ((iand .i64 x174.K (2 : Int)) == (2 : Int))) : Bool × Bool)) ty_ag_52 ty_sz_52 rfl rfl) ?_
                            refine Du.S_unpina (k := (⟨x174.Kind, (iand .i64 x174.K (3 : Int)), x174.V, x174.Dirty⟩ : T_lecternlaw16_Op).K) ok hC rfl rfl hF (fun m297 f298 ok hC hF => ?_)
                            obtain ⟨a299, ha299, hF⟩ := F_let hF
                            rw [← ha299] at hC
                            refine Du.S_unpinb (k := ((((iand .i64 x174.K (1 : Int)) == (1 : Int)), ((iand .i64 x174.K (2 : Int)) == (2 : Int))) : Bool × Bool)) ok hC rfl rfl hF (fun m300 f301 ok hC hF => ?_)
                            obtain ⟨a302, ha302, hF⟩ := F_let hF
                            rw [← ha302] at hC
                            refine S_bin rfl rfl (e_bne ty_bo_4) ?_
                            refine S_nil ?_
                            refine C_if (b := (!((I.unpinB (⟨x174.Kind, (iand .i64 x174.K (3 : Int)), x174.V, x174.Dirty⟩ : T_lecternlaw16_Op).K a166.1) == (B.unpinB ((((iand .i64 x174.K (1 : Int)) == (1 : Int)), ((iand .i64 x174.K (2 : Int)) == (2 : Int))) : Bool × Bool) a299.2)))) rfl hF (fun hb303 hF => ?_) (fun hb303 hF => ?_)
                            ·
                              refine C_seq ?_
                              refine C_reg (mdl []) ?_
                              refine S_a (v := .bool _) rfl ?_
                              refine S_nil ?_
                              refine WP_ret ?_
                              replace hF := hG170 _ (F_some hF)
                              repeat (first | with_reducible refine Exit.sel_ret ?_ | with_reducible refine Exit.blk_ret ?_)
                              refine C_ret (fn := Try.f6) rfl (.tmp (v := .bool false) rfl .nil) ?_
                              exact ⟨_, _, (.refl _), WH.refl _, _, F_some hF, rfl⟩
                            ·
                              refine WP_skip ?_
                              have hwo : WO [(0, .room), (0, .room)] [] := (.drop (.drop .nil))
                              exact ⟨a302, hF, m300, f301, hC, (hwo.spec ok).1, WS.mk' (.cons (.refl _) (.cons (.refl _) (.cons (.refl _) (.cons (.refl _) (.cons (.refl _) .nil))))) ok hwo⟩
                          ·
                            refine C_seq ?_
                            refine C_reg (mdl []) ?_
                            refine S_bin rfl rfl (ev_eql ..) ?_
                            refine S_a (v := .bool _) rfl ?_
                            refine S_nil ?_
                            refine C_if (b := ((⟨x174.Kind, (iand .i64 x174.K (3 : Int)), x174.V, x174.Dirty⟩ : T_lecternlaw16_Op).Kind == (5 : Int))) rfl hF (fun hb304 hF => ?_) (fun hb304 hF => ?_)
                            ·
                              refine C_seq ?_
                              refine C_plan (mdl [(166, 3), (169, 3)]) [0, 1, 2, 4, 5, 3, 6, 7] [_, _, _, _, _, _, _, _] (by kernel_rfl) rfl rfl (by kernel_rfl) ?_
                              refine S_m (v := .ptr _ _) rfl ?_
                              refine S_faQ rfl ty_fd_38_1 ty_sz_3 rfl ?_
                              refine S_ldQ rfl (p_one ty_ag_3 ty_sz_3 rfl) ?_
                              refine S_m (v := .ptr _ _) rfl ?_
                              refine S_ldQ rfl (p_agg (vs := B.kC ((((iand .i64 x174.K (1 : Int)) == (1 : Int)), ((iand .i64 x174.K (2 : Int)) == (2 : Int))) : Bool × Bool)) ty_ag_52 ty_sz_52 rfl rfl) ?_
                              refine Du.S_cleana (k := (⟨x174.Kind, (iand .i64 x174.K (3 : Int)), x174.V, x174.Dirty⟩ : T_lecternlaw16_Op).K) ok hC rfl rfl (fun m305 f306 ok hC => ?_)
                              obtain ⟨a307, ha307, hF⟩ := F_let hF
                              rw [← ha307] at hC
                              refine Du.S_cleanb (k := ((((iand .i64 x174.K (1 : Int)) == (1 : Int)), ((iand .i64 x174.K (2 : Int)) == (2 : Int))) : Bool × Bool)) ok hC rfl rfl (fun m308 f309 ok hC => ?_)
                              obtain ⟨a310, ha310, hF⟩ := F_let hF
                              rw [← ha310] at hC
                              refine S_bin rfl rfl (e_bne ty_bo_4) ?_
                              refine S_nil ?_
                              refine C_if (b := (!((I.cleanB (⟨x174.Kind, (iand .i64 x174.K (3 : Int)), x174.V, x174.Dirty⟩ : T_lecternlaw16_Op).K a166.1) == (B.cleanB ((((iand .i64 x174.K (1 : Int)) == (1 : Int)), ((iand .i64 x174.K (2 : Int)) == (2 : Int))) : Bool × Bool) a307.2)))) rfl hF (fun hb311 hF => ?_) (fun hb311 hF => ?_)
                              ·
                                refine C_seq ?_
                                refine C_reg (mdl []) ?_
                                refine S_a (v := .bool _) rfl ?_
                                refine S_nil ?_
                                refine WP_ret ?_
                                replace hF := hG170 _ (F_some hF)
                                repeat (first | with_reducible refine Exit.sel_ret ?_ | with_reducible refine Exit.blk_ret ?_)
                                refine C_ret (fn := Try.f6) rfl (.tmp (v := .bool false) rfl .nil) ?_
                                exact ⟨_, _, (.refl _), WH.refl _, _, F_some hF, rfl⟩
                              ·
                                refine WP_skip ?_
                                have hwo : WO [(0, .room), (0, .room)] [] := (.drop (.drop .nil))
                                exact ⟨a310, hF, m308, f309, hC, (hwo.spec ok).1, WS.mk' (.cons (.refl _) (.cons (.refl _) (.cons (.refl _) (.cons (.refl _) (.cons (.refl _) .nil))))) ok hwo⟩
                            ·
                              refine WP_skip ?_
                              have hwo : WO [(0, .room), (0, .room)] [] := (.drop (.drop .nil))
                              exact ⟨a166, hF, m165, f167, hC, (hwo.spec ok).1, WS.mk' (.cons (.refl _) (.cons (.refl _) (.cons (.refl _) (.cons (.refl _) (.cons (.refl _) .nil))))) ok hwo⟩
                ·
                  rintro a244 s' hF ⟨m243, f245, hC, ok, hws⟩
                  refine WP_ws hws ?_
                  clear hws s'
                  refine C_seq ?_
                  refine C_reg (mdl []) ?_
                  refine S_m (v := .ptr _ _) rfl ?_
                  refine Du.S_clena ok hC rfl ?_
                  refine S_m (v := .ptr _ _) rfl ?_
                  refine Du.S_clenb ok hC rfl ?_
                  refine S_bin rfl rfl (ev_neq ..) ?_
                  refine S_m (v := .bool _) rfl ?_
                  refine S_twoJ 8 185 hF (fun J313 hb312 hF => ?_) (fun J313 hb312 hF => ?_) (fun v314 hF => ?_)
                  ·
                    refine S_off rfl rfl hb312 ?_
                    refine S_offD ?_
                    refine S_off rfl rfl hb312 ?_
                    refine S_offD ?_
                    refine S_off rfl rfl hb312 ?_
                    refine S_offD ?_
                    refine S_off rfl rfl hb312 ?_
                    refine S_offD ?_
                    refine S_off rfl rfl hb312 ?_
                    refine S_offD ?_
                    refine S_off rfl rfl hb312 ?_
                    refine S_offD ?_
                    refine S_off rfl rfl hb312 ?_
                    refine S_offD ?_
                    refine S_pickT (v := .bool _) rfl hb312 rfl ?_
                    refine S_nil ?_
                    refine ⟨_, hF, .hd (.refl _) ?_⟩
                    repeat (first | with_reducible exact WS.refl _ | refine WS.add ?_ rfl)
                  ·
                    refine S_on rfl rfl hb312 ?_
                    refine S_in ?_
                    refine S_m (v := .ptr _ _) rfl ?_
                    refine S_nil ?_
                    refine S_on rfl rfl hb312 ?_
                    refine Du.S_dirtySa ok hC rfl hF (fun hF => ?_)
                    refine S_on rfl rfl hb312 ?_
                    refine S_in ?_
                    refine S_lenL rfl ty_sl_22 ?_
                    refine S_nil ?_
                    refine S_on rfl rfl hb312 ?_
                    refine S_in ?_
                    refine S_m (v := .ptr _ _) rfl ?_
                    refine S_nil ?_
                    refine S_on rfl rfl hb312 ?_
                    refine Du.S_dirtySb ok hC rfl hF (fun hF => ?_)
                    refine S_on rfl rfl hb312 ?_
                    refine S_in ?_
                    refine S_lenL rfl ty_sl_57 ?_
                    refine S_nil ?_
                    refine S_on rfl rfl hb312 ?_
                    refine S_in ?_
                    refine S_bin rfl rfl (ev_neq ..) ?_
                    refine S_nil ?_
                    refine S_pickF (v := .bool _) rfl hb312 rfl ?_
                    refine S_nil ?_
                    refine ⟨_, hF, .hd (.refl _) ?_⟩
                    repeat (first | with_reducible exact WS.refl _ | refine WS.add ?_ rfl)
                  ·
                    refine S_m (v := .bool _) rfl ?_
                    refine S_twoJ 7 193 hF (fun J316 hb315 hF => ?_) (fun J316 hb315 hF => ?_) (fun v317 hF => ?_)
                    ·
                      refine S_off rfl rfl hb315 ?_
                      refine S_offD ?_
                      refine S_off rfl rfl hb315 ?_
                      refine S_offD ?_
                      refine S_off rfl rfl hb315 ?_
                      refine S_offD ?_
                      refine S_off rfl rfl hb315 ?_
                      refine S_offD ?_
                      refine S_off rfl rfl hb315 ?_
                      refine S_offD ?_
                      refine S_off rfl rfl hb315 ?_
                      refine S_offD ?_
                      refine S_pickT (v := .bool _) rfl hb315 rfl ?_
                      refine S_nil ?_
                      refine ⟨_, hF, .hd (.refl _) ?_⟩
                      repeat (first | with_reducible exact WS.refl _ | refine WS.add ?_ rfl)
                    ·
                      refine S_on rfl rfl hb315 ?_
                      refine S_in ?_
                      refine S_m (v := .ptr _ _) rfl ?_
                      refine S_nil ?_
                      refine S_on rfl rfl hb315 ?_
                      refine Du.S_keysSb ok hC rfl hF (fun hF => ?_)
                      refine S_on rfl rfl hb315 ?_
                      refine S_in ?_
                      refine S_lenL rfl ty_sl_57 ?_
                      refine S_nil ?_
                      refine S_on rfl rfl hb315 ?_
                      refine S_in ?_
                      refine S_m (v := .ptr _ _) rfl ?_
                      refine S_nil ?_
                      refine S_on rfl rfl hb315 ?_
                      refine S_in ?_
                      refine Du.S_clenb ok hC rfl ?_
                      refine S_nil ?_
                      refine S_on rfl rfl hb315 ?_
                      refine S_in ?_
                      refine S_bin rfl rfl (ev_neq ..) ?_
                      refine S_nil ?_
                      refine S_pickF (v := .bool _) rfl hb315 rfl ?_
                      refine S_nil ?_
                      refine ⟨_, hF, .hd (.refl _) ?_⟩
                      repeat (first | with_reducible exact WS.refl _ | refine WS.add ?_ rfl)
                    ·
                      refine S_nil ?_
                      refine C_if (b := v317) rfl hF (fun hb318 hF => ?_) (fun hb318 hF => ?_)
                      ·
                        refine C_seq ?_
                        refine C_reg (mdl []) ?_
                        refine S_a (v := .bool _) rfl ?_
                        refine S_nil ?_
                        refine WP_ret ?_
                        replace hF := hG170 _ (F_some hF)
                        repeat (first | with_reducible refine Exit.sel_ret ?_ | with_reducible refine Exit.blk_ret ?_)
                        refine C_ret (fn := Try.f6) rfl (.tmp (v := .bool false) rfl .nil) ?_
                        exact ⟨_, _, (.refl _), WH.refl _, _, F_some hF, rfl⟩
                      ·
                        refine WP_skip ?_
                        refine C_reg (mdl []) ?_
                        refine S_bin rfl rfl (ev_add ..) ?_
                        refine S_m (v := .int _ _) rfl ?_
                        refine S_nil ?_
                        refine ih172 (a244, (IntKind.wrap .i64 (a168 + (1 : Int)))) _ hF ?_
                        have hwo : WO [] [] := .nil
                        exact ⟨m243, f245, hC, (hwo.spec ok).1, WS.mk' (.cons (.refl _) (.cons (.refl _) (.cons (.refl _) (.cons (.refl _) (.cons (.refl _) .nil))))) ok hwo⟩
            ·
              refine WP_exit ?_
              simp only [Exit.sel, Exit.blk, if_true, if_false, reduceIte, Nat.reduceEqDiff, Nat.succ_ne_zero, Nat.zero_ne_one, Nat.one_ne_zero]
              replace hF := hG170 _ (F_some hF)
              have hwo : WO [] [] := .nil
              exact ⟨a166, hF, m165, f167, hC, (hwo.spec ok).1, WS.mk' .nil ok hwo⟩
        ·
          rintro a162 s' hF ⟨m161, f163, hC, ok, hws⟩
          refine WP_ws hws ?_
          clear hws s'
          refine C_seq ?_
          refine C_reg (mdl []) ?_
          refine S_a (v := .bool _) rfl ?_
          refine S_nil ?_
          refine WP_ret ?_
          repeat (first | with_reducible refine Exit.sel_ret ?_ | with_reducible refine Exit.blk_ret ?_)
          refine C_ret (fn := Try.f6) rfl (.tmp (v := .bool true) rfl .nil) ?_
          exact ⟨_, _, (.refl _), WH.refl _, _, F_some hF, rfl⟩
    ·
      refine S_m (v := .tup _) rfl ?_
      refine S_ext rfl rfl ?_
      refine S_ext rfl rfl ?_
      refine S_a (v := .nilp) rfl ?_
      refine S_a (v := .int _ _) rfl ?_
      refine S_nil ?_
      refine C_seq ?_
      refine C_seq ?_
      refine C_reg (mdl []) ?_
      refine S_m (v := .ptr _ _) rfl ?_
      refine S_bin rfl rfl (e_pn (by rw [ty_pt_25]; rfl)) ?_
      refine S_m (v := .bool _) rfl ?_
      refine S_on rfl rfl rfl ?_
      refine S_in ?_
      refine S_m (v := .nilp) rfl ?_
      refine S_nil ?_
      refine S_on rfl rfl rfl ?_
      refine S_in ?_
      refine S_bin rfl rfl (e_nn (by rw [ty_pt_49]; rfl)) ?_
      refine S_nil ?_
      refine S_pickF (v := .bool _) rfl rfl rfl ?_
      refine S_m (v := .bool _) rfl ?_
      refine S_off rfl rfl rfl ?_
      refine S_offD ?_
      refine S_off rfl rfl rfl ?_
      refine S_offD ?_
      refine S_pickT (v := .bool _) rfl rfl rfl ?_
      refine S_m (v := .bool _) rfl ?_
      refine S_off rfl rfl rfl ?_
      refine S_offD ?_
      refine S_off rfl rfl rfl ?_
      refine S_offD ?_
      refine S_pickT (v := .bool _) rfl rfl rfl ?_
      refine S_nil ?_
      refine C_tt rfl rfl ?_
      refine C_seq ?_
      refine C_reg (mdl []) ?_
      refine S_a (v := .bool _) rfl ?_
      refine S_nil ?_
      refine WP_ret ?_
      repeat (first | with_reducible refine Exit.sel_ret ?_ | with_reducible refine Exit.blk_ret ?_)
      refine C_ret (fn := Try.f6) rfl (.tmp (v := .bool false) rfl .nil) ?_
      exact ⟨_, _, (.refl _), WH.refl _, _, F_some hF, rfl⟩
  ·
    refine S_m (v := .tup _) rfl ?_
    refine S_ext rfl rfl ?_
    refine S_ext rfl rfl ?_
    refine S_a (v := .nilp) rfl ?_
    refine S_a (v := .int _ _) rfl ?_
    refine S_nil ?_
    refine C_seq ?_
    refine C_reg (mdl []) ?_
    refine S_m (v := .int _ _) rfl ?_
    refine B.S_new ok rfl hF (fun c319 m320 f321 ok hC hF => ?_) (fun hF => ?_)
    ·
      refine S_m (v := .tup _) rfl ?_
      refine S_ext rfl rfl ?_
      refine S_ext rfl rfl ?_
      refine S_a (v := .ptr _ _) rfl ?_
      refine S_a (v := .int _ _) rfl ?_
      refine S_nil ?_
      refine C_seq ?_
      refine C_seq ?_
      refine C_reg (mdl []) ?_
      refine S_m (v := .nilp) rfl ?_
      refine S_bin rfl rfl (e_nn (by rw [ty_pt_25]; rfl)) ?_
      refine S_m (v := .bool _) rfl ?_
      refine S_off rfl rfl rfl ?_
      refine S_offD ?_
      refine S_off rfl rfl rfl ?_
      refine S_offD ?_
      refine S_pickT (v := .bool _) rfl rfl rfl ?_
      refine S_m (v := .bool _) rfl ?_
      refine S_off rfl rfl rfl ?_
      refine S_offD ?_
      refine S_off rfl rfl rfl ?_
      refine S_offD ?_
      refine S_pickT (v := .bool _) rfl rfl rfl ?_
      refine S_m (v := .bool _) rfl ?_
      refine S_off rfl rfl rfl ?_
      refine S_offD ?_
      refine S_off rfl rfl rfl ?_
      refine S_offD ?_
      refine S_pickT (v := .bool _) rfl rfl rfl ?_
      refine S_nil ?_
      refine C_tt rfl rfl ?_
      refine C_seq ?_
      refine C_reg (mdl []) ?_
      refine S_a (v := .bool _) rfl ?_
      refine S_nil ?_
      refine WP_ret ?_
      repeat (first | with_reducible refine Exit.sel_ret ?_ | with_reducible refine Exit.blk_ret ?_)
      refine C_ret (fn := Try.f6) rfl (.tmp (v := .bool false) rfl .nil) ?_
      exact ⟨_, _, (.refl _), WH.refl _, _, F_some hF, rfl⟩
    ·
      refine S_m (v := .tup _) rfl ?_
      refine S_ext rfl rfl ?_
      refine S_ext rfl rfl ?_
      refine S_a (v := .nilp) rfl ?_
      refine S_a (v := .int _ _) rfl ?_
      refine S_nil ?_
      refine C_seq ?_
      refine C_seq ?_
      refine C_reg (mdl []) ?_
      refine S_m (v := .nilp) rfl ?_
      refine S_bin rfl rfl (e_nn (by rw [ty_pt_25]; rfl)) ?_
      refine S_m (v := .bool _) rfl ?_
      refine S_off rfl rfl rfl ?_
      refine S_offD ?_
      refine S_off rfl rfl rfl ?_
      refine S_offD ?_
      refine S_pickT (v := .bool _) rfl rfl rfl ?_
      refine S_m (v := .bool _) rfl ?_
      refine S_off rfl rfl rfl ?_
      refine S_offD ?_
      refine S_off rfl rfl rfl ?_
      refine S_offD ?_
      refine S_pickT (v := .bool _) rfl rfl rfl ?_
      refine S_m (v := .bool _) rfl ?_
      refine S_off rfl rfl rfl ?_
      refine S_offD ?_
      refine S_off rfl rfl rfl ?_
      refine S_offD ?_
      refine S_pickT (v := .bool _) rfl rfl rfl ?_
      refine S_nil ?_
      refine C_tt rfl rfl ?_
      refine C_seq ?_
      refine C_reg (mdl []) ?_
      refine S_a (v := .bool _) rfl ?_
      refine S_nil ?_
      refine WP_ret ?_
      repeat (first | with_reducible refine Exit.sel_ret ?_ | with_reducible refine Exit.blk_ret ?_)
      refine C_ret (fn := Try.f6) rfl (.tmp (v := .bool false) rfl .nil) ?_
      exact ⟨_, _, (.refl _), WH.refl _, _, F_some hF, rfl⟩
end Go.Proofs.Ytcjndiagbdkikaa
