/- The walks. No condition. -/
import Derived.Test.YtcjndiagbdkikaaPfK
import Derived.Test.YtcjndiagbdkikaaTcK
set_option linter.unusedVariables false
set_option linter.unusedSimpArgs false
set_option maxRecDepth 20000
set_option maxHeartbeats 8000000
namespace Go.Proofs.Ytcjndiagbdkikaa
theorem F_lecternlaw16_CacheKeeps_w (p0 : Int) (p1 : List T_lecternlaw16_Op) {G : Bool → Prop} (h : Heap) (hF : OptP (F_lecternlaw16_CacheKeeps p0 p1) G) : CallsA Try.prog 4 [.int .i64 p0, .sl 4 (List.map c_T_lecternlaw16_Op p1) 0] h fun d h' => ∃ r, G r ∧ d = .bool r := by
  refine CallsA.ret ?_
  refine C_body Try.func4 rfl en_4 Try.ntmps4 rfl (fun ok => ?_)
  rw [F_lecternlaw16_CacheKeeps] at hF
  refine C_seq ?_
  refine C_reg (mdl []) ?_
  refine S_a (v := .bool _) rfl ?_
  refine S_nil ?_
  refine C_seq ?_
  refine C_seq ?_
  refine C_reg (mdl []) ?_
  refine S_awake ok (fun m1 ok => ?_)
  refine S_un rfl (ev_not _) ?_
  refine S_nil ?_
  refine C_ff rfl rfl ?_
  refine WP_skip ?_
  refine C_seq ?_
  refine C_reg (mdl []) ?_
  refine S_m (v := .int _ _) rfl ?_
  refine S_conv rfl (e_ci ty_ki_24 ty_un_3) ?_
  refine S_bin rfl rfl (e_rem rfl) ?_
  refine S_conv rfl (e_ci ty_ki_3 ty_un_24) ?_
  refine S_bin rfl rfl (ev_add ..) ?_
  refine S_a (v := .int _ _) rfl ?_
  refine S_nil ?_
  refine C_seq ?_
  refine C_reg (mdl []) ?_
  refine S_m (v := .int _ _) rfl ?_
  refine I.S_new ok rfl hF (fun c2 m3 f4 ok hC hF => ?_) (fun hF => ?_)
  ·
    refine S_m (v := .tup _) rfl ?_
    refine S_ext rfl rfl ?_
    refine S_ext rfl rfl ?_
    refine S_a (v := .ptr _ _) rfl ?_
    refine S_a (v := .int _ _) rfl ?_
    refine S_nil ?_
    refine C_seq ?_
    refine C_seq ?_
    refine C_reg (mdl []) ?_
    refine S_m (v := .ptr _ _) rfl ?_
    refine S_bin rfl rfl (e_pn (by rw [ty_pt_25]; rfl)) ?_
    refine S_m (v := .bool _) rfl ?_
    refine S_on rfl rfl rfl ?_
    refine S_in ?_
    refine S_m (v := .int _ _) rfl ?_
    refine S_nil ?_
    refine S_on rfl rfl rfl ?_
    refine S_in ?_
    refine S_bin rfl rfl (ev_neq ..) ?_
    refine S_nil ?_
    refine S_pickF (v := .bool _) rfl rfl rfl ?_
    refine S_nil ?_
    refine C_if (b := ((0 : Int) != (0 : Int))) rfl hF (fun hb6 hF => ?_) (fun hb6 hF => ?_)
    ·
      refine C_seq ?_
      refine C_reg (mdl []) ?_
      refine S_a (v := .bool _) rfl ?_
      refine S_nil ?_
      refine WP_ret ?_
      repeat (first | with_reducible refine Exit.sel_ret ?_ | with_reducible refine Exit.blk_ret ?_)
      refine C_ret (fn := Try.f4) rfl (.tmp (v := .bool false) rfl .nil) ?_
      exact ⟨_, _, (.refl _), WH.refl _, _, F_some hF, rfl⟩
    ·
      refine WP_skip ?_
      refine C_seq ?_
      refine C_reg (mdl []) ?_
      refine S_mkM vI vI ok ?_
      intro i7 hi7 ok
      refine S_mkM vI vI ok ?_
      intro i8 hi8 ok
      refine S_a (v := .mp _) rfl ?_
      refine S_a (v := .mp _) rfl ?_
      refine S_nil ?_
      refine C_join hF (fun (v : (List I.Ent) × (PM Int Int)) s' => match v with | (a274, a276) => ∃ (m273 : Heap) (f275 : List Nat), I.CaL m273 c2 f275 (IntKind.wrap .i64 ((1 : Int) + (IntKind.wrap .i64 (Int.tmod (IntKind.wrap .u64 p0) (20 : Int))))) a274 ∧ OK m273 [mpO i7 vI vI a276] ∧ WS s' ⟨mkSl 208 [(6, .ptr c2 0), (8, .mp i7)], Hp m273 [mpO i7 vI vI a276]⟩) (fun J277 hF => ?_) ?_
      ·
        refine C_seq ?_
        refine C_reg (mdl []) ?_
        refine S_m (v := .sl _ _ _) rfl ?_
        refine S_lenL rfl ty_sl_35 ?_
        refine S_m (v := .int _ _) rfl ?_
        refine S_nil ?_
        refine WP_block ?_
        refine C_loop (σ := (List I.Ent) × (PM Int Int) × (PM Int Int) × Int) hF (fun (v : (List I.Ent) × (PM Int Int) × (PM Int Int) × Int) s' => match v with | (a279, a281, a282, a283) => ∃ (m278 : Heap) (f280 : List Nat), I.CaL m278 c2 f280 (IntKind.wrap .i64 ((1 : Int) + (IntKind.wrap .i64 (Int.tmod (IntKind.wrap .u64 p0) (20 : Int))))) a279 ∧ OK m278 [mpO i8 vI vI a282, mpO i7 vI vI a281] ∧ WS s' ⟨mkSl 208 [(5, .int .i64 (IntKind.wrap .i64 ((1 : Int) + (IntKind.wrap .i64 (Int.tmod (IntKind.wrap .u64 p0) (20 : Int)))))), (6, .ptr c2 0), (8, .mp i7), (9, .mp i8), (44, .sl 4 (List.map c_T_lecternlaw16_Op p1) 0), (45, .int .i64 (p1.length : Int)), (46, .int .i64 a283)], Hp m278 [mpO i8 vI vI a282, mpO i7 vI vI a281]⟩) ?_ ?_
        ·
          have hwo : WO [mpO i8 vI vI (pm0 : PM Int Int), mpO i7 vI vI (pm0 : PM Int Int)] [mpO i8 vI vI (pm0 : PM Int Int), mpO i7 vI vI (pm0 : PM Int Int)] := (.keep (.keep .nil))
          exact ⟨m3, f4, hC, (hwo.spec ok).1, WS.mk' (.cons (.refl _) (.cons (.refl _) (.cons (.refl _) (.cons (.refl _) (.cons (.refl _) (.cons (.refl _) (.cons (.refl _) .nil))))))) ok hwo⟩
        ·
          rintro G284 hG285 rec286 ⟨a279, a281, a282, a283⟩ s' ih287 hF ⟨m278, f280, hC, ok, hws⟩
          refine WP_ws hws ?_
          clear hws s'
          rw [F_lecternlaw16_CacheKeeps_l0] at hF
          refine C_seq ?_
          refine C_reg (mdl []) ?_
          refine S_bin rfl rfl (ev_lss ..) ?_
          refine S_nil ?_
          refine C_seq ?_
          refine C_if (b := (decide (a283 < (p1.length : Int)))) rfl hF (fun hb288 hF => ?_) (fun hb288 hF => ?_)
          ·
            refine WP_skip ?_
            refine C_join hF (fun (v : (List I.Ent) × (PM Int Int) × (PM Int Int)) s' => match v with | (a416, a418, a419) => ∃ (m415 : Heap) (f417 : List Nat), I.CaL m415 c2 f417 (IntKind.wrap .i64 ((1 : Int) + (IntKind.wrap .i64 (Int.tmod (IntKind.wrap .u64 p0) (20 : Int))))) a416 ∧ OK m415 [mpO i8 vI vI a419, mpO i7 vI vI a418] ∧ WS s' ⟨mkSl 208 [(5, .int .i64 (IntKind.wrap .i64 ((1 : Int) + (IntKind.wrap .i64 (Int.tmod (IntKind.wrap .u64 p0) (20 : Int)))))), (6, .ptr c2 0), (8, .mp i7), (9, .mp i8), (44, .sl 4 (List.map c_T_lecternlaw16_Op p1) 0), (45, .int .i64 (p1.length : Int)), (46, .int .i64 a283)], Hp m415 [mpO i8 vI vI a419, mpO i7 vI vI a418]⟩) (fun J420 hF => ?_) ?_
            ·
              refine WP_block ?_
              refine C_seq ?_
              refine C_reg (mdl [(11, 1)]) ?_
              refine S_m (v := .int _ _) rfl ?_
              refine S_ix rfl rfl ty_sl_35 ty_sz_38 hF (fun x421 _ hF => ?_)
              refine S_ldQ rfl (p_agg (vs := c_T_lecternlaw16_Op x421) ty_ag_38 ty_sz_38 rfl rfl) ?_
              refine S_all1 ok rfl ty_zc_38 ?_
              intro i422 hi422 ok
              refine S_a (v := .int _ _) rfl ?_
              refine S_st (j := 0) (cs' := [.int .i64 x421.Kind, .int .i64 x421.K, .int .i64 x421.V, .bool x421.Dirty]) ok rfl rfl rfl hi422 rfl ty_sz_38 rfl rfl (fun ok => ?_)
              refine S_nil ?_
              refine C_seq ?_
              refine C_seq ?_
              refine C_reg (mdl []) ?_
              refine S_m (v := .int _ _) rfl ?_
              refine S_bin rfl rfl (ev_geq ..) ?_
              refine S_nil ?_
              refine C_if (b := (decide ((300 : Int) ≤ a283))) rfl hF (fun hb423 hF => ?_) (fun hb423 hF => ?_)
              ·
                refine WP_exit ?_
                simp only [Exit.sel, Exit.blk, if_true, if_false, reduceIte, Nat.reduceEqDiff, Nat.succ_ne_zero, Nat.zero_ne_one, Nat.one_ne_zero]
                replace hF := hG285 _ (F_some hF)
                have hwo : WO [(i422, .cells [.int .i64 x421.Kind, .int .i64 x421.K, .int .i64 x421.V, .bool x421.Dirty]), mpO i8 vI vI a282, mpO i7 vI vI a281] [mpO i7 vI vI a281] := (.drop (.drop (.keep .nil)))
                exact ⟨(a279, a281), hF, m278, f280, hC, (hwo.spec ok).1, WS.mk' (.cons (.refl _) (.cons (.refl _) .nil)) ok hwo⟩
              ·
                refine WP_skip ?_
                refine C_join hF (fun (v : (List I.Ent) × (PM Int Int) × (PM Int Int)) s' => match v with | (a465, a467, a468) => ∃ (m464 : Heap) (f466 : List Nat), I.CaL m464 c2 f466 (IntKind.wrap .i64 ((1 : Int) + (IntKind.wrap .i64 (Int.tmod (IntKind.wrap .u64 p0) (20 : Int))))) a465 ∧ OK m464 [mpO i8 vI vI a468, mpO i7 vI vI a467] ∧ WS s' ⟨mkSl 208 [(5, .int .i64 (IntKind.wrap .i64 ((1 : Int) + (IntKind.wrap .i64 (Int.tmod (IntKind.wrap .u64 p0) (20 : Int)))))), (6, .ptr c2 0), (8, .mp i7), (9, .mp i8), (44, .sl 4 (List.map c_T_lecternlaw16_Op p1) 0), (45, .int .i64 (p1.length : Int)), (46, .int .i64 a283)], Hp m464 [mpO i8 vI vI a468, mpO i7 vI vI a467]⟩) (fun J469 hF => ?_) ?_
                ·
                  refine C_seq ?_
                  refine C_reg (mdl []) ?_
                  refine S_faP rfl ty_fd_38_0 ty_sz_3 ?_
                  refine S_ldP (j := 0) ok rfl rfl rfl hi422 (p_one (v := .int .i64 x421.Kind) ty_ag_3 ty_sz_3 rfl) ?_
                  refine S_nil ?_
                  refine WP_block ?_
                  refine C_seq ?_
                  refine C_reg (mdl []) ?_
                  refine S_bin rfl rfl (ev_eql ..) ?_
                  refine S_a (v := .bool _) rfl ?_
                  refine S_nil ?_
                  refine C_if (b := (x421.Kind == (1 : Int))) rfl hF (fun hb470 hF => ?_) (fun hb470 hF => ?_)
                  ·
                    refine C_seq ?_
                    refine C_reg (mdl []) ?_
                    refine S_m (v := .ptr _ _) rfl ?_
                    refine S_faP rfl ty_fd_38_1 ty_sz_3 ?_
                    refine S_ldP (j := 0) ok rfl rfl rfl hi422 (p_one (v := .int .i64 x421.K) ty_ag_3 ty_sz_3 rfl) ?_
                    refine I.S_get (k := x421.K) ok hC rfl rfl (fun m471 f472 ok hC => ?_)
                    obtain ⟨a473, ha473, hF⟩ := F_let hF
                    rw [← ha473] at hC
                    refine S_m (v := .tup _) rfl ?_
                    refine S_ext rfl rfl ?_
                    refine S_ext rfl rfl ?_
                    refine S_a (v := .int _ _) rfl ?_
                    refine S_a (v := .bool _) rfl ?_
                    refine S_nil ?_
                    refine C_seq ?_
                    refine C_reg (mdl []) ?_
                    refine S_m (v := .ptr _ _) rfl ?_
                    refine S_faP rfl ty_fd_38_1 ty_sz_3 ?_
                    refine S_ldP (j := 0) ok rfl rfl rfl hi422 (p_one (v := .int .i64 x421.K) ty_ag_3 ty_sz_3 rfl) ?_
                    refine S_faP rfl ty_fd_38_2 ty_sz_3 ?_
                    refine S_ldP (j := 0) ok rfl rfl rfl hi422 (p_one (v := .int .i64 x421.V) ty_ag_3 ty_sz_3 rfl) ?_
                    refine S_faP rfl ty_fd_38_3 ty_sz_4 ?_
                    refine S_ldP (j := 0) ok rfl rfl rfl hi422 (p_one (v := .bool x421.Dirty) ty_ag_4 ty_sz_4 rfl) ?_
                    refine I.S_put (k := x421.K) (v := x421.V) (b := x421.Dirty) ok hC rfl rfl rfl rfl (fun m474 f475 ok hC => ?_)
                    obtain ⟨a476, ha476, hF⟩ := F_let hF
                    rw [← ha476] at hC
                    refine S_a (v := .int _ _) rfl ?_
                    refine S_nil ?_
                    refine C_seq ?_
                    refine C_seq ?_
                    refine C_reg (mdl []) ?_
                    refine S_m (v := .int _ _) rfl ?_
                    refine S_bin rfl rfl (ev_neq ..) ?_
                    refine S_nil ?_
                    refine C_if (b := ((I.putL x421.K x421.V x421.Dirty (IntKind.wrap .i64 ((1 : Int) + (IntKind.wrap .i64 (Int.tmod (IntKind.wrap .u64 p0) (20 : Int))))) a473).1 != (0 : Int))) rfl hF (fun hb477 hF => ?_) (fun hb477 hF => ?_)
                    ·
                      refine C_seq ?_
                      refine C_seq ?_
                      refine C_reg (mdl []) ?_
                      refine S_m (v := .int _ _) rfl ?_
                      refine S_bin rfl rfl (ev_neq ..) ?_
                      refine S_m (v := .bool _) rfl ?_
                      refine S_two (b := ((I.putL x421.K x421.V x421.Dirty (IntKind.wrap .i64 ((1 : Int) + (IntKind.wrap .i64 (Int.tmod (IntKind.wrap .u64 p0) (20 : Int))))) a473).1 != (4 : Int))) 2 78 (.bool (((I.putL x421.K x421.V x421.Dirty (IntKind.wrap .i64 ((1 : Int) + (IntKind.wrap .i64 (Int.tmod (IntKind.wrap .u64 p0) (20 : Int))))) a473).1 != (4 : Int)) || (I.fnd x421.K a279).isSome)) (fun hb478 => ?_) (fun hb478 => ?_) ?_
                      ·
                        refine S_off rfl rfl hb478 ?_
                        refine S_offD ?_
                        refine S_pickT (v := .bool _) rfl hb478 rfl ?_
                        refine S_nil ?_
                        refine .hd (or_t hb478) ?_
                        repeat (first | with_reducible exact WS.refl _ | refine WS.add ?_ rfl)
                      ·
                        refine S_on rfl rfl hb478 ?_
                        refine S_in ?_
                        refine S_m (v := .bool _) rfl ?_
                        refine S_nil ?_
                        refine S_pickF (v := .bool _) rfl hb478 rfl ?_
                        refine S_nil ?_
                        refine .hd (or_f hb478) ?_
                        repeat (first | with_reducible exact WS.refl _ | refine WS.add ?_ rfl)
                      refine S_m (v := .bool _) rfl ?_
                      refine S_twoJ 5 84 hF (fun J480 hb479 hF => ?_) (fun J480 hb479 hF => ?_) (fun v481 hF => ?_)
                      ·
                        refine S_off rfl rfl hb479 ?_
                        refine S_offD ?_
                        refine S_off rfl rfl hb479 ?_
                        refine S_offD ?_
                        refine S_off rfl rfl hb479 ?_
                        refine S_offD ?_
                        refine S_off rfl rfl hb479 ?_
                        refine S_offD ?_
                        refine S_pickT (v := .bool _) rfl hb479 rfl ?_
                        refine S_nil ?_
                        refine ⟨_, hF, .hd (.refl _) ?_⟩
                        repeat (first | with_reducible exact WS.refl _ | refine WS.add ?_ rfl)
                      ·
                        refine S_on rfl rfl hb479 ?_
                        refine S_in ?_
                        refine S_m (v := .ptr _ _) rfl ?_
                        refine S_nil ?_
                        refine S_on rfl rfl hb479 ?_
                        refine S_in ?_
                        refine I.S_clen ok hC rfl ?_
                        refine S_nil ?_
                        refine S_on rfl rfl hb479 ?_
                        refine S_in ?_
                        refine S_m (v := .int _ _) rfl ?_
                        refine S_nil ?_
                        refine S_on rfl rfl hb479 ?_
                        refine S_in ?_
                        refine S_bin rfl rfl (ev_neq ..) ?_
                        refine S_nil ?_
                        refine S_pickF (v := .bool _) rfl hb479 rfl ?_
                        refine S_nil ?_
                        refine ⟨_, hF, .hd (.refl _) ?_⟩
                        repeat (first | with_reducible exact WS.refl _ | refine WS.add ?_ rfl)
                      ·
                        refine S_nil ?_
                        refine C_if (b := v481) rfl hF (fun hb482 hF => ?_) (fun hb482 hF => ?_)
                        ·
                          refine C_seq ?_
                          refine C_reg (mdl []) ?_
                          refine S_a (v := .bool _) rfl ?_
                          refine S_nil ?_
                          refine WP_ret ?_
                          replace hF := hG285 _ (F_some hF)
                          repeat (first | with_reducible refine Exit.sel_ret ?_ | with_reducible refine Exit.blk_ret ?_)
                          refine C_ret (fn := Try.f4) rfl (.tmp (v := .bool false) rfl .nil) ?_
                          exact ⟨_, _, (.refl _), WH.refl _, _, F_some hF, rfl⟩
                        ·
                          refine WP_skip ?_
                          refine WP_exit ?_
                          simp only [Exit.sel, Exit.blk, if_true, if_false, reduceIte, Nat.reduceEqDiff, Nat.succ_ne_zero, Nat.zero_ne_one, Nat.one_ne_zero]
                          have hwo : WO [(i422, .cells [.int .i64 x421.Kind, .int .i64 x421.K, .int .i64 x421.V, .bool x421.Dirty]), mpO i8 vI vI a282, mpO i7 vI vI a281] [mpO i8 vI vI a282, mpO i7 vI vI a281] := (.drop (.keep (.keep .nil)))
                          exact ⟨(a476, a281, a282), hF, m474, f475, hC, (hwo.spec ok).1, WS.mk' (.cons (.refl _) (.cons (.refl _) (.cons (.refl _) (.cons (.refl _) (.cons (.refl _) (.cons (.refl _) (.cons (.refl _) .nil))))))) ok hwo⟩
                    ·
                      refine WP_skip ?_
                      refine C_join hF (fun (a485 : (PM Int Int)) s' => OK m474 [(i422, .cells [.int .i64 x421.Kind, .int .i64 x421.K, .int .i64 x421.V, .bool x421.Dirty]), mpO i8 vI vI a485, mpO i7 vI vI a281] ∧ WS s' ⟨mkSl 208 [(5, .int .i64 (IntKind.wrap .i64 ((1 : Int) + (IntKind.wrap .i64 (Int.tmod (IntKind.wrap .u64 p0) (20 : Int)))))), (6, .ptr c2 0), (8, .mp i7), (9, .mp i8), (11, .ptr i422 0), (44, .sl 4 (List.map c_T_lecternlaw16_Op p1) 0), (45, .int .i64 (p1.length : Int)), (46, .int .i64 a283)], Hp m474 [(i422, .cells [.int .i64 x421.Kind, .int .i64 x421.K, .int .i64 x421.V, .bool x421.Dirty]), mpO i8 vI vI a485, mpO i7 vI vI a281]⟩) (fun J486 hF => ?_) ?_
                      ·
                        refine C_seq ?_
                        refine C_reg (mdl []) ?_
                        refine S_m (v := .bool _) rfl ?_
                        refine S_un rfl (ev_not _) ?_
                        refine S_nil ?_
                        refine C_if (b := (!(I.fnd x421.K a279).isSome)) rfl hF (fun hb487 hF => ?_) (fun hb487 hF => ?_)
                        ·
                          refine C_reg (mdl []) ?_
                          refine S_m (v := .mp _) rfl ?_
                          refine S_faP rfl ty_fd_38_1 ty_sz_3 ?_
                          refine S_ldP (j := 0) ok rfl rfl rfl hi422 (p_one (v := .int .i64 x421.K) ty_ag_3 ty_sz_3 rfl) ?_
                          refine S_putM (j := 1) (k0 := x421.K) (v0 := (0 : Int)) ok rfl hi8 rfl rfl rfl ty_ma_36 (key_int ty_ki_3) (fun ok => ?_)
                          obtain ⟨a488, ha488, hF⟩ := F_let hF
                          rw [← ha488] at ok
                          rw [← ha488]
                          refine S_nil ?_
                          have hwo : WO [(i422, .cells [.int .i64 x421.Kind, .int .i64 x421.K, .int .i64 x421.V, .bool x421.Dirty]), mpO i8 vI vI a488, mpO i7 vI vI a281] [(i422, .cells [.int .i64 x421.Kind, .int .i64 x421.K, .int .i64 x421.V, .bool x421.Dirty]), mpO i8 vI vI a488, mpO i7 vI vI a281] := (.keep (.keep (.keep .nil)))
                          exact ⟨a488, hF, (hwo.spec ok).1, WS.mk' (.cons (.refl _) (.cons (.refl _) (.cons (.refl _) (.cons (.refl _) (.cons (.refl _) (.cons (.refl _) (.cons (.refl _) (.cons (.refl _) .nil)))))))) ok hwo⟩
                        ·
                          refine WP_skip ?_
                          have hwo : WO [(i422, .cells [.int .i64 x421.Kind, .int .i64 x421.K, .int .i64 x421.V, .bool x421.Dirty]), mpO i8 vI vI a282, mpO i7 vI vI a281] [(i422, .cells [.int .i64 x421.Kind, .int .i64 x421.K, .int .i64 x421.V, .bool x421.Dirty]), mpO i8 vI vI a282, mpO i7 vI vI a281] := (.keep (.keep (.keep .nil)))
                          exact ⟨a282, hF, (hwo.spec ok).1, WS.mk' (.cons (.refl _) (.cons (.refl _) (.cons (.refl _) (.cons (.refl _) (.cons (.refl _) (.cons (.refl _) (.cons (.refl _) (.cons (.refl _) .nil)))))))) ok hwo⟩
                      ·
                        rintro a485 s' hF ⟨ok, hws⟩
                        refine WP_ws hws ?_
                        clear hws s'
                        refine C_seq ?_
                        refine C_reg (mdl []) ?_
                        refine S_m (v := .mp _) rfl ?_
                        refine S_faP rfl ty_fd_38_1 ty_sz_3 ?_
                        refine S_ldP (j := 0) ok rfl rfl rfl hi422 (p_one (v := .int .i64 x421.K) ty_ag_3 ty_sz_3 rfl) ?_
                        refine S_faP rfl ty_fd_38_2 ty_sz_3 ?_
                        refine S_ldP (j := 0) ok rfl rfl rfl hi422 (p_one (v := .int .i64 x421.V) ty_ag_3 ty_sz_3 rfl) ?_
                        refine S_putM (j := 2) (k0 := x421.K) (v0 := x421.V) ok rfl hi7 rfl rfl rfl ty_ma_36 (key_int ty_ki_3) (fun ok => ?_)
                        obtain ⟨a489, ha489, hF⟩ := F_let hF
                        rw [← ha489] at ok
                        rw [← ha489]
                        refine S_nil ?_
                        refine C_seq ?_
                        refine C_reg (mdl []) ?_
                        refine S_faP rfl ty_fd_38_3 ty_sz_4 ?_
                        refine S_ldP (j := 0) ok rfl rfl rfl hi422 (p_one (v := .bool x421.Dirty) ty_ag_4 ty_sz_4 rfl) ?_
                        refine S_m (v := .bool _) rfl ?_
                        refine S_two (b := x421.Dirty) 7 104 (.bool (x421.Dirty && ((Int.tmod ((PM.get a485 x421.K).getD (0 : Int)) (2 : Int)) == (0 : Int)))) (fun hb490 => ?_) (fun hb490 => ?_) ?_
                        ·
                          refine S_on rfl rfl hb490 ?_
                          refine S_in ?_
                          refine S_m (v := .mp _) rfl ?_
                          refine S_nil ?_
                          refine S_on rfl rfl hb490 ?_
                          refine S_in ?_
                          refine S_faP rfl ty_fd_38_1 ty_sz_3 ?_
                          refine S_nil ?_
                          refine S_on rfl rfl hb490 ?_
                          refine S_in ?_
                          refine S_ldP (j := 0) ok rfl rfl rfl hi422 (p_one (v := .int .i64 x421.K) ty_ag_3 ty_sz_3 rfl) ?_
                          refine S_nil ?_
                          refine S_on rfl rfl hb490 ?_
                          refine S_in ?_
                          refine S_lkM (j := 1) (k0 := x421.K) (v0 := (0 : Int)) ok rfl hi8 rfl rfl ty_ma_36 ty_zr_3 (key_int ty_ki_3) ?_
                          refine S_nil ?_
                          refine S_on rfl rfl hb490 ?_
                          refine S_in ?_
                          refine S_bin rfl rfl (e_rem rfl) ?_
                          refine S_nil ?_
                          refine S_on rfl rfl hb490 ?_
                          refine S_in ?_
                          refine S_bin rfl rfl (ev_eql ..) ?_
                          refine S_nil ?_
                          refine S_pickT (v := .bool _) rfl hb490 rfl ?_
                          refine S_nil ?_
                          refine .hd (and_t hb490) ?_
                          repeat (first | with_reducible exact WS.refl _ | refine WS.add ?_ rfl)
                        ·
                          refine S_off rfl rfl hb490 ?_
                          refine S_offD ?_
                          refine S_off rfl rfl hb490 ?_
                          refine S_offD ?_
                          refine S_off rfl rfl hb490 ?_
                          refine S_offD ?_
                          refine S_off rfl rfl hb490 ?_
                          refine S_offD ?_
                          refine S_off rfl rfl hb490 ?_
                          refine S_offD ?_
                          refine S_off rfl rfl hb490 ?_
                          refine S_offD ?_
                          refine S_pickF (v := .bool _) rfl hb490 rfl ?_
                          refine S_nil ?_
                          refine .hd (and_f hb490) ?_
                          repeat (first | with_reducible exact WS.refl _ | refine WS.add ?_ rfl)
                        refine S_nil ?_
                        refine C_if (b := (x421.Dirty && ((Int.tmod ((PM.get a485 x421.K).getD (0 : Int)) (2 : Int)) == (0 : Int)))) rfl hF (fun hb491 hF => ?_) (fun hb491 hF => ?_)
                        ·
                          refine C_reg (mdl []) ?_
                          refine S_m (v := .mp _) rfl ?_
                          refine S_faP rfl ty_fd_38_1 ty_sz_3 ?_
                          refine S_ldP (j := 0) ok rfl rfl rfl hi422 (p_one (v := .int .i64 x421.K) ty_ag_3 ty_sz_3 rfl) ?_
                          refine S_lkM (j := 1) (k0 := x421.K) (v0 := (0 : Int)) ok rfl hi8 rfl rfl ty_ma_36 ty_zr_3 (key_int ty_ki_3) ?_
                          refine S_bin rfl rfl (ev_add ..) ?_
                          refine S_putM (j := 1) (k0 := x421.K) (v0 := (IntKind.wrap .i64 (((PM.get a485 x421.K).getD (0 : Int)) + (1 : Int)))) ok rfl hi8 rfl rfl rfl ty_ma_36 (key_int ty_ki_3) (fun ok => ?_)
                          obtain ⟨a492, ha492, hF⟩ := F_let hF
                          rw [← ha492] at ok
                          rw [← ha492]
                          refine S_nil ?_
                          have hwo : WO [(i422, .cells [.int .i64 x421.Kind, .int .i64 x421.K, .int .i64 x421.V, .bool x421.Dirty]), mpO i8 vI vI a492, mpO i7 vI vI a489] [mpO i8 vI vI a492, mpO i7 vI vI a489] := (.drop (.keep (.keep .nil)))
                          exact ⟨(a476, a489, a492), hF, m474, f475, hC, (hwo.spec ok).1, WS.mk' (.cons (.refl _) (.cons (.refl _) (.cons (.refl _) (.cons (.refl _) (.cons (.refl _) (.cons (.refl _) (.cons (.refl _) .nil))))))) ok hwo⟩
                        ·
                          refine WP_skip ?_
                          have hwo : WO [(i422, .cells [.int .i64 x421.Kind, .int .i64 x421.K, .int .i64 x421.V, .bool x421.Dirty]), mpO i8 vI vI a485, mpO i7 vI vI a489] [mpO i8 vI vI a485, mpO i7 vI vI a489] := (.drop (.keep (.keep .nil)))
                          exact ⟨(a476, a489, a485), hF, m474, f475, hC, (hwo.spec ok).1, WS.mk' (.cons (.refl _) (.cons (.refl _) (.cons (.refl _) (.cons (.refl _) (.cons (.refl _) (.cons (.refl _) (.cons (.refl _) .nil))))))) ok hwo⟩
                  ·
                    refine C_seq ?_
                    refine C_reg (mdl []) ?_
                    refine S_bin rfl rfl (ev_eql ..) ?_
                    refine S_a (v := .bool _) rfl ?_
                    refine S_nil ?_
                    refine C_if (b := (x421.Kind == (3 : Int))) rfl hF (fun hb493 hF => ?_) (fun hb493 hF => ?_)
                    ·
                      refine C_seq ?_
                      refine C_reg (mdl []) ?_
                      refine S_m (v := .ptr _ _) rfl ?_
                      refine S_faP rfl ty_fd_38_1 ty_sz_3 ?_
                      refine S_ldP (j := 0) ok rfl rfl rfl hi422 (p_one (v := .int .i64 x421.K) ty_ag_3 ty_sz_3 rfl) ?_
                      refine I.S_pin (k := x421.K) ok hC rfl rfl hF (fun m494 f495 ok hC hF => ?_)
                      obtain ⟨a496, ha496, hF⟩ := F_let hF
                      rw [← ha496] at hC
                      refine S_nil ?_
                      refine C_if (b := (I.pinB x421.K a279)) rfl hF (fun hb497 hF => ?_) (fun hb497 hF => ?_)
                      ·
                        refine C_reg (mdl []) ?_
                        refine S_m (v := .mp _) rfl ?_
                        refine S_faP rfl ty_fd_38_1 ty_sz_3 ?_
                        refine S_ldP (j := 0) ok rfl rfl rfl hi422 (p_one (v := .int .i64 x421.K) ty_ag_3 ty_sz_3 rfl) ?_
                        refine S_lkM (j := 1) (k0 := x421.K) (v0 := (0 : Int)) ok rfl hi8 rfl rfl ty_ma_36 ty_zr_3 (key_int ty_ki_3) ?_
                        refine S_bin rfl rfl (ev_add ..) ?_
                        refine S_putM (j := 1) (k0 := x421.K) (v0 := (IntKind.wrap .i64 (((PM.get a282 x421.K).getD (0 : Int)) + (2 : Int)))) ok rfl hi8 rfl rfl rfl ty_ma_36 (key_int ty_ki_3) (fun ok => ?_)
                        obtain ⟨a498, ha498, hF⟩ := F_let hF
                        rw [← ha498] at ok
                        rw [← ha498]
                        refine S_nil ?_
                        have hwo : WO [(i422, .cells [.int .i64 x421.Kind, .int .i64 x421.K, .int .i64 x421.V, .bool x421.Dirty]), mpO i8 vI vI a498, mpO i7 vI vI a281] [mpO i8 vI vI a498, mpO i7 vI vI a281] := (.drop (.keep (.keep .nil)))
                        exact ⟨(a496, a281, a498), hF, m494, f495, hC, (hwo.spec ok).1, WS.mk' (.cons (.refl _) (.cons (.refl _) (.cons (.refl _) (.cons (.refl _) (.cons (.refl _) (.cons (.refl _) (.cons (.refl _) .nil))))))) ok hwo⟩
                      ·
                        refine WP_skip ?_
                        have hwo : WO [(i422, .cells [.int .i64 x421.Kind, .int .i64 x421.K, .int .i64 x421.V, .bool x421.Dirty]), mpO i8 vI vI a282, mpO i7 vI vI a281] [mpO i8 vI vI a282, mpO i7 vI vI a281] := (.drop (.keep (.keep .nil)))
                        exact ⟨(a496, a281, a282), hF, m494, f495, hC, (hwo.spec ok).1, WS.mk' (.cons (.refl _) (.cons (.refl _) (.cons (.refl _) (.cons (.refl _) (.cons (.refl _) (.cons (.refl _) (.cons (.refl _) .nil))))))) ok hwo⟩
                    ·
                      refine C_seq ?_
                      refine C_reg (mdl []) ?_
                      refine S_bin rfl rfl (ev_eql ..) ?_
                      refine S_a (v := .bool _) rfl ?_
                      refine S_nil ?_
                      refine C_if (b := (x421.Kind == (4 : Int))) rfl hF (fun hb499 hF => ?_) (fun hb499 hF => ?_)
                      ·
                        refine C_seq ?_
                        refine C_reg (mdl []) ?_
                        refine S_m (v := .ptr _ _) rfl ?_
                        refine S_faP rfl ty_fd_38_1 ty_sz_3 ?_
                        refine S_ldP (j := 0) ok rfl rfl rfl hi422 (p_one (v := .int .i64 x421.K) ty_ag_3 ty_sz_3 rfl) ?_
                        refine I.S_unpin (k := x421.K) ok hC rfl rfl hF (fun m500 f501 ok hC hF => ?_)
                        obtain ⟨a502, ha502, hF⟩ := F_let hF
                        rw [← ha502] at hC
                        refine S_nil ?_
                        refine C_if (b := (I.unpinB x421.K a279)) rfl hF (fun hb503 hF => ?_) (fun hb503 hF => ?_)
                        ·
                          refine C_reg (mdl []) ?_
                          refine S_m (v := .mp _) rfl ?_
                          refine S_faP rfl ty_fd_38_1 ty_sz_3 ?_
                          refine S_ldP (j := 0) ok rfl rfl rfl hi422 (p_one (v := .int .i64 x421.K) ty_ag_3 ty_sz_3 rfl) ?_
                          refine S_lkM (j := 1) (k0 := x421.K) (v0 := (0 : Int)) ok rfl hi8 rfl rfl ty_ma_36 ty_zr_3 (key_int ty_ki_3) ?_
                          refine S_bin rfl rfl (ev_sub ..) ?_
                          refine S_putM (j := 1) (k0 := x421.K) (v0 := (IntKind.wrap .i64 (((PM.get a282 x421.K).getD (0 : Int)) - (2 : Int)))) ok rfl hi8 rfl rfl rfl ty_ma_36 (key_int ty_ki_3) (fun ok => ?_)
                          obtain ⟨a504, ha504, hF⟩ := F_let hF
                          rw [← ha504] at ok
                          rw [← ha504]
                          refine S_nil ?_
                          have hwo : WO [(i422, .cells [.int .i64 x421.Kind, .int .i64 x421.K, .int .i64 x421.V, .bool x421.Dirty]), mpO i8 vI vI a504, mpO i7 vI vI a281] [mpO i8 vI vI a504, mpO i7 vI vI a281] := (.drop (.keep (.keep .nil)))
                          exact ⟨(a502, a281, a504), hF, m500, f501, hC, (hwo.spec ok).1, WS.mk' (.cons (.refl _) (.cons (.refl _) (.cons (.refl _) (.cons (.refl _) (.cons (.refl _) (.cons (.refl _) (.cons (.refl _) .nil))))))) ok hwo⟩
                        ·
                          refine WP_skip ?_
                          have hwo : WO [(i422, .cells [.int .i64 x421.Kind, .int .i64 x421.K, .int .i64 x421.V, .bool x421.Dirty]), mpO i8 vI vI a282, mpO i7 vI vI a281] [mpO i8 vI vI a282, mpO i7 vI vI a281] := (.drop (.keep (.keep .nil)))
                          exact ⟨(a502, a281, a282), hF, m500, f501, hC, (hwo.spec ok).1, WS.mk' (.cons (.refl _) (.cons (.refl _) (.cons (.refl _) (.cons (.refl _) (.cons (.refl _) (.cons (.refl _) (.cons (.refl _) .nil))))))) ok hwo⟩
                      ·
                        refine C_seq ?_
                        refine C_reg (mdl []) ?_
                        refine S_bin rfl rfl (ev_eql ..) ?_
                        refine S_a (v := .bool _) rfl ?_
                        refine S_nil ?_
                        refine C_if (b := (x421.Kind == (5 : Int))) rfl hF (fun hb505 hF => ?_) (fun hb505 hF => ?_)
                        ·
                          refine C_seq ?_
                          refine C_reg (mdl []) ?_
                          refine S_m (v := .ptr _ _) rfl ?_
                          refine S_faP rfl ty_fd_38_1 ty_sz_3 ?_
                          refine S_ldP (j := 0) ok rfl rfl rfl hi422 (p_one (v := .int .i64 x421.K) ty_ag_3 ty_sz_3 rfl) ?_
                          refine I.S_clean (k := x421.K) ok hC rfl rfl (fun m506 f507 ok hC => ?_)
                          obtain ⟨a508, ha508, hF⟩ := F_let hF
                          rw [← ha508] at hC
                          refine S_nil ?_
                          refine C_if (b := (I.cleanB x421.K a279)) rfl hF (fun hb509 hF => ?_) (fun hb509 hF => ?_)
                          ·
                            refine C_reg (mdl []) ?_
                            refine S_m (v := .mp _) rfl ?_
                            refine S_faP rfl ty_fd_38_1 ty_sz_3 ?_
                            refine S_ldP (j := 0) ok rfl rfl rfl hi422 (p_one (v := .int .i64 x421.K) ty_ag_3 ty_sz_3 rfl) ?_
                            refine S_lkM (j := 1) (k0 := x421.K) (v0 := (0 : Int)) ok rfl hi8 rfl rfl ty_ma_36 ty_zr_3 (key_int ty_ki_3) ?_
                            refine S_bin rfl rfl (ev_sub ..) ?_
                            refine S_putM (j := 1) (k0 := x421.K) (v0 := (IntKind.wrap .i64 (((PM.get a282 x421.K).getD (0 : Int)) - (1 : Int)))) ok rfl hi8 rfl rfl rfl ty_ma_36 (key_int ty_ki_3) (fun ok => ?_)
                            obtain ⟨a510, ha510, hF⟩ := F_let hF
                            rw [← ha510] at ok
                            rw [← ha510]
                            refine S_nil ?_
                            have hwo : WO [(i422, .cells [.int .i64 x421.Kind, .int .i64 x421.K, .int .i64 x421.V, .bool x421.Dirty]), mpO i8 vI vI a510, mpO i7 vI vI a281] [mpO i8 vI vI a510, mpO i7 vI vI a281] := (.drop (.keep (.keep .nil)))
                            exact ⟨(a508, a281, a510), hF, m506, f507, hC, (hwo.spec ok).1, WS.mk' (.cons (.refl _) (.cons (.refl _) (.cons (.refl _) (.cons (.refl _) (.cons (.refl _) (.cons (.refl _) (.cons (.refl _) .nil))))))) ok hwo⟩
                          ·
                            refine WP_skip ?_
                            have hwo : WO [(i422, .cells [.int .i64 x421.Kind, .int .i64 x421.K, .int .i64 x421.V, .bool x421.Dirty]), mpO i8 vI vI a282, mpO i7 vI vI a281] [mpO i8 vI vI a282, mpO i7 vI vI a281] := (.drop (.keep (.keep .nil)))
                            exact ⟨(a508, a281, a282), hF, m506, f507, hC, (hwo.spec ok).1, WS.mk' (.cons (.refl _) (.cons (.refl _) (.cons (.refl _) (.cons (.refl _) (.cons (.refl _) (.cons (.refl _) (.cons (.refl _) .nil))))))) ok hwo⟩
                        ·
                          refine WP_skip ?_
                          have hwo : WO [(i422, .cells [.int .i64 x421.Kind, .int .i64 x421.K, .int .i64 x421.V, .bool x421.Dirty]), mpO i8 vI vI a282, mpO i7 vI vI a281] [mpO i8 vI vI a282, mpO i7 vI vI a281] := (.drop (.keep (.keep .nil)))
                          exact ⟨(a279, a281, a282), hF, m278, f280, hC, (hwo.spec ok).1, WS.mk' (.cons (.refl _) (.cons (.refl _) (.cons (.refl _) (.cons (.refl _) (.cons (.refl _) (.cons (.refl _) (.cons (.refl _) .nil))))))) ok hwo⟩
                ·
                  rintro ⟨a465, a467, a468⟩ s' hF ⟨m464, f466, hC, ok, hws⟩
                  refine WP_ws hws ?_
                  clear hws s'
                  refine C_seq ?_
                  refine C_reg (mdl []) ?_
                  refine S_mkM vI vB ok ?_
                  intro i511 hi511 ok
                  refine S_a (v := .mp _) rfl ?_
                  refine S_nil ?_
                  refine C_join hF (fun (a517 : (PM Int Bool)) s' => OK m464 [mpO i511 vI vB a517, mpO i8 vI vI a468, mpO i7 vI vI a467] ∧ WS s' ⟨mkSl 208 [(5, .int .i64 (IntKind.wrap .i64 ((1 : Int) + (IntKind.wrap .i64 (Int.tmod (IntKind.wrap .u64 p0) (20 : Int)))))), (6, .ptr c2 0), (8, .mp i7), (9, .mp i8), (15, .mp i511), (44, .sl 4 (List.map c_T_lecternlaw16_Op p1) 0), (45, .int .i64 (p1.length : Int)), (46, .int .i64 a283)], Hp m464 [mpO i511 vI vB a517, mpO i8 vI vI a468, mpO i7 vI vI a467]⟩) (fun J518 hF => ?_) ?_
                  ·
                    refine C_seq ?_
                    refine C_reg (mdl []) ?_
                    refine S_m (v := .ptr _ _) rfl ?_
                    refine I.S_keys ok hC rfl hF (fun hF => ?_)
                    refine S_lenL rfl ty_sl_22 ?_
                    refine S_m (v := .int _ _) rfl ?_
                    refine S_nil ?_
                    refine WP_block ?_
                    refine C_loop (σ := (PM Int Bool) × Int) hF (fun (v : (PM Int Bool) × Int) s' => match v with | (a519, a520) => OK m464 [mpO i511 vI vB a519, mpO i8 vI vI a468, mpO i7 vI vI a467] ∧ WS s' ⟨mkSl 208 [(5, .int .i64 (IntKind.wrap .i64 ((1 : Int) + (IntKind.wrap .i64 (Int.tmod (IntKind.wrap .u64 p0) (20 : Int)))))), (6, .ptr c2 0), (8, .mp i7), (9, .mp i8), (15, .mp i511), (44, .sl 4 (List.map c_T_lecternlaw16_Op p1) 0), (45, .int .i64 (p1.length : Int)), (46, .int .i64 a283), (145, .sl 1 (List.map c_i64 (I.keysL true a465)) 0), (146, .int .i64 ((I.keysL true a465).length : Int)), (147, .int .i64 a520)], Hp m464 [mpO i511 vI vB a519, mpO i8 vI vI a468, mpO i7 vI vI a467]⟩) ?_ ?_
                    ·
                      have hwo : WO [mpO i511 vI vB (pm0 : PM Int Bool), mpO i8 vI vI a468, mpO i7 vI vI a467] [mpO i511 vI vB (pm0 : PM Int Bool), mpO i8 vI vI a468, mpO i7 vI vI a467] := (.keep (.keep (.keep .nil)))
                      exact ⟨(hwo.spec ok).1, WS.mk' (.cons (.refl _) (.cons (.refl _) (.cons (.refl _) (.cons (.refl _) (.cons (.refl _) (.cons (.refl _) (.cons (.refl _) (.cons (.refl _) (.cons (.refl _) (.cons (.refl _) (.cons (.refl _) .nil))))))))))) ok hwo⟩
                    ·
                      rintro G521 hG522 rec523 ⟨a519, a520⟩ s' ih524 hF ⟨ok, hws⟩
                      refine WP_ws hws ?_
                      clear hws s'
                      rw [F_lecternlaw16_CacheKeeps_l1] at hF
                      refine C_seq ?_
                      refine C_reg (mdl []) ?_
                      refine S_bin rfl rfl (ev_lss ..) ?_
                      refine S_nil ?_
                      refine C_seq ?_
                      refine C_if (b := (decide (a520 < ((I.keysL true a465).length : Int)))) rfl hF (fun hb525 hF => ?_) (fun hb525 hF => ?_)
                      ·
                        refine WP_skip ?_
                        refine C_seq ?_
                        refine WP_block ?_
                        refine C_seq ?_
                        refine C_reg (mdl []) ?_
                        refine S_ix rfl rfl ty_sl_22 ty_sz_3 hF (fun x526 _ hF => ?_)
                        refine S_ldQ rfl (p_one ty_ag_3 ty_sz_3 rfl) ?_
                        refine S_a (v := .int _ _) rfl ?_
                        refine S_nil ?_
                        refine C_reg (mdl []) ?_
                        refine S_m (v := .mp _) rfl ?_
                        refine S_m (v := .int _ _) rfl ?_
                        refine S_putM (j := 0) (k0 := x526) (v0 := true) ok rfl hi511 rfl rfl rfl ty_ma_41 (key_int ty_ki_3) (fun ok => ?_)
                        obtain ⟨a527, ha527, hF⟩ := F_let hF
                        rw [← ha527] at ok
                        rw [← ha527]
                        refine S_nil ?_
                        refine C_reg (mdl []) ?_
                        refine S_bin rfl rfl (ev_add ..) ?_
                        refine S_m (v := .int _ _) rfl ?_
                        refine S_nil ?_
                        refine ih524 (a527, (IntKind.wrap .i64 (a520 + (1 : Int)))) _ hF ?_
                        have hwo : WO [mpO i511 vI vB a527, mpO i8 vI vI a468, mpO i7 vI vI a467] [mpO i511 vI vB a527, mpO i8 vI vI a468, mpO i7 vI vI a467] := (.keep (.keep (.keep .nil)))
                        exact ⟨(hwo.spec ok).1, WS.mk' (.cons (.refl _) (.cons (.refl _) (.cons (.refl _) (.cons (.refl _) (.cons (.refl _) (.cons (.refl _) (.cons (.refl _) (.cons (.refl _) (.cons (.refl _) (.cons (.refl _) (.cons (.refl _) .nil))))))))))) ok hwo⟩
                      ·
                        refine WP_exit ?_
                        simp only [Exit.sel, Exit.blk, if_true, if_false, reduceIte, Nat.reduceEqDiff, Nat.succ_ne_zero, Nat.zero_ne_one, Nat.one_ne_zero]
                        replace hF := hG522 _ (F_some hF)
                        have hwo : WO [mpO i511 vI vB a519, mpO i8 vI vI a468, mpO i7 vI vI a467] [mpO i511 vI vB a519, mpO i8 vI vI a468, mpO i7 vI vI a467] := (.keep (.keep (.keep .nil)))
                        exact ⟨a519, hF, (hwo.spec ok).1, WS.mk' (.cons (.refl _) (.cons (.refl _) (.cons (.refl _) (.cons (.refl _) (.cons (.refl _) (.cons (.refl _) (.cons (.refl _) (.cons (.refl _) .nil)))))))) ok hwo⟩
                  ·
                    rintro a517 s' hF ⟨ok, hws⟩
                    refine WP_ws hws ?_
                    clear hws s'
                    refine C_join hF (fun (_ : Unit) s' => OK m464 [mpO i511 vI vB a517, mpO i8 vI vI a468, mpO i7 vI vI a467] ∧ WS s' ⟨mkSl 208 [(5, .int .i64 (IntKind.wrap .i64 ((1 : Int) + (IntKind.wrap .i64 (Int.tmod (IntKind.wrap .u64 p0) (20 : Int)))))), (6, .ptr c2 0), (8, .mp i7), (9, .mp i8), (15, .mp i511), (44, .sl 4 (List.map c_T_lecternlaw16_Op p1) 0), (45, .int .i64 (p1.length : Int)), (46, .int .i64 a283)], Hp m464 [mpO i511 vI vB a517, mpO i8 vI vI a468, mpO i7 vI vI a467]⟩) (fun J539 hF => ?_) ?_
                    ·
                      refine C_seq ?_
                      refine C_reg (mdl []) ?_
                      refine S_m (v := .mp _) rfl ?_
                      refine S_rngM (j := 1) ok rfl hi8 rfl (by rw [ty_ma_36]; rfl) ?_
                      intro i540 hi540 ok
                      refine S_nil ?_
                      refine WP_block ?_
                      refine C_mloop (m := a468) hF (fun (a541 : (List Nat)) s' => OK m464 [(i540, .miter i8 (PM.clk a468) a541 (PM.clk a468)), mpO i511 vI vB a517, mpO i8 vI vI a468, mpO i7 vI vI a467] ∧ WS s' ⟨mkSl 208 [(5, .int .i64 (IntKind.wrap .i64 ((1 : Int) + (IntKind.wrap .i64 (Int.tmod (IntKind.wrap .u64 p0) (20 : Int)))))), (6, .ptr c2 0), (8, .mp i7), (9, .mp i8), (15, .mp i511), (44, .sl 4 (List.map c_T_lecternlaw16_Op p1) 0), (45, .int .i64 (p1.length : Int)), (46, .int .i64 a283), (155, .ptr i540 0)], Hp m464 [(i540, .miter i8 (PM.clk a468) a541 (PM.clk a468)), mpO i511 vI vB a517, mpO i8 vI vI a468, mpO i7 vI vI a467]⟩) ?_ ?_
                      ·
                        have hwo : WO [(i540, .miter i8 (PM.clk a468) ([] : List Nat) (PM.clk a468)), mpO i511 vI vB a517, mpO i8 vI vI a468, mpO i7 vI vI a467] [(i540, .miter i8 (PM.clk a468) ([] : List Nat) (PM.clk a468)), mpO i511 vI vB a517, mpO i8 vI vI a468, mpO i7 vI vI a467] := (.keep (.keep (.keep (.keep .nil))))
                        exact ⟨(hwo.spec ok).1, WS.mk' (.cons (.refl _) (.cons (.refl _) (.cons (.refl _) (.cons (.refl _) (.cons (.refl _) (.cons (.refl _) (.cons (.refl _) (.cons (.refl _) (.cons (.refl _) .nil))))))))) ok hwo⟩
                      ·
                        rintro hw542 ha543 hK544 a541 s' ih545 ⟨ok, hws⟩
                        refine WP_ws hws ?_
                        clear hws s'
                        refine C_seq ?_
                        refine C_reg (mdl []) ?_
                        refine S_nxtM (j2 := 0) (j := 2) ok rfl hi540 rfl hi8 rfl hw542 (fun b546 k547 v548 hm549 hn550 ok => ?_) ?_
                        ·
                          have hF := ha543 _ _ _ hm549
                          refine S_ext rfl rfl ?_
                          refine S_nil ?_
                          refine C_seq ?_
                          refine C_tt rfl rfl ?_
                          refine WP_skip ?_
                          refine WP_block ?_
                          refine C_seq ?_
                          refine C_reg (mdl []) ?_
                          refine S_entry (j2 := 0) (j := 2) ok rfl hi540 rfl hi8 rfl hw542 hm549 ?_
                          refine S_ext rfl rfl ?_
                          refine S_ext rfl rfl ?_
                          refine S_a (v := .int _ _) rfl ?_
                          refine S_a (v := .int _ _) rfl ?_
                          refine S_nil ?_
                          refine C_seq ?_
                          refine C_reg (mdl []) ?_
                          refine S_m (v := .int _ _) rfl ?_
                          refine S_bin rfl rfl (ev_lss ..) ?_
                          refine S_m (v := .bool _) rfl ?_
                          refine S_two (b := (decide (v548 < (0 : Int)))) 9 172 (.bool ((decide (v548 < (0 : Int))) || ((decide ((0 : Int) < v548)) && (!((PM.get a517 k547).getD false))))) (fun hb551 => ?_) (fun hb551 => ?_) ?_
                          ·
                            refine S_off rfl rfl hb551 ?_
                            refine S_offD ?_
                            refine S_off rfl rfl hb551 ?_
                            refine S_offD ?_
                            refine S_off rfl rfl hb551 ?_
                            refine S_offD ?_
                            refine S_off2 rfl rfl ?_
                            refine S_offD ?_
                            refine S_off2 rfl rfl ?_
                            refine S_offD ?_
                            refine S_off2 rfl rfl ?_
                            refine S_offD ?_
                            refine S_off2 rfl rfl ?_
                            refine S_offD ?_
                            refine S_off rfl rfl hb551 ?_
                            refine S_offD ?_
                            refine S_pickT (v := .bool _) rfl hb551 rfl ?_
                            refine S_nil ?_
                            refine .hd (or_t hb551) ?_
                            repeat (first | with_reducible exact WS.refl _ | refine WS.add ?_ rfl)
                          ·
                            refine S_on rfl rfl hb551 ?_
                            refine S_in ?_
                            refine S_m (v := .int _ _) rfl ?_
                            refine S_nil ?_
                            refine S_on rfl rfl hb551 ?_
                            refine S_in ?_
                            refine S_bin rfl rfl (ev_gtr ..) ?_
                            refine S_nil ?_
                            refine S_on rfl rfl hb551 ?_
                            refine S_in ?_
                            refine S_m (v := .bool _) rfl ?_
                            refine S_nil ?_
                            refine S_two (b := (decide ((0 : Int) < v548))) 5 171 (.bool ((decide ((0 : Int) < v548)) && (!((PM.get a517 k547).getD false)))) (fun hb553 => ?_) (fun hb553 => ?_) ?_
                            ·
                              refine S_on rfl rfl hb553 ?_
                              refine S_in ?_
                              refine S_m (v := .mp _) rfl ?_
                              refine S_nil ?_
                              refine S_on rfl rfl hb553 ?_
                              refine S_in ?_
                              refine S_m (v := .int _ _) rfl ?_
                              refine S_nil ?_
                              refine S_on rfl rfl hb553 ?_
                              refine S_in ?_
                              refine S_lkM (j := 1) (k0 := k547) (v0 := false) ok rfl hi511 rfl rfl ty_ma_41 ty_zr_4 (key_int ty_ki_3) ?_
                              refine S_nil ?_
                              refine S_on rfl rfl hb553 ?_
                              refine S_in ?_
                              refine S_un rfl (ev_not _) ?_
                              refine S_nil ?_
                              refine S_on rfl rfl hb551 ?_
                              refine S_in ?_
                              refine S_pickT (v := .bool _) rfl hb553 rfl ?_
                              refine S_nil ?_
                              refine S_nil ?_
                              refine .hd (and_t hb553) ?_
                              repeat (first | with_reducible exact WS.refl _ | refine WS.add ?_ rfl)
                            ·
                              refine S_off rfl rfl hb553 ?_
                              refine S_offD ?_
                              refine S_off rfl rfl hb553 ?_
                              refine S_offD ?_
                              refine S_off rfl rfl hb553 ?_
                              refine S_offD ?_
                              refine S_off rfl rfl hb553 ?_
                              refine S_offD ?_
                              refine S_on rfl rfl hb551 ?_
                              refine S_in ?_
                              refine S_pickF (v := .bool _) rfl hb553 rfl ?_
                              refine S_nil ?_
                              refine S_nil ?_
                              refine .hd (and_f hb553) ?_
                              repeat (first | with_reducible exact WS.refl _ | refine WS.add ?_ rfl)
                            refine S_pickF (v := .bool _) rfl hb551 rfl ?_
                            refine S_nil ?_
                            refine .hd (or_f hb551) ?_
                            repeat (first | with_reducible exact WS.refl _ | refine WS.add ?_ rfl)
                          refine S_nil ?_
                          refine C_if (b := ((decide (v548 < (0 : Int))) || ((decide ((0 : Int) < v548)) && (!((PM.get a517 k547).getD false))))) rfl hF (fun hb554 hF => ?_) (fun hb554 hF => ?_)
                          ·
                            refine C_seq ?_
                            refine C_reg (mdl []) ?_
                            refine S_a (v := .bool _) rfl ?_
                            refine S_nil ?_
                            refine WP_ret ?_
                            exact F_none hF
                          ·
                            refine WP_skip ?_
                            refine ih545 _ _ _ hm549 hn550 _ ?_
                            have hwo : WO [(i540, .miter i8 (PM.clk a468) (a541 ++ [b546]) (PM.clk a468)), mpO i511 vI vB a517, mpO i8 vI vI a468, mpO i7 vI vI a467] [(i540, .miter i8 (PM.clk a468) (a541 ++ [b546]) (PM.clk a468)), mpO i511 vI vB a517, mpO i8 vI vI a468, mpO i7 vI vI a467] := (.keep (.keep (.keep (.keep .nil))))
                            exact ⟨(hwo.spec ok).1, WS.mk' (.cons (.refl _) (.cons (.refl _) (.cons (.refl _) (.cons (.refl _) (.cons (.refl _) (.cons (.refl _) (.cons (.refl _) (.cons (.refl _) (.cons (.refl _) .nil))))))))) ok hwo⟩
                        ·
                          have hF := hK544
                          refine S_ext rfl rfl ?_
                          refine S_nil ?_
                          refine C_seq ?_
                          refine C_ff rfl rfl ?_
                          refine WP_exit ?_
                          simp only [Exit.sel, Exit.blk, if_true, if_false, reduceIte, Nat.reduceEqDiff, Nat.succ_ne_zero, Nat.zero_ne_one, Nat.one_ne_zero]
                          have hwo : WO [(i540, .miter i8 (PM.clk a468) a541 (PM.clk a468)), mpO i511 vI vB a517, mpO i8 vI vI a468, mpO i7 vI vI a467] [mpO i511 vI vB a517, mpO i8 vI vI a468, mpO i7 vI vI a467] := (.drop (.keep (.keep (.keep .nil))))
                          exact ⟨(), hF, (hwo.spec ok).1, WS.mk' (.cons (.refl _) (.cons (.refl _) (.cons (.refl _) (.cons (.refl _) (.cons (.refl _) (.cons (.refl _) (.cons (.refl _) (.cons (.refl _) .nil)))))))) ok hwo⟩
                    ·
                      rintro ⟨⟩ s' hF ⟨ok, hws⟩
                      refine WP_ws hws ?_
                      clear hws s'
                      refine C_seq ?_
                      refine C_reg (mdl []) ?_
                      refine S_m (v := .ptr _ _) rfl ?_
                      refine I.S_clen ok hC rfl ?_
                      refine S_m (v := .int _ _) rfl ?_
                      refine S_bin rfl rfl (ev_gtr ..) ?_
                      refine S_m (v := .bool _) rfl ?_
                      refine S_twoJ 6 183 hF (fun J556 hb555 hF => ?_) (fun J556 hb555 hF => ?_) (fun v557 hF => ?_)
                      ·
                        refine S_off rfl rfl hb555 ?_
                        refine S_offD ?_
                        refine S_off rfl rfl hb555 ?_
                        refine S_offD ?_
                        refine S_off rfl rfl hb555 ?_
                        refine S_offD ?_
                        refine S_off rfl rfl hb555 ?_
                        refine S_offD ?_
                        refine S_off rfl rfl hb555 ?_
                        refine S_offD ?_
                        refine S_pickT (v := .bool _) rfl hb555 rfl ?_
                        refine S_nil ?_
                        refine ⟨_, hF, .hd (.refl _) ?_⟩
                        repeat (first | with_reducible exact WS.refl _ | refine WS.add ?_ rfl)
                      ·
                        refine S_on rfl rfl hb555 ?_
                        refine S_in ?_
                        refine S_m (v := .mp _) rfl ?_
                        refine S_nil ?_
                        refine S_on rfl rfl hb555 ?_
                        refine S_in ?_
                        refine S_lenMp (j := 0) ok rfl hi511 rfl (by rw [ty_ma_41]; rfl) ?_
                        refine S_nil ?_
                        refine S_on rfl rfl hb555 ?_
                        refine S_in ?_
                        refine S_m (v := .ptr _ _) rfl ?_
                        refine S_nil ?_
                        refine S_on rfl rfl hb555 ?_
                        refine S_in ?_
                        refine I.S_clen ok hC rfl ?_
                        refine S_nil ?_
                        refine S_on rfl rfl hb555 ?_
                        refine S_in ?_
                        refine S_bin rfl rfl (ev_neq ..) ?_
                        refine S_nil ?_
                        refine S_pickF (v := .bool _) rfl hb555 rfl ?_
                        refine S_nil ?_
                        refine ⟨_, hF, .hd (.refl _) ?_⟩
                        repeat (first | with_reducible exact WS.refl _ | refine WS.add ?_ rfl)
                      ·
                        refine S_nil ?_
                        refine C_if (b := v557) rfl hF (fun hb558 hF => ?_) (fun hb558 hF => ?_)
                        ·
                          refine C_seq ?_
                          refine C_reg (mdl []) ?_
                          refine S_a (v := .bool _) rfl ?_
                          refine S_nil ?_
                          refine WP_ret ?_
                          replace hF := hG285 _ (F_some hF)
                          repeat (first | with_reducible refine Exit.sel_ret ?_ | with_reducible refine Exit.blk_ret ?_)
                          refine C_ret (fn := Try.f4) rfl (.tmp (v := .bool false) rfl .nil) ?_
                          exact ⟨_, _, (.refl _), WH.refl _, _, F_some hF, rfl⟩
                        ·
                          refine WP_skip ?_
                          have hwo : WO [mpO i511 vI vB a517, mpO i8 vI vI a468, mpO i7 vI vI a467] [mpO i8 vI vI a468, mpO i7 vI vI a467] := (.drop (.keep (.keep .nil)))
                          exact ⟨(a465, a467, a468), hF, m464, f466, hC, (hwo.spec ok).1, WS.mk' (.cons (.refl _) (.cons (.refl _) (.cons (.refl _) (.cons (.refl _) (.cons (.refl _) (.cons (.refl _) (.cons (.refl _) .nil))))))) ok hwo⟩
            ·
              rintro ⟨a416, a418, a419⟩ s' hF ⟨m415, f417, hC, ok, hws⟩
              refine WP_ws hws ?_
              clear hws s'
              refine C_reg (mdl []) ?_
              refine S_bin rfl rfl (ev_add ..) ?_
              refine S_m (v := .int _ _) rfl ?_
              refine S_nil ?_
              refine ih287 (a416, a418, a419, (IntKind.wrap .i64 (a283 + (1 : Int)))) _ hF ?_
              have hwo : WO [mpO i8 vI vI a419, mpO i7 vI vI a418] [mpO i8 vI vI a419, mpO i7 vI vI a418] := (.keep (.keep .nil))
              exact ⟨m415, f417, hC, (hwo.spec ok).1, WS.mk' (.cons (.refl _) (.cons (.refl _) (.cons (.refl _) (.cons (.refl _) (.cons (.refl _) (.cons (.refl _) (.cons (.refl _) .nil))))))) ok hwo⟩
          ·
            refine WP_exit ?_
            simp only [Exit.sel, Exit.blk, if_true, if_false, reduceIte, Nat.reduceEqDiff, Nat.succ_ne_zero, Nat.zero_ne_one, Nat.one_ne_zero]
            replace hF := hG285 _ (F_some hF)
            have hwo : WO [mpO i8 vI vI a282, mpO i7 vI vI a281] [mpO i7 vI vI a281] := (.drop (.keep .nil))
            exact ⟨(a279, a281), hF, m278, f280, hC, (hwo.spec ok).1, WS.mk' (.cons (.refl _) (.cons (.refl _) .nil)) ok hwo⟩
      ·
        rintro ⟨a274, a276⟩ s' hF ⟨m273, f275, hC, ok, hws⟩
        refine WP_ws hws ?_
        clear hws s'
        refine C_join hF (fun (a571 : (List I.Ent)) s' => ∃ (m570 : Heap) (f572 : List Nat), I.CaL m570 c2 f572 (IntKind.wrap .i64 ((1 : Int) + (IntKind.wrap .i64 (Int.tmod (IntKind.wrap .u64 p0) (20 : Int))))) a571 ∧ OK m570 [] ∧ WS s' ⟨mkSl 208 [], Hp m570 []⟩) (fun J573 hF => ?_) ?_
        ·
          refine C_seq ?_
          refine C_reg (mdl []) ?_
          refine S_m (v := .ptr _ _) rfl ?_
          refine I.S_keys ok hC rfl hF (fun hF => ?_)
          refine S_lenL rfl ty_sl_22 ?_
          refine S_m (v := .int _ _) rfl ?_
          refine S_nil ?_
          refine WP_block ?_
          refine C_loop (σ := (List I.Ent) × Int) hF (fun (v : (List I.Ent) × Int) s' => match v with | (a575, a577) => ∃ (m574 : Heap) (f576 : List Nat), I.CaL m574 c2 f576 (IntKind.wrap .i64 ((1 : Int) + (IntKind.wrap .i64 (Int.tmod (IntKind.wrap .u64 p0) (20 : Int))))) a575 ∧ OK m574 [mpO i7 vI vI a276] ∧ WS s' ⟨mkSl 208 [(6, .ptr c2 0), (8, .mp i7), (186, .sl 1 (List.map c_i64 (I.keysL true a274)) 0), (187, .int .i64 ((I.keysL true a274).length : Int)), (188, .int .i64 a577)], Hp m574 [mpO i7 vI vI a276]⟩) ?_ ?_
          ·
            have hwo : WO [mpO i7 vI vI a276] [mpO i7 vI vI a276] := (.keep .nil)
            exact ⟨m273, f275, hC, (hwo.spec ok).1, WS.mk' (.cons (.refl _) (.cons (.refl _) (.cons (.refl _) (.cons (.refl _) (.cons (.refl _) .nil))))) ok hwo⟩
          ·
            rintro G578 hG579 rec580 ⟨a575, a577⟩ s' ih581 hF ⟨m574, f576, hC, ok, hws⟩
            refine WP_ws hws ?_
            clear hws s'
            rw [F_lecternlaw16_CacheKeeps_l2] at hF
            refine C_seq ?_
            refine C_reg (mdl []) ?_
            refine S_bin rfl rfl (ev_lss ..) ?_
            refine S_nil ?_
            refine C_seq ?_
            refine C_if (b := (decide (a577 < ((I.keysL true a274).length : Int)))) rfl hF (fun hb582 hF => ?_) (fun hb582 hF => ?_)
            ·
              refine WP_skip ?_
              refine C_seq ?_
              refine WP_block ?_
              refine C_seq ?_
              refine C_reg (mdl []) ?_
              refine S_ix rfl rfl ty_sl_22 ty_sz_3 hF (fun x583 _ hF => ?_)
              refine S_ldQ rfl (p_one ty_ag_3 ty_sz_3 rfl) ?_
              refine S_a (v := .int _ _) rfl ?_
              refine S_nil ?_
              refine C_seq ?_
              refine C_reg (mdl []) ?_
              refine S_m (v := .ptr _ _) rfl ?_
              refine S_m (v := .int _ _) rfl ?_
              refine I.S_get (k := x583) ok hC rfl rfl (fun m584 f585 ok hC => ?_)
              obtain ⟨a586, ha586, hF⟩ := F_let hF
              rw [← ha586] at hC
              refine S_m (v := .tup _) rfl ?_
              refine S_ext rfl rfl ?_
              refine S_ext rfl rfl ?_
              refine S_a (v := .int _ _) rfl ?_
              refine S_a (v := .bool _) rfl ?_
              refine S_nil ?_
              refine C_seq ?_
              refine C_reg (mdl []) ?_
              refine S_m (v := .bool _) rfl ?_
              refine S_un rfl (ev_not _) ?_
              refine S_m (v := .bool _) rfl ?_
              refine S_two (b := (!(I.fnd x583 a575).isSome)) 6 206 (.bool ((!(I.fnd x583 a575).isSome) || ((((I.fnd x583 a575).map I.Ent.val).getD I.vz) != ((PM.get a276 x583).getD (0 : Int))))) (fun hb587 => ?_) (fun hb587 => ?_) ?_
              ·
                refine S_off rfl rfl hb587 ?_
                refine S_offD ?_
                refine S_off rfl rfl hb587 ?_
                refine S_offD ?_
                refine S_off rfl rfl hb587 ?_
                refine S_offD ?_
                refine S_off rfl rfl hb587 ?_
                refine S_offD ?_
                refine S_off rfl rfl hb587 ?_
                refine S_offD ?_
                refine S_pickT (v := .bool _) rfl hb587 rfl ?_
                refine S_nil ?_
                refine .hd (or_t hb587) ?_
                repeat (first | with_reducible exact WS.refl _ | refine WS.add ?_ rfl)
              ·
                refine S_on rfl rfl hb587 ?_
                refine S_in ?_
                refine S_m (v := .int _ _) rfl ?_
                refine S_nil ?_
                refine S_on rfl rfl hb587 ?_
                refine S_in ?_
                refine S_m (v := .mp _) rfl ?_
                refine S_nil ?_
                refine S_on rfl rfl hb587 ?_
                refine S_in ?_
                refine S_m (v := .int _ _) rfl ?_
                refine S_nil ?_
                refine S_on rfl rfl hb587 ?_
                refine S_in ?_
                refine S_lkM (j := 0) (k0 := x583) (v0 := (0 : Int)) ok rfl hi7 rfl rfl ty_ma_36 ty_zr_3 (key_int ty_ki_3) ?_
                refine S_nil ?_
                refine S_on rfl rfl hb587 ?_
                refine S_in ?_
                refine S_bin rfl rfl (ev_neq ..) ?_
                refine S_nil ?_
                refine S_pickF (v := .bool _) rfl hb587 rfl ?_
                refine S_nil ?_
                refine .hd (or_f hb587) ?_
                repeat (first | with_reducible exact WS.refl _ | refine WS.add ?_ rfl)
              refine S_nil ?_
              refine C_if (b := ((!(I.fnd x583 a575).isSome) || ((((I.fnd x583 a575).map I.Ent.val).getD I.vz) != ((PM.get a276 x583).getD (0 : Int))))) rfl hF (fun hb588 hF => ?_) (fun hb588 hF => ?_)
              ·
                refine C_seq ?_
                refine C_reg (mdl []) ?_
                refine S_a (v := .bool _) rfl ?_
                refine S_nil ?_
                refine WP_ret ?_
                replace hF := hG579 _ (F_some hF)
                repeat (first | with_reducible refine Exit.sel_ret ?_ | with_reducible refine Exit.blk_ret ?_)
                refine C_ret (fn := Try.f4) rfl (.tmp (v := .bool false) rfl .nil) ?_
                exact ⟨_, _, (.refl _), WH.refl _, _, F_some hF, rfl⟩
              ·
                refine WP_skip ?_
                refine C_reg (mdl []) ?_
                refine S_bin rfl rfl (ev_add ..) ?_
                refine S_m (v := .int _ _) rfl ?_
                refine S_nil ?_
                refine ih581 (a586, (IntKind.wrap .i64 (a577 + (1 : Int)))) _ hF ?_
                have hwo : WO [mpO i7 vI vI a276] [mpO i7 vI vI a276] := (.keep .nil)
                exact ⟨m584, f585, hC, (hwo.spec ok).1, WS.mk' (.cons (.refl _) (.cons (.refl _) (.cons (.refl _) (.cons (.refl _) (.cons (.refl _) .nil))))) ok hwo⟩
            ·
              refine WP_exit ?_
              simp only [Exit.sel, Exit.blk, if_true, if_false, reduceIte, Nat.reduceEqDiff, Nat.succ_ne_zero, Nat.zero_ne_one, Nat.one_ne_zero]
              replace hF := hG579 _ (F_some hF)
              have hwo : WO [mpO i7 vI vI a276] [] := (.drop .nil)
              exact ⟨a575, hF, m574, f576, hC, (hwo.spec ok).1, WS.mk' .nil ok hwo⟩
        ·
          rintro a571 s' hF ⟨m570, f572, hC, ok, hws⟩
          refine WP_ws hws ?_
          clear hws s'
          refine C_seq ?_
          refine C_reg (mdl []) ?_
          refine S_a (v := .bool _) rfl ?_
          refine S_nil ?_
          refine WP_ret ?_
          repeat (first | with_reducible refine Exit.sel_ret ?_ | with_reducible refine Exit.blk_ret ?_)
          refine C_ret (fn := Try.f4) rfl (.tmp (v := .bool true) rfl .nil) ?_
          exact ⟨_, _, (.refl _), WH.refl _, _, F_some hF, rfl⟩
  ·
    refine S_m (v := .tup _) rfl ?_
    refine S_ext rfl rfl ?_
    refine S_ext rfl rfl ?_
    refine S_a (v := .nilp) rfl ?_
    refine S_a (v := .int _ _) rfl ?_
    refine S_nil ?_
    refine C_seq ?_
    refine C_seq ?_
    refine C_reg (mdl []) ?_
    refine S_m (v := .nilp) rfl ?_
    refine S_bin rfl rfl (e_nn (by rw [ty_pt_25]; rfl)) ?_
    refine S_m (v := .bool _) rfl ?_
    refine S_off rfl rfl rfl ?_
    refine S_offD ?_
    refine S_off rfl rfl rfl ?_
    refine S_offD ?_
    refine S_pickT (v := .bool _) rfl rfl rfl ?_
    refine S_nil ?_
    refine C_tt rfl rfl ?_
    refine C_seq ?_
    refine C_reg (mdl []) ?_
    refine S_a (v := .bool _) rfl ?_
    refine S_nil ?_
    refine WP_ret ?_
    repeat (first | with_reducible refine Exit.sel_ret ?_ | with_reducible refine Exit.blk_ret ?_)
    refine C_ret (fn := Try.f4) rfl (.tmp (v := .bool false) rfl .nil) ?_
    exact ⟨_, _, (.refl _), WH.refl _, _, F_some hF, rfl⟩
end Go.Proofs.Ytcjndiagbdkikaa
