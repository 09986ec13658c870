/- The walks. No condition. -/
import Derived.Test.YtggnjahdjmncaaaDoorWk1
set_option linter.unusedVariables false
set_option linter.unusedSimpArgs false
set_option maxRecDepth 20000
set_option maxHeartbeats 8000000
namespace Go.Proofs.YtggnjahdjmncaaaDoor
theorem F_lecternref08_Show_w (p0 : T_trail_Trail) {G : (List UInt8) → Prop} (h : Heap) (hF : OptP (F_lecternref08_Show p0) G) : CallsA Tryd.prog 14 [.agg (c_T_trail_Trail p0)] h fun d h' => ∃ r, G r ∧ d = .str r ∧ h' = h := by
  refine CallsA.ret ?_
  refine C_body Tryd.func14 rfl en_14 Tryd.ntmps14 rfl (fun ok => ?_)
  rw [F_lecternref08_Show] at hF
  refine C_seq ?_
  refine C_reg (mdl []) ?_
  refine S_box0 rfl rfl rfl rfl ?_
  refine S_a (v := .str ([] : List UInt8)) rfl ?_
  refine S_nil ?_
  refine C_seq ?_
  refine C_reg (mdl []) ?_
  refine S_a (v := .str ([] : List UInt8)) rfl ?_
  refine S_nil ?_
  refine C_join hF (fun (a6 : (List UInt8)) s' => OK h [] ∧ WS s' ⟨mkSl 41 [(1, .iptr (c_T_trail_Trail p0)), (3, .str a6)], Hp h []⟩) (fun J7 hF => ?_) ?_
  ·
    refine C_seq ?_
    refine C_reg (mdl []) ?_
    refine S_faQ rfl ty_fd_34_0 ty_sz_22 rfl ?_
    refine S_ldQ rfl (p_one ty_ag_22 ty_sz_22 rfl) ?_
    refine S_lenL rfl ty_sl_22 ?_
    refine S_m (v := .int _ _) rfl ?_
    refine S_nil ?_
    refine WP_block ?_
    refine C_loop (σ := (List UInt8) × Int) hF (fun (v : (List UInt8) × Int) s' => match v with | (a8, a9) => OK h [] ∧ WS s' ⟨mkSl 41 [(1, .iptr (c_T_trail_Trail p0)), (3, .str a8), (7, .sl 1 (List.map c_i64 p0.Steps) 0), (8, .int .i64 (p0.Steps.length : Int)), (9, .int .i64 a9)], Hp h []⟩) ?_ ?_
    ·
      have hwo : WO [] [] := .nil
      exact ⟨(hwo.spec ok).1, WS.mk' (.cons (.refl _) (.cons (.refl _) (.cons (.refl _) (.cons (.refl _) (.cons (.refl _) .nil))))) ok hwo⟩
    ·
      rintro G10 hG11 rec12 ⟨a8, a9⟩ s' ih13 hF ⟨ok, hws⟩
      refine WP_ws hws ?_
      clear hws s'
      rw [F_lecternref08_Show_l0] at hF
      refine C_seq ?_
      refine C_reg (mdl []) ?_
      refine S_bin rfl rfl (ev_lss ..) ?_
      refine S_nil ?_
      refine C_seq ?_
      refine C_if (b := (decide (a9 < (p0.Steps.length : Int)))) rfl hF (fun hb14 hF => ?_) (fun hb14 hF => ?_)
      ·
        refine WP_skip ?_
        refine C_seq ?_
        refine WP_block ?_
        refine C_seq ?_
        refine C_reg (mdl []) ?_
        refine S_ix rfl rfl ty_sl_22 ty_sz_3 hF (fun x15 _ hF => ?_)
        refine S_ldQ rfl (p_one ty_ag_3 ty_sz_3 rfl) ?_
        refine S_a (v := .int _ _) rfl ?_
        refine S_nil ?_
        refine C_reg (mdl []) ?_
        refine S_m (v := .str _) rfl ?_
        refine S_cat rfl rfl hF (fun hF => ?_)
        refine S_m (v := .int _ _) rfl ?_
        refine S_call (F_lecternref08_digits_ok _ hF fun x16 _ hF => ?_) (.cons (.refl _) (.nil))
        refine S_cat rfl rfl hF (fun hF => ?_)
        refine S_a (v := .str _) rfl ?_
        refine S_nil ?_
        refine C_reg (mdl []) ?_
        refine S_bin rfl rfl (ev_add ..) ?_
        refine S_m (v := .int _ _) rfl ?_
        refine S_nil ?_
        refine ih13 (((a8 ++ ([47] : List UInt8)) ++ x16), (IntKind.wrap .i64 (a9 + (1 : Int)))) _ hF ?_
        have hwo : WO [] [] := .nil
        exact ⟨(hwo.spec ok).1, WS.mk' (.cons (.refl _) (.cons (.refl _) (.cons (.refl _) (.cons (.refl _) (.cons (.refl _) .nil))))) ok hwo⟩
      ·
        refine WP_exit ?_
        simp only [Exit.sel, Exit.blk, if_true, if_false, reduceIte, Nat.reduceEqDiff, Nat.succ_ne_zero, Nat.zero_ne_one, Nat.one_ne_zero]
        replace hF := hG11 _ (F_some hF)
        have hwo : WO [] [] := .nil
        exact ⟨a8, hF, (hwo.spec ok).1, WS.mk' (.cons (.refl _) (.cons (.refl _) .nil)) ok hwo⟩
  ·
    rintro a6 s' hF ⟨ok, hws⟩
    refine WP_ws hws ?_
    clear hws s'
    refine C_join hF (fun (a19 : (List UInt8)) s' => OK h [] ∧ WS s' ⟨mkSl 41 [(3, .str a19)], Hp h []⟩) (fun J20 hF => ?_) ?_
    ·
      refine C_seq ?_
      refine C_reg (mdl []) ?_
      refine S_faQ rfl ty_fd_34_1 ty_sz_4 rfl ?_
      refine S_ldQ rfl (p_one ty_ag_4 ty_sz_4 rfl) ?_
      refine S_nil ?_
      refine C_if (b := p0.Attr) rfl hF (fun hb21 hF => ?_) (fun hb21 hF => ?_)
      ·
        refine C_seq ?_
        refine C_reg (mdl []) ?_
        refine S_m (v := .str _) rfl ?_
        refine S_cat rfl rfl hF (fun hF => ?_)
        refine S_faQ rfl ty_fd_34_2 ty_sz_24 rfl ?_
        refine S_faQ rfl ty_fd_24_1 ty_sz_9 rfl ?_
        refine S_ldQ rfl (p_one ty_ag_9 ty_sz_9 rfl) ?_
        refine S_cat rfl rfl hF (fun hF => ?_)
        refine S_a (v := .str _) rfl ?_
        refine S_nil ?_
        refine C_seq ?_
        refine C_reg (mdl []) ?_
        refine S_faQ rfl ty_fd_34_2 ty_sz_24 rfl ?_
        refine S_faQ rfl ty_fd_24_0 ty_sz_9 rfl ?_
        refine S_ldQ rfl (p_one ty_ag_9 ty_sz_9 rfl) ?_
        refine S_bin rfl rfl e_sneq ?_
        refine S_nil ?_
        refine C_if (b := (!(p0.Name.URI == ([] : List UInt8)))) rfl hF (fun hb22 hF => ?_) (fun hb22 hF => ?_)
        ·
          refine C_reg (mdl []) ?_
          refine S_m (v := .str _) rfl ?_
          refine S_cat rfl rfl hF (fun hF => ?_)
          refine S_faQ rfl ty_fd_34_2 ty_sz_24 rfl ?_
          refine S_faQ rfl ty_fd_24_0 ty_sz_9 rfl ?_
          refine S_ldQ rfl (p_one ty_ag_9 ty_sz_9 rfl) ?_
          refine S_cat rfl rfl hF (fun hF => ?_)
          refine S_cat rfl rfl hF (fun hF => ?_)
          refine S_a (v := .str _) rfl ?_
          refine S_nil ?_
          have hwo : WO [] [] := .nil
          exact ⟨(((((a6 ++ ([47, 64] : List UInt8)) ++ p0.Name.Local) ++ ([123] : List UInt8)) ++ p0.Name.URI) ++ ([125] : List UInt8)), hF, (hwo.spec ok).1, WS.mk' (.cons (.refl _) .nil) ok hwo⟩
        ·
          refine WP_skip ?_
          have hwo : WO [] [] := .nil
          exact ⟨((a6 ++ ([47, 64] : List UInt8)) ++ p0.Name.Local), hF, (hwo.spec ok).1, WS.mk' (.cons (.refl _) .nil) ok hwo⟩
      ·
        refine WP_skip ?_
        have hwo : WO [] [] := .nil
        exact ⟨a6, hF, (hwo.spec ok).1, WS.mk' (.cons (.refl _) .nil) ok hwo⟩
    ·
      rintro a19 s' hF ⟨ok, hws⟩
      refine WP_ws hws ?_
      clear hws s'
      refine C_seq ?_
      refine C_seq ?_
      refine C_reg (mdl []) ?_
      refine S_m (v := .str _) rfl ?_
      refine S_bin rfl rfl e_seql ?_
      refine S_nil ?_
      refine C_if (b := (a19 == ([] : List UInt8))) rfl hF (fun hb23 hF => ?_) (fun hb23 hF => ?_)
      ·
        refine C_seq ?_
        refine C_reg (mdl []) ?_
        refine S_a (v := .str ([47] : List UInt8)) rfl ?_
        refine S_nil ?_
        refine WP_ret ?_
        repeat (first | with_reducible refine Exit.sel_ret ?_ | with_reducible refine Exit.blk_ret ?_)
        refine C_ret (fn := Tryd.f14) rfl (.tmp (v := .str ([47] : List UInt8)) rfl .nil) ?_
        exact ⟨_, _, (.refl _), ok.wh, _, F_some hF, rfl, rfl⟩
      ·
        refine WP_skip ?_
        refine C_seq ?_
        refine C_reg (mdl []) ?_
        refine S_m (v := .str _) rfl ?_
        refine S_a (v := .str _) rfl ?_
        refine S_nil ?_
        refine WP_ret ?_
        repeat (first | with_reducible refine Exit.sel_ret ?_ | with_reducible refine Exit.blk_ret ?_)
        refine C_ret (fn := Tryd.f14) rfl (.tmp (v := .str a19) rfl .nil) ?_
        exact ⟨_, _, (.refl _), ok.wh, _, F_some hF, rfl, rfl⟩
theorem F_lecternref08_Show_ok {β : Type} {f : (List UInt8) → Option β} {G : β → Prop} {R : D → Heap → Prop} {p0 : T_trail_Trail} (h : Heap) (hF : OptP ((F_lecternref08_Show p0).bind f) G) (hk : ∀ r, F_lecternref08_Show p0 = some r → OptP (f r) G → R (.str r) h) : CallsA Tryd.prog 14 [.agg (c_T_trail_Trail p0)] h R := by
  obtain ⟨r0, hr, hF⟩ := F_bind hF
  refine (F_lecternref08_Show_w (G := fun r => r = r0) p0 h ⟨r0, hr, rfl⟩).mono ?_
  rintro _ _ ⟨r, rfl, rfl, rfl⟩
  exact hk _ hr hF
theorem F_lecternref08_Read_w (p0 : List UInt8) {G : T_trail_Trail × Bool → Prop} (h : Heap) (hF : OptP (F_lecternref08_Read p0) G) : CallsA Tryd.prog 15 [.str p0] h fun d h' => ∃ r, G r ∧ d = .tup [.agg (c_T_trail_Trail r.1), .bool r.2] ∧ h' = h := by
  refine CallsA.ret ?_
  refine C_body Tryd.func15 rfl en_15 Tryd.ntmps15 rfl (fun ok => ?_)
  rw [F_lecternref08_Read] at hF
  refine C_seq ?_
  refine C_reg (mdl [(2, 1)]) ?_
  refine S_all1 ok rfl ty_zc_34 ?_
  intro i1 hi1 ok
  refine S_a (v := .bool _) rfl ?_
  refine S_nil ?_
  refine C_seq ?_
  refine C_reg (mdl [(4, 1)]) ?_
  refine S_bld (v := .agg [.snil, .bool false, .str ([] : List UInt8), .str ([] : List UInt8)]) (b_st ty_zc_34 ty_pl_34 rfl) ?_
  refine S_all1 ok rfl ty_zc_34 ?_
  intro i2 hi2 ok
  refine S_st (j := 0) (cs' := [.snil, .bool false, .str ([] : List UInt8), .str ([] : List UInt8)]) ok rfl rfl rfl hi2 rfl ty_sz_34 rfl rfl (fun ok => ?_)
  refine S_ghostO 0 0 1 (fun r3 => [.sl 1 (List.map c_i64 ([] : List Int)) r3, .bool false, .str ([] : List UInt8), .str ([] : List UInt8)]) ok rfl hi2 rfl (fun _ => rfl) ?_
  intro r3 hr3 ok
  refine S_nil ?_
  refine C_seq ?_
  refine C_seq ?_
  refine C_reg (mdl []) ?_
  refine S_m (v := .str _) rfl ?_
  refine S_bin rfl rfl e_seql ?_
  refine S_nil ?_
  refine C_if (b := (p0 == ([47] : List UInt8))) rfl hF (fun hb4 hF => ?_) (fun hb4 hF => ?_)
  ·
    refine C_seq ?_
    refine C_reg (mdl []) ?_
    refine S_ldP (j := 1) ok rfl rfl rfl hi2 (p_agg (vs := [.sl 1 (List.map c_i64 ([] : List Int)) r3, .bool false, .str ([] : List UInt8), .str ([] : List UInt8)]) ty_ag_34 ty_sz_34 rfl rfl) ?_
    refine S_one 12 (v := .agg (c_T_trail_Trail (⟨([] : List Int), false, (⟨([] : List UInt8), ([] : List UInt8)⟩ : T_api_Name)⟩ : T_trail_Trail))) (.aggC (.cons (.zero _ _ _) (.cons (.refl _) (.cons (.refl _) (.cons (.refl _) (.nil)))))) ?_
    refine S_st (j := 2) (cs' := [.sl 1 (List.map c_i64 (⟨([] : List Int), false, (⟨([] : List UInt8), ([] : List UInt8)⟩ : T_api_Name)⟩ : T_trail_Trail).Steps) 0, .bool (⟨([] : List Int), false, (⟨([] : List UInt8), ([] : List UInt8)⟩ : T_api_Name)⟩ : T_trail_Trail).Attr, .str (⟨([] : List Int), false, (⟨([] : List UInt8), ([] : List UInt8)⟩ : T_api_Name)⟩ : T_trail_Trail).Name.URI, .str (⟨([] : List Int), false, (⟨([] : List UInt8), ([] : List UInt8)⟩ : T_api_Name)⟩ : T_trail_Trail).Name.Local]) ok rfl rfl rfl hi1 rfl ty_sz_34 rfl rfl (fun ok => ?_)
    refine S_a (v := .bool _) rfl ?_
    refine S_nil ?_
    refine WP_ret ?_
    repeat (first | with_reducible refine Exit.sel_ret ?_ | with_reducible refine Exit.blk_ret ?_)
    refine C_ret (fn := Tryd.f15) rfl (.cell rfl (ld_ptr (j := 2) ok rfl hi1 (p_agg (vs := [.sl 1 (List.map c_i64 (⟨([] : List Int), false, (⟨([] : List UInt8), ([] : List UInt8)⟩ : T_api_Name)⟩ : T_trail_Trail).Steps) 0, .bool (⟨([] : List Int), false, (⟨([] : List UInt8), ([] : List UInt8)⟩ : T_api_Name)⟩ : T_trail_Trail).Attr, .str (⟨([] : List Int), false, (⟨([] : List UInt8), ([] : List UInt8)⟩ : T_api_Name)⟩ : T_trail_Trail).Name.URI, .str (⟨([] : List Int), false, (⟨([] : List UInt8), ([] : List UInt8)⟩ : T_api_Name)⟩ : T_trail_Trail).Name.Local]) ty_ag_34 ty_sz_34 rfl rfl)) (.tmp (v := .bool true) rfl .nil)) ?_
    exact ⟨_, _, (.tupC (.cons (.aggC (.cons (.refl _) (.cons (.refl _) (.cons (.refl _) (.cons (.refl _) (.nil)))))) (.cons (.refl _) (.nil)))), ok.wh, _, F_some hF, rfl, rfl⟩
  ·
    refine WP_skip ?_
    refine C_seq ?_
    refine C_reg (mdl []) ?_
    refine S_a (v := .int _ _) rfl ?_
    refine S_nil ?_
    refine C_join hF (fun (v : (List Int) × Bool × (List UInt8) × (List UInt8) × (List Int) × Bool × (List UInt8) × (List UInt8) × Int) s' => match v with | (a60, a61, a62, a63, a64, a66, a67, a68, a69) => ∃ g65 : Nat, g65 ≠ 0 ∧ OK h [(g65, .room), (i2, .cells [.sl 1 (List.map c_i64 a64) g65, .bool a66, .str a67, .str a68]), (i1, .cells [.sl 1 (List.map c_i64 a60) 0, .bool a61, .str a62, .str a63])] ∧ WS s' ⟨mkSl 174 [(0, .str p0), (2, .ptr i1 0), (4, .ptr i2 0), (5, .int .i64 a69)], Hp h [(g65, .room), (i2, .cells [.sl 1 (List.map c_i64 a64) g65, .bool a66, .str a67, .str a68]), (i1, .cells [.sl 1 (List.map c_i64 a60) 0, .bool a61, .str a62, .str a63])]⟩) (fun J70 hF => ?_) ?_
    ·
      refine WP_block ?_
      refine C_loop (σ := (List Int) × Bool × (List UInt8) × (List UInt8) × (List Int) × Bool × (List UInt8) × (List UInt8) × Int) hF (fun (v : (List Int) × Bool × (List UInt8) × (List UInt8) × (List Int) × Bool × (List UInt8) × (List UInt8) × Int) s' => match v with | (a71, a72, a73, a74, a75, a77, a78, a79, a80) => ∃ g76 : Nat, g76 ≠ 0 ∧ OK h [(g76, .room), (i2, .cells [.sl 1 (List.map c_i64 a75) g76, .bool a77, .str a78, .str a79]), (i1, .cells [.sl 1 (List.map c_i64 a71) 0, .bool a72, .str a73, .str a74])] ∧ WS s' ⟨mkSl 174 [(0, .str p0), (2, .ptr i1 0), (4, .ptr i2 0), (5, .int .i64 a80)], Hp h [(g76, .room), (i2, .cells [.sl 1 (List.map c_i64 a75) g76, .bool a77, .str a78, .str a79]), (i1, .cells [.sl 1 (List.map c_i64 a71) 0, .bool a72, .str a73, .str a74])]⟩) ?_ ?_
      ·
        have hwo : WO [(r3, .room), (i2, .cells [.sl 1 (List.map c_i64 ([] : List Int)) r3, .bool false, .str ([] : List UInt8), .str ([] : List UInt8)]), (i1, .cells [.snil, .bool false, .str ([] : List UInt8), .str ([] : List UInt8)])] [(r3, .room), (i2, .cells [.sl 1 (List.map c_i64 ([] : List Int)) r3, .bool false, .str ([] : List UInt8), .str ([] : List UInt8)]), (i1, .cells [.sl 1 (List.map c_i64 ([] : List Int)) 0, .bool false, .str ([] : List UInt8), .str ([] : List UInt8)])] := (.keep (.keep (.weak (.cons (.nil _) (.cons (.refl _) (.cons (.refl _) (.cons (.refl _) (.nil))))) .nil)))
        exact ⟨r3, hr3, (hwo.spec ok).1, WS.mk' (.cons (.refl _) (.cons (.refl _) (.cons (.refl _) (.cons (.refl _) .nil)))) ok hwo⟩
      ·
        rintro G81 hG82 rec83 ⟨a71, a72, a73, a74, a75, a77, a78, a79, a80⟩ s' ih84 hF ⟨g76, hg76, ok, hws⟩
        refine WP_ws hws ?_
        clear hws s'
        rw [F_lecternref08_Read_l0] at hF
        refine C_seq ?_
        refine C_seq ?_
        refine C_reg (mdl []) ?_
        refine S_m (v := .int _ _) rfl ?_
        refine S_bin rfl rfl (ev_add ..) ?_
        refine S_m (v := .str _) rfl ?_
        refine S_lenS rfl ty_st_9 ?_
        refine S_bin rfl rfl (ev_lss ..) ?_
        refine S_m (v := .bool _) rfl ?_
        refine S_twoJ 5 23 hF (fun J86 hb85 hF => ?_) (fun J86 hb85 hF => ?_) (fun v87 hF => ?_)
        ·
          refine S_on rfl rfl hb85 ?_
          refine S_in ?_
          refine S_m (v := .str _) rfl ?_
          refine S_nil ?_
          refine S_on rfl rfl hb85 ?_
          refine S_in ?_
          refine S_m (v := .int _ _) rfl ?_
          refine S_nil ?_
          refine S_on rfl rfl hb85 ?_
          refine S_in ?_
          refine S_ixS rfl rfl ty_st_9 hF (fun x88 _ hF => ?_)
          refine S_nil ?_
          refine S_on rfl rfl hb85 ?_
          refine S_in ?_
          refine S_bin rfl rfl (ev_eql ..) ?_
          refine S_nil ?_
          refine S_pickT (v := .bool _) rfl hb85 rfl ?_
          refine S_nil ?_
          refine ⟨_, hF, .hd (.refl _) ?_⟩
          repeat (first | with_reducible exact WS.refl _ | refine WS.add ?_ rfl)
        ·
          refine S_off rfl rfl hb85 ?_
          refine S_offD ?_
          refine S_off rfl rfl hb85 ?_
          refine S_offD ?_
          refine S_off rfl rfl hb85 ?_
          refine S_offD ?_
          refine S_off rfl rfl hb85 ?_
          refine S_offD ?_
          refine S_pickF (v := .bool _) rfl hb85 rfl ?_
          refine S_nil ?_
          refine ⟨_, hF, .hd (.refl _) ?_⟩
          repeat (first | with_reducible exact WS.refl _ | refine WS.add ?_ rfl)
        ·
          refine S_m (v := .bool _) rfl ?_
          refine S_twoJ 6 30 hF (fun J90 hb89 hF => ?_) (fun J90 hb89 hF => ?_) (fun v91 hF => ?_)
          ·
            refine S_on rfl rfl hb89 ?_
            refine S_in ?_
            refine S_m (v := .str _) rfl ?_
            refine S_nil ?_
            refine S_on rfl rfl hb89 ?_
            refine S_in ?_
            refine S_m (v := .int _ _) rfl ?_
            refine S_nil ?_
            refine S_on rfl rfl hb89 ?_
            refine S_in ?_
            refine S_bin rfl rfl (ev_add ..) ?_
            refine S_nil ?_
            refine S_on rfl rfl hb89 ?_
            refine S_in ?_
            refine S_ixS rfl rfl ty_st_9 hF (fun x92 _ hF => ?_)
            refine S_nil ?_
            refine S_on rfl rfl hb89 ?_
            refine S_in ?_
            refine S_bin rfl rfl (ev_neq ..) ?_
            refine S_nil ?_
            refine S_pickT (v := .bool _) rfl hb89 rfl ?_
            refine S_nil ?_
            refine ⟨_, hF, .hd (.refl _) ?_⟩
            repeat (first | with_reducible exact WS.refl _ | refine WS.add ?_ rfl)
          ·
            refine S_off rfl rfl hb89 ?_
            refine S_offD ?_
            refine S_off rfl rfl hb89 ?_
            refine S_offD ?_
            refine S_off rfl rfl hb89 ?_
            refine S_offD ?_
            refine S_off rfl rfl hb89 ?_
            refine S_offD ?_
            refine S_off rfl rfl hb89 ?_
            refine S_offD ?_
            refine S_pickF (v := .bool _) rfl hb89 rfl ?_
            refine S_nil ?_
            refine ⟨_, hF, .hd (.refl _) ?_⟩
            repeat (first | with_reducible exact WS.refl _ | refine WS.add ?_ rfl)
          ·
            refine S_nil ?_
            refine C_if (b := v91) rfl hF (fun hb93 hF => ?_) (fun hb93 hF => ?_)
            ·
              refine WP_skip ?_
              refine WP_block ?_
              refine C_seq ?_
              refine C_reg (mdl []) ?_
              refine S_m (v := .int _ _) rfl ?_
              refine S_bin rfl rfl (ev_add ..) ?_
              refine S_a (v := .int _ _) rfl ?_
              refine S_nil ?_
              refine C_seq ?_
              refine C_reg (mdl []) ?_
              refine S_a (v := .int _ _) rfl ?_
              refine S_nil ?_
              refine C_join hF (fun (v : Int × Int) s' => match v with | (a107, a108) => OK h [(g76, .room), (i2, .cells [.sl 1 (List.map c_i64 a75) g76, .bool a77, .str a78, .str a79]), (i1, .cells [.sl 1 (List.map c_i64 a71) 0, .bool a72, .str a73, .str a74])] ∧ WS s' ⟨mkSl 174 [(0, .str p0), (2, .ptr i1 0), (4, .ptr i2 0), (5, .int .i64 a80), (6, .int .i64 a107), (7, .int .i64 a108)], Hp h [(g76, .room), (i2, .cells [.sl 1 (List.map c_i64 a75) g76, .bool a77, .str a78, .str a79]), (i1, .cells [.sl 1 (List.map c_i64 a71) 0, .bool a72, .str a73, .str a74])]⟩) (fun J109 hF => ?_) ?_
              ·
                refine WP_block ?_
                refine C_loop (σ := Int × Int) hF (fun (v : Int × Int) s' => match v with | (a110, a111) => OK h [(g76, .room), (i2, .cells [.sl 1 (List.map c_i64 a75) g76, .bool a77, .str a78, .str a79]), (i1, .cells [.sl 1 (List.map c_i64 a71) 0, .bool a72, .str a73, .str a74])] ∧ WS s' ⟨mkSl 174 [(0, .str p0), (2, .ptr i1 0), (4, .ptr i2 0), (5, .int .i64 a80), (6, .int .i64 a110), (7, .int .i64 a111)], Hp h [(g76, .room), (i2, .cells [.sl 1 (List.map c_i64 a75) g76, .bool a77, .str a78, .str a79]), (i1, .cells [.sl 1 (List.map c_i64 a71) 0, .bool a72, .str a73, .str a74])]⟩) ?_ ?_
                ·
                  have hwo : WO [(g76, .room), (i2, .cells [.sl 1 (List.map c_i64 a75) g76, .bool a77, .str a78, .str a79]), (i1, .cells [.sl 1 (List.map c_i64 a71) 0, .bool a72, .str a73, .str a74])] [(g76, .room), (i2, .cells [.sl 1 (List.map c_i64 a75) g76, .bool a77, .str a78, .str a79]), (i1, .cells [.sl 1 (List.map c_i64 a71) 0, .bool a72, .str a73, .str a74])] := (.keep (.keep (.keep .nil)))
                  exact ⟨(hwo.spec ok).1, WS.mk' (.cons (.refl _) (.cons (.refl _) (.cons (.refl _) (.cons (.refl _) (.cons (.refl _) (.cons (.refl _) .nil)))))) ok hwo⟩
                ·
                  rintro G112 hG113 rec114 ⟨a110, a111⟩ s' ih115 hF ⟨ok, hws⟩
                  refine WP_ws hws ?_
                  clear hws s'
                  rw [F_lecternref08_Read_l1] at hF
                  refine C_seq ?_
                  refine C_seq ?_
                  refine C_reg (mdl []) ?_
                  refine S_m (v := .int _ _) rfl ?_
                  refine S_m (v := .str _) rfl ?_
                  refine S_lenS rfl ty_st_9 ?_
                  refine S_bin rfl rfl (ev_lss ..) ?_
                  refine S_m (v := .bool _) rfl ?_
                  refine S_two (b := (decide (a110 < (p0.length : Int)))) 5 42 (.bool ((decide (a110 < (p0.length : Int))) && (decide ((IntKind.wrap .i64 (a110 - a80)) ≤ (9 : Int))))) (fun hb116 => ?_) (fun hb116 => ?_) ?_
                  ·
                    refine S_on rfl rfl hb116 ?_
                    refine S_in ?_
                    refine S_m (v := .int _ _) rfl ?_
                    refine S_nil ?_
                    refine S_on rfl rfl hb116 ?_
                    refine S_in ?_
                    refine S_m (v := .int _ _) rfl ?_
                    refine S_nil ?_
                    refine S_on rfl rfl hb116 ?_
                    refine S_in ?_
                    refine S_bin rfl rfl (ev_sub ..) ?_
                    refine S_nil ?_
                    refine S_on rfl rfl hb116 ?_
                    refine S_in ?_
                    refine S_bin rfl rfl (ev_leq ..) ?_
                    refine S_nil ?_
                    refine S_pickT (v := .bool _) rfl hb116 rfl ?_
                    refine S_nil ?_
                    refine .hd (and_t hb116) ?_
                    repeat (first | with_reducible exact WS.refl _ | refine WS.add ?_ rfl)
                  ·
                    refine S_off rfl rfl hb116 ?_
                    refine S_offD ?_
                    refine S_off rfl rfl hb116 ?_
                    refine S_offD ?_
                    refine S_off rfl rfl hb116 ?_
                    refine S_offD ?_
                    refine S_off rfl rfl hb116 ?_
                    refine S_offD ?_
                    refine S_pickF (v := .bool _) rfl hb116 rfl ?_
                    refine S_nil ?_
                    refine .hd (and_f hb116) ?_
                    repeat (first | with_reducible exact WS.refl _ | refine WS.add ?_ rfl)
                  refine S_m (v := .bool _) rfl ?_
                  refine S_twoJ 5 48 hF (fun J118 hb117 hF => ?_) (fun J118 hb117 hF => ?_) (fun v119 hF => ?_)
                  ·
                    refine S_on rfl rfl hb117 ?_
                    refine S_in ?_
                    refine S_m (v := .str _) rfl ?_
                    refine S_nil ?_
                    refine S_on rfl rfl hb117 ?_
                    refine S_in ?_
                    refine S_m (v := .int _ _) rfl ?_
                    refine S_nil ?_
                    refine S_on rfl rfl hb117 ?_
                    refine S_in ?_
                    refine S_ixS rfl rfl ty_st_9 hF (fun x120 _ hF => ?_)
                    refine S_nil ?_
                    refine S_on rfl rfl hb117 ?_
                    refine S_in ?_
                    refine S_bin rfl rfl (ev_geq ..) ?_
                    refine S_nil ?_
                    refine S_pickT (v := .bool _) rfl hb117 rfl ?_
                    refine S_nil ?_
                    refine ⟨_, hF, .hd (.refl _) ?_⟩
                    repeat (first | with_reducible exact WS.refl _ | refine WS.add ?_ rfl)
                  ·
                    refine S_off rfl rfl hb117 ?_
                    refine S_offD ?_
                    refine S_off rfl rfl hb117 ?_
                    refine S_offD ?_
                    refine S_off rfl rfl hb117 ?_
                    refine S_offD ?_
                    refine S_off rfl rfl hb117 ?_
                    refine S_offD ?_
                    refine S_pickF (v := .bool _) rfl hb117 rfl ?_
                    refine S_nil ?_
                    refine ⟨_, hF, .hd (.refl _) ?_⟩
                    repeat (first | with_reducible exact WS.refl _ | refine WS.add ?_ rfl)
                  ·
                    refine S_m (v := .bool _) rfl ?_
                    refine S_twoJ 5 54 hF (fun J122 hb121 hF => ?_) (fun J122 hb121 hF => ?_) (fun v123 hF => ?_)
                    ·
                      refine S_on rfl rfl hb121 ?_
                      refine S_in ?_
                      refine S_m (v := .str _) rfl ?_
                      refine S_nil ?_
                      refine S_on rfl rfl hb121 ?_
                      refine S_in ?_
                      refine S_m (v := .int _ _) rfl ?_
                      refine S_nil ?_
                      refine S_on rfl rfl hb121 ?_
                      refine S_in ?_
                      refine S_ixS rfl rfl ty_st_9 hF (fun x124 _ hF => ?_)
                      refine S_nil ?_
                      refine S_on rfl rfl hb121 ?_
                      refine S_in ?_
                      refine S_bin rfl rfl (ev_leq ..) ?_
                      refine S_nil ?_
                      refine S_pickT (v := .bool _) rfl hb121 rfl ?_
                      refine S_nil ?_
                      refine ⟨_, hF, .hd (.refl _) ?_⟩
                      repeat (first | with_reducible exact WS.refl _ | refine WS.add ?_ rfl)
                    ·
                      refine S_off rfl rfl hb121 ?_
                      refine S_offD ?_
                      refine S_off rfl rfl hb121 ?_
                      refine S_offD ?_
                      refine S_off rfl rfl hb121 ?_
                      refine S_offD ?_
                      refine S_off rfl rfl hb121 ?_
                      refine S_offD ?_
                      refine S_pickF (v := .bool _) rfl hb121 rfl ?_
                      refine S_nil ?_
                      refine ⟨_, hF, .hd (.refl _) ?_⟩
                      repeat (first | with_reducible exact WS.refl _ | refine WS.add ?_ rfl)
                    ·
                      refine S_nil ?_
                      refine C_if (b := v123) rfl hF (fun hb125 hF => ?_) (fun hb125 hF => ?_)
                      ·
                        refine WP_skip ?_
                        refine WP_block ?_
                        refine C_seq ?_
                        refine C_reg (mdl []) ?_
                        refine S_m (v := .int _ _) rfl ?_
                        refine S_bin rfl rfl (ev_mul ..) ?_
                        refine S_m (v := .str _) rfl ?_
                        refine S_m (v := .int _ _) rfl ?_
                        refine S_ixS rfl rfl ty_st_9 hF (fun x126 _ hF => ?_)
                        refine S_bin rfl rfl (ev_sub ..) ?_
                        refine S_conv rfl (e_ci ty_ki_3 ty_un_5) ?_
                        refine S_bin rfl rfl (ev_add ..) ?_
                        refine S_a (v := .int _ _) rfl ?_
                        refine S_nil ?_
                        refine C_reg (mdl []) ?_
                        refine S_m (v := .int _ _) rfl ?_
                        refine S_bin rfl rfl (ev_add ..) ?_
                        refine S_a (v := .int _ _) rfl ?_
                        refine S_nil ?_
                        refine ih115 ((IntKind.wrap .i64 (a110 + (1 : Int))), (IntKind.wrap .i64 ((IntKind.wrap .i64 ((10 : Int) * a111)) + (IntKind.wrap .i64 (IntKind.wrap .u8 ((x126.toNat : Int) - (48 : Int))))))) _ hF ?_
                        have hwo : WO [(g76, .room), (i2, .cells [.sl 1 (List.map c_i64 a75) g76, .bool a77, .str a78, .str a79]), (i1, .cells [.sl 1 (List.map c_i64 a71) 0, .bool a72, .str a73, .str a74])] [(g76, .room), (i2, .cells [.sl 1 (List.map c_i64 a75) g76, .bool a77, .str a78, .str a79]), (i1, .cells [.sl 1 (List.map c_i64 a71) 0, .bool a72, .str a73, .str a74])] := (.keep (.keep (.keep .nil)))
                        exact ⟨(hwo.spec ok).1, WS.mk' (.cons (.refl _) (.cons (.refl _) (.cons (.refl _) (.cons (.refl _) (.cons (.refl _) (.cons (.refl _) .nil)))))) ok hwo⟩
                      ·
                        refine WP_exit ?_
                        simp only [Exit.sel, Exit.blk, if_true, if_false, reduceIte, Nat.reduceEqDiff, Nat.succ_ne_zero, Nat.zero_ne_one, Nat.one_ne_zero]
                        replace hF := hG113 _ (F_some hF)
                        have hwo : WO [(g76, .room), (i2, .cells [.sl 1 (List.map c_i64 a75) g76, .bool a77, .str a78, .str a79]), (i1, .cells [.sl 1 (List.map c_i64 a71) 0, .bool a72, .str a73, .str a74])] [(g76, .room), (i2, .cells [.sl 1 (List.map c_i64 a75) g76, .bool a77, .str a78, .str a79]), (i1, .cells [.sl 1 (List.map c_i64 a71) 0, .bool a72, .str a73, .str a74])] := (.keep (.keep (.keep .nil)))
                        exact ⟨(a110, a111), hF, (hwo.spec ok).1, WS.mk' (.cons (.refl _) (.cons (.refl _) (.cons (.refl _) (.cons (.refl _) (.cons (.refl _) (.cons (.refl _) .nil)))))) ok hwo⟩
              ·
                rintro ⟨a107, a108⟩ s' hF ⟨ok, hws⟩
                refine WP_ws hws ?_
                clear hws s'
                refine C_seq ?_
                refine C_seq ?_
                refine C_reg (mdl []) ?_
                refine S_m (v := .int _ _) rfl ?_
                refine S_m (v := .int _ _) rfl ?_
                refine S_bin rfl rfl (ev_add ..) ?_
                refine S_bin rfl rfl (ev_eql ..) ?_
                refine S_m (v := .bool _) rfl ?_
                refine S_twoJ 12 81 hF (fun J128 hb127 hF => ?_) (fun J128 hb127 hF => ?_) (fun v129 hF => ?_)
                ·
                  refine S_off rfl rfl hb127 ?_
                  refine S_offD ?_
                  refine S_off rfl rfl hb127 ?_
                  refine S_offD ?_
                  refine S_off rfl rfl hb127 ?_
                  refine S_offD ?_
                  refine S_off rfl rfl hb127 ?_
                  refine S_offD ?_
                  refine S_off rfl rfl hb127 ?_
                  refine S_offD ?_
                  refine S_off rfl rfl hb127 ?_
                  refine S_offD ?_
                  refine S_off2 rfl rfl ?_
                  refine S_offD ?_
                  refine S_off2 rfl rfl ?_
                  refine S_offD ?_
                  refine S_off2 rfl rfl ?_
                  refine S_offD ?_
                  refine S_off2 rfl rfl ?_
                  refine S_offD ?_
                  refine S_off rfl rfl hb127 ?_
                  refine S_offD ?_
                  refine S_pickT (v := .bool _) rfl hb127 rfl ?_
                  refine S_nil ?_
                  refine ⟨_, hF, .hd (.refl _) ?_⟩
                  repeat (first | with_reducible exact WS.refl _ | refine WS.add ?_ rfl)
                ·
                  refine S_on rfl rfl hb127 ?_
                  refine S_in ?_
                  refine S_m (v := .str _) rfl ?_
                  refine S_nil ?_
                  refine S_on rfl rfl hb127 ?_
                  refine S_in ?_
                  refine S_m (v := .int _ _) rfl ?_
                  refine S_nil ?_
                  refine S_on rfl rfl hb127 ?_
                  refine S_in ?_
                  refine S_bin rfl rfl (ev_add ..) ?_
                  refine S_nil ?_
                  refine S_on rfl rfl hb127 ?_
                  refine S_in ?_
                  refine S_ixS rfl rfl ty_st_9 hF (fun x130 _ hF => ?_)
                  refine S_nil ?_
                  refine S_on rfl rfl hb127 ?_
                  refine S_in ?_
                  refine S_bin rfl rfl (ev_eql ..) ?_
                  refine S_nil ?_
                  refine S_on rfl rfl hb127 ?_
                  refine S_in ?_
                  refine S_m (v := .bool _) rfl ?_
                  refine S_nil ?_
                  refine S_two (b := ((x130.toNat : Int) == (48 : Int))) 5 80 (.bool (((x130.toNat : Int) == (48 : Int)) && (decide ((IntKind.wrap .i64 (a80 + (2 : Int))) < a107)))) (fun hb131 => ?_) (fun hb131 => ?_) ?_
                  ·
                    refine S_on rfl rfl hb131 ?_
                    refine S_in ?_
                    refine S_m (v := .int _ _) rfl ?_
                    refine S_nil ?_
                    refine S_on rfl rfl hb131 ?_
                    refine S_in ?_
                    refine S_m (v := .int _ _) rfl ?_
                    refine S_nil ?_
                    refine S_on rfl rfl hb131 ?_
                    refine S_in ?_
                    refine S_bin rfl rfl (ev_add ..) ?_
                    refine S_nil ?_
                    refine S_on rfl rfl hb131 ?_
                    refine S_in ?_
                    refine S_bin rfl rfl (ev_gtr ..) ?_
                    refine S_nil ?_
                    refine S_on rfl rfl hb127 ?_
                    refine S_in ?_
                    refine S_pickT (v := .bool _) rfl hb131 rfl ?_
                    refine S_nil ?_
                    refine S_nil ?_
                    refine .hd (and_t hb131) ?_
                    repeat (first | with_reducible exact WS.refl _ | refine WS.add ?_ rfl)
                  ·
                    refine S_off rfl rfl hb131 ?_
                    refine S_offD ?_
                    refine S_off rfl rfl hb131 ?_
                    refine S_offD ?_
                    refine S_off rfl rfl hb131 ?_
                    refine S_offD ?_
                    refine S_off rfl rfl hb131 ?_
                    refine S_offD ?_
                    refine S_on rfl rfl hb127 ?_
                    refine S_in ?_
                    refine S_pickF (v := .bool _) rfl hb131 rfl ?_
                    refine S_nil ?_
                    refine S_nil ?_
                    refine .hd (and_f hb131) ?_
                    repeat (first | with_reducible exact WS.refl _ | refine WS.add ?_ rfl)
                  refine S_pickF (v := .bool _) rfl hb127 rfl ?_
                  refine S_nil ?_
                  refine ⟨_, hF, .hd (.refl _) ?_⟩
                  repeat (first | with_reducible exact WS.refl _ | refine WS.add ?_ rfl)
                ·
                  refine S_m (v := .bool _) rfl ?_
                  refine S_two (b := v129) 5 87 (.bool (v129 || ((a75.length : Int) == (64 : Int)))) (fun hb132 => ?_) (fun hb132 => ?_) ?_
                  ·
                    refine S_off rfl rfl hb132 ?_
                    refine S_offD ?_
                    refine S_off rfl rfl hb132 ?_
                    refine S_offD ?_
                    refine S_off rfl rfl hb132 ?_
                    refine S_offD ?_
                    refine S_off rfl rfl hb132 ?_
                    refine S_offD ?_
                    refine S_pickT (v := .bool _) rfl hb132 rfl ?_
                    refine S_nil ?_
                    refine .hd (or_t hb132) ?_
                    repeat (first | with_reducible exact WS.refl _ | refine WS.add ?_ rfl)
                  ·
                    refine S_on rfl rfl hb132 ?_
                    refine S_in ?_
                    refine S_faP rfl ty_fd_34_0 ty_sz_22 ?_
                    refine S_nil ?_
                    refine S_on rfl rfl hb132 ?_
                    refine S_in ?_
                    refine S_ldP (j := 1) ok rfl rfl rfl hi2 (p_one (v := .sl 1 (List.map c_i64 a75) g76) ty_ag_22 ty_sz_22 rfl) ?_
                    refine S_nil ?_
                    refine S_one 84 (v := .sl 1 (List.map c_i64 a75) 0) (.zero _ _ _) ?_
                    refine S_on rfl rfl hb132 ?_
                    refine S_in ?_
                    refine S_lenL rfl ty_sl_22 ?_
                    refine S_nil ?_
                    refine S_on rfl rfl hb132 ?_
                    refine S_in ?_
                    refine S_bin rfl rfl (ev_eql ..) ?_
                    refine S_nil ?_
                    refine S_pickF (v := .bool _) rfl hb132 rfl ?_
                    refine S_nil ?_
                    refine .hd (or_f hb132) ?_
                    repeat (first | with_reducible exact WS.refl _ | refine WS.add ?_ rfl)
                  refine S_nil ?_
                  refine C_if (b := (v129 || ((a75.length : Int) == (64 : Int)))) rfl hF (fun hb133 hF => ?_) (fun hb133 hF => ?_)
                  ·
                    refine C_seq ?_
                    refine C_reg (mdl []) ?_
                    refine S_bld (v := .agg [.snil, .bool false, .str ([] : List UInt8), .str ([] : List UInt8)]) (b_st ty_zc_34 ty_pl_34 rfl) ?_
                    refine S_one 88 (v := .agg (c_T_trail_Trail (⟨([] : List Int), false, (⟨([] : List UInt8), ([] : List UInt8)⟩ : T_api_Name)⟩ : T_trail_Trail))) (.aggC (.cons (.nil _) (.cons (.refl _) (.cons (.refl _) (.cons (.refl _) (.nil)))))) ?_
                    refine S_st (j := 2) (cs' := [.sl 1 (List.map c_i64 (⟨([] : List Int), false, (⟨([] : List UInt8), ([] : List UInt8)⟩ : T_api_Name)⟩ : T_trail_Trail).Steps) 0, .bool (⟨([] : List Int), false, (⟨([] : List UInt8), ([] : List UInt8)⟩ : T_api_Name)⟩ : T_trail_Trail).Attr, .str (⟨([] : List Int), false, (⟨([] : List UInt8), ([] : List UInt8)⟩ : T_api_Name)⟩ : T_trail_Trail).Name.URI, .str (⟨([] : List Int), false, (⟨([] : List UInt8), ([] : List UInt8)⟩ : T_api_Name)⟩ : T_trail_Trail).Name.Local]) ok rfl rfl rfl hi1 rfl ty_sz_34 rfl rfl (fun ok => ?_)
                    refine S_a (v := .bool _) rfl ?_
                    refine S_nil ?_
                    refine WP_ret ?_
                    replace hF := hG82 _ (F_some hF)
                    repeat (first | with_reducible refine Exit.sel_ret ?_ | with_reducible refine Exit.blk_ret ?_)
                    refine C_ret (fn := Tryd.f15) rfl (.cell rfl (ld_ptr (j := 2) ok rfl hi1 (p_agg (vs := [.sl 1 (List.map c_i64 (⟨([] : List Int), false, (⟨([] : List UInt8), ([] : List UInt8)⟩ : T_api_Name)⟩ : T_trail_Trail).Steps) 0, .bool (⟨([] : List Int), false, (⟨([] : List UInt8), ([] : List UInt8)⟩ : T_api_Name)⟩ : T_trail_Trail).Attr, .str (⟨([] : List Int), false, (⟨([] : List UInt8), ([] : List UInt8)⟩ : T_api_Name)⟩ : T_trail_Trail).Name.URI, .str (⟨([] : List Int), false, (⟨([] : List UInt8), ([] : List UInt8)⟩ : T_api_Name)⟩ : T_trail_Trail).Name.Local]) ty_ag_34 ty_sz_34 rfl rfl)) (.tmp (v := .bool false) rfl .nil)) ?_
                    exact ⟨_, _, (.tupC (.cons (.aggC (.cons (.refl _) (.cons (.refl _) (.cons (.refl _) (.cons (.refl _) (.nil)))))) (.cons (.refl _) (.nil)))), ok.wh, _, F_some hF, rfl, rfl⟩
                  ·
                    refine WP_skip ?_
                    refine C_seq ?_
                    refine C_reg (mdl [(93, 2)]) ?_
                    refine S_faP rfl ty_fd_34_0 ty_sz_22 ?_
                    refine S_ldP (j := 1) ok rfl rfl rfl hi2 (p_one (v := .sl 1 (List.map c_i64 a75) g76) ty_ag_22 ty_sz_22 rfl) ?_
                    refine S_m (v := .int _ _) rfl ?_
                    refine S_lit0 (cs := [.int .i64 a108]) (es := (List.map c_i64 [a108])) rfl ty_el_22 rfl (by kernel_rfl) (by kernel_rfl) ?_
                    refine S_app (j := 0) ok rfl rfl rfl rfl hg76 ty_el_22 ty_ni_22 hF ?_
                    intro r134 hr134 ok hF
                    refine S_faP rfl ty_fd_34_0 ty_sz_22 ?_
                    refine S_st (j := 1) (cs' := [.sl 1 (List.map c_i64 (a75 ++ [a108])) r134, .bool a77, .str a78, .str a79]) ok rfl rfl rfl hi2 rfl ty_sz_22 rfl rfl (fun ok => ?_)
                    refine S_nil ?_
                    refine C_reg (mdl []) ?_
                    refine S_m (v := .int _ _) rfl ?_
                    refine S_a (v := .int _ _) rfl ?_
                    refine S_nil ?_
                    refine ih84 (a71, a72, a73, a74, (a75 ++ [a108]), a77, a78, a79, a107) _ hF ?_
                    have hwo : WO [(r134, .room), (i2, .cells [.sl 1 (List.map c_i64 (a75 ++ [a108])) r134, .bool a77, .str a78, .str a79]), (i1, .cells [.sl 1 (List.map c_i64 a71) 0, .bool a72, .str a73, .str a74])] [(r134, .room), (i2, .cells [.sl 1 (List.map c_i64 (a75 ++ [a108])) r134, .bool a77, .str a78, .str a79]), (i1, .cells [.sl 1 (List.map c_i64 a71) 0, .bool a72, .str a73, .str a74])] := (.keep (.keep (.keep .nil)))
                    exact ⟨r134, hr134, (hwo.spec ok).1, WS.mk' (.cons (.refl _) (.cons (.refl _) (.cons (.refl _) (.cons (.refl _) .nil)))) ok hwo⟩
            ·
              refine WP_exit ?_
              simp only [Exit.sel, Exit.blk, if_true, if_false, reduceIte, Nat.reduceEqDiff, Nat.succ_ne_zero, Nat.zero_ne_one, Nat.one_ne_zero]
              replace hF := hG82 _ (F_some hF)
              have hwo : WO [(g76, .room), (i2, .cells [.sl 1 (List.map c_i64 a75) g76, .bool a77, .str a78, .str a79]), (i1, .cells [.sl 1 (List.map c_i64 a71) 0, .bool a72, .str a73, .str a74])] [(g76, .room), (i2, .cells [.sl 1 (List.map c_i64 a75) g76, .bool a77, .str a78, .str a79]), (i1, .cells [.sl 1 (List.map c_i64 a71) 0, .bool a72, .str a73, .str a74])] := (.keep (.keep (.keep .nil)))
              exact ⟨(a71, a72, a73, a74, a75, a77, a78, a79, a80), hF, g76, hg76, (hwo.spec ok).1, WS.mk' (.cons (.refl _) (.cons (.refl _) (.cons (.refl _) (.cons (.refl _) .nil)))) ok hwo⟩
    ·
      rintro ⟨a60, a61, a62, a63, a64, a66, a67, a68, a69⟩ s' hF ⟨g65, hg65, ok, hws⟩
      refine WP_ws hws ?_
      clear hws s'
      refine C_seq ?_
      refine C_seq ?_
      refine C_reg (mdl []) ?_
      refine S_m (v := .int _ _) rfl ?_
      refine S_m (v := .str _) rfl ?_
      refine S_lenS rfl ty_st_9 ?_
      refine S_bin rfl rfl (ev_eql ..) ?_
      refine S_nil ?_
      refine C_if (b := (a69 == (p0.length : Int))) rfl hF (fun hb135 hF => ?_) (fun hb135 hF => ?_)
      ·
        refine C_seq ?_
        refine C_reg (mdl []) ?_
        refine S_ldP (j := 1) ok rfl rfl rfl hi2 (p_agg (vs := [.sl 1 (List.map c_i64 a64) g65, .bool a66, .str a67, .str a68]) ty_ag_34 ty_sz_34 rfl rfl) ?_
        refine S_one 100 (v := .agg (c_T_trail_Trail (⟨a64, a66, (⟨a67, a68⟩ : T_api_Name)⟩ : T_trail_Trail))) (.aggC (.cons (.zero _ _ _) (.cons (.refl _) (.cons (.refl _) (.cons (.refl _) (.nil)))))) ?_
        refine S_m (v := .int _ _) rfl ?_
        refine S_bin rfl rfl (ev_gtr ..) ?_
        refine S_st (j := 2) (cs' := [.sl 1 (List.map c_i64 (⟨a64, a66, (⟨a67, a68⟩ : T_api_Name)⟩ : T_trail_Trail).Steps) 0, .bool (⟨a64, a66, (⟨a67, a68⟩ : T_api_Name)⟩ : T_trail_Trail).Attr, .str (⟨a64, a66, (⟨a67, a68⟩ : T_api_Name)⟩ : T_trail_Trail).Name.URI, .str (⟨a64, a66, (⟨a67, a68⟩ : T_api_Name)⟩ : T_trail_Trail).Name.Local]) ok rfl rfl rfl hi1 rfl ty_sz_34 rfl rfl (fun ok => ?_)
        refine S_a (v := .bool _) rfl ?_
        refine S_nil ?_
        refine WP_ret ?_
        repeat (first | with_reducible refine Exit.sel_ret ?_ | with_reducible refine Exit.blk_ret ?_)
        refine C_ret (fn := Tryd.f15) rfl (.cell rfl (ld_ptr (j := 2) ok rfl hi1 (p_agg (vs := [.sl 1 (List.map c_i64 (⟨a64, a66, (⟨a67, a68⟩ : T_api_Name)⟩ : T_trail_Trail).Steps) 0, .bool (⟨a64, a66, (⟨a67, a68⟩ : T_api_Name)⟩ : T_trail_Trail).Attr, .str (⟨a64, a66, (⟨a67, a68⟩ : T_api_Name)⟩ : T_trail_Trail).Name.URI, .str (⟨a64, a66, (⟨a67, a68⟩ : T_api_Name)⟩ : T_trail_Trail).Name.Local]) ty_ag_34 ty_sz_34 rfl rfl)) (.tmp (v := .bool (decide ((0 : Int) < a69))) rfl .nil)) ?_
        exact ⟨_, _, (.tupC (.cons (.aggC (.cons (.refl _) (.cons (.refl _) (.cons (.refl _) (.cons (.refl _) (.nil)))))) (.cons (.refl _) (.nil)))), ok.wh, _, F_some hF, rfl, rfl⟩
      ·
        refine WP_skip ?_
        refine C_seq ?_
        refine C_seq ?_
        refine C_reg (mdl []) ?_
        refine S_m (v := .int _ _) rfl ?_
        refine S_bin rfl rfl (ev_add ..) ?_
        refine S_m (v := .str _) rfl ?_
        refine S_lenS rfl ty_st_9 ?_
        refine S_bin rfl rfl (ev_geq ..) ?_
        refine S_m (v := .bool _) rfl ?_
        refine S_twoJ 5 113 hF (fun J137 hb136 hF => ?_) (fun J137 hb136 hF => ?_) (fun v138 hF => ?_)
        ·
          refine S_off rfl rfl hb136 ?_
          refine S_offD ?_
          refine S_off rfl rfl hb136 ?_
          refine S_offD ?_
          refine S_off rfl rfl hb136 ?_
          refine S_offD ?_
          refine S_off rfl rfl hb136 ?_
          refine S_offD ?_
          refine S_pickT (v := .bool _) rfl hb136 rfl ?_
          refine S_nil ?_
          refine ⟨_, hF, .hd (.refl _) ?_⟩
          repeat (first | with_reducible exact WS.refl _ | refine WS.add ?_ rfl)
        ·
          refine S_on rfl rfl hb136 ?_
          refine S_in ?_
          refine S_m (v := .str _) rfl ?_
          refine S_nil ?_
          refine S_on rfl rfl hb136 ?_
          refine S_in ?_
          refine S_m (v := .int _ _) rfl ?_
          refine S_nil ?_
          refine S_on rfl rfl hb136 ?_
          refine S_in ?_
          refine S_ixS rfl rfl ty_st_9 hF (fun x139 _ hF => ?_)
          refine S_nil ?_
          refine S_on rfl rfl hb136 ?_
          refine S_in ?_
          refine S_bin rfl rfl (ev_neq ..) ?_
          refine S_nil ?_
          refine S_pickF (v := .bool _) rfl hb136 rfl ?_
          refine S_nil ?_
          refine ⟨_, hF, .hd (.refl _) ?_⟩
          repeat (first | with_reducible exact WS.refl _ | refine WS.add ?_ rfl)
        ·
          refine S_m (v := .bool _) rfl ?_
          refine S_twoJ 6 120 hF (fun J141 hb140 hF => ?_) (fun J141 hb140 hF => ?_) (fun v142 hF => ?_)
          ·
            refine S_off rfl rfl hb140 ?_
            refine S_offD ?_
            refine S_off rfl rfl hb140 ?_
            refine S_offD ?_
            refine S_off rfl rfl hb140 ?_
            refine S_offD ?_
            refine S_off rfl rfl hb140 ?_
            refine S_offD ?_
            refine S_off rfl rfl hb140 ?_
            refine S_offD ?_
            refine S_pickT (v := .bool _) rfl hb140 rfl ?_
            refine S_nil ?_
            refine ⟨_, hF, .hd (.refl _) ?_⟩
            repeat (first | with_reducible exact WS.refl _ | refine WS.add ?_ rfl)
          ·
            refine S_on rfl rfl hb140 ?_
            refine S_in ?_
            refine S_m (v := .str _) rfl ?_
            refine S_nil ?_
            refine S_on rfl rfl hb140 ?_
            refine S_in ?_
            refine S_m (v := .int _ _) rfl ?_
            refine S_nil ?_
            refine S_on rfl rfl hb140 ?_
            refine S_in ?_
            refine S_bin rfl rfl (ev_add ..) ?_
            refine S_nil ?_
            refine S_on rfl rfl hb140 ?_
            refine S_in ?_
            refine S_ixS rfl rfl ty_st_9 hF (fun x143 _ hF => ?_)
            refine S_nil ?_
            refine S_on rfl rfl hb140 ?_
            refine S_in ?_
            refine S_bin rfl rfl (ev_neq ..) ?_
            refine S_nil ?_
            refine S_pickF (v := .bool _) rfl hb140 rfl ?_
            refine S_nil ?_
            refine ⟨_, hF, .hd (.refl _) ?_⟩
            repeat (first | with_reducible exact WS.refl _ | refine WS.add ?_ rfl)
          ·
            refine S_nil ?_
            refine C_if (b := v142) rfl hF (fun hb144 hF => ?_) (fun hb144 hF => ?_)
            ·
              refine C_seq ?_
              refine C_reg (mdl []) ?_
              refine S_bld (v := .agg [.snil, .bool false, .str ([] : List UInt8), .str ([] : List UInt8)]) (b_st ty_zc_34 ty_pl_34 rfl) ?_
              refine S_one 121 (v := .agg (c_T_trail_Trail (⟨([] : List Int), false, (⟨([] : List UInt8), ([] : List UInt8)⟩ : T_api_Name)⟩ : T_trail_Trail))) (.aggC (.cons (.nil _) (.cons (.refl _) (.cons (.refl _) (.cons (.refl _) (.nil)))))) ?_
              refine S_st (j := 2) (cs' := [.sl 1 (List.map c_i64 (⟨([] : List Int), false, (⟨([] : List UInt8), ([] : List UInt8)⟩ : T_api_Name)⟩ : T_trail_Trail).Steps) 0, .bool (⟨([] : List Int), false, (⟨([] : List UInt8), ([] : List UInt8)⟩ : T_api_Name)⟩ : T_trail_Trail).Attr, .str (⟨([] : List Int), false, (⟨([] : List UInt8), ([] : List UInt8)⟩ : T_api_Name)⟩ : T_trail_Trail).Name.URI, .str (⟨([] : List Int), false, (⟨([] : List UInt8), ([] : List UInt8)⟩ : T_api_Name)⟩ : T_trail_Trail).Name.Local]) ok rfl rfl rfl hi1 rfl ty_sz_34 rfl rfl (fun ok => ?_)
              refine S_a (v := .bool _) rfl ?_
              refine S_nil ?_
              refine WP_ret ?_
              repeat (first | with_reducible refine Exit.sel_ret ?_ | with_reducible refine Exit.blk_ret ?_)
              refine C_ret (fn := Tryd.f15) rfl (.cell rfl (ld_ptr (j := 2) ok rfl hi1 (p_agg (vs := [.sl 1 (List.map c_i64 (⟨([] : List Int), false, (⟨([] : List UInt8), ([] : List UInt8)⟩ : T_api_Name)⟩ : T_trail_Trail).Steps) 0, .bool (⟨([] : List Int), false, (⟨([] : List UInt8), ([] : List UInt8)⟩ : T_api_Name)⟩ : T_trail_Trail).Attr, .str (⟨([] : List Int), false, (⟨([] : List UInt8), ([] : List UInt8)⟩ : T_api_Name)⟩ : T_trail_Trail).Name.URI, .str (⟨([] : List Int), false, (⟨([] : List UInt8), ([] : List UInt8)⟩ : T_api_Name)⟩ : T_trail_Trail).Name.Local]) ty_ag_34 ty_sz_34 rfl rfl)) (.tmp (v := .bool false) rfl .nil)) ?_
              exact ⟨_, _, (.tupC (.cons (.aggC (.cons (.refl _) (.cons (.refl _) (.cons (.refl _) (.cons (.refl _) (.nil)))))) (.cons (.refl _) (.nil)))), ok.wh, _, F_some hF, rfl, rfl⟩
            ·
              refine WP_skip ?_
              refine C_seq ?_
              refine C_reg (mdl []) ?_
              refine S_faP rfl ty_fd_34_1 ty_sz_4 ?_
              refine S_st (j := 1) (cs' := [.sl 1 (List.map c_i64 a64) g65, .bool true, .str a67, .str a68]) ok rfl rfl rfl hi2 rfl ty_sz_4 rfl rfl (fun ok => ?_)
              refine S_nil ?_
              refine C_seq ?_
              refine C_reg (mdl []) ?_
              refine S_m (v := .int _ _) rfl ?_
              refine S_bin rfl rfl (ev_add ..) ?_
              refine S_a (v := .int _ _) rfl ?_
              refine S_nil ?_
              refine C_join hF (fun (a151 : Int) s' => OK h [(g65, .room), (i2, .cells [.sl 1 (List.map c_i64 a64) g65, .bool true, .str a67, .str a68]), (i1, .cells [.sl 1 (List.map c_i64 a60) 0, .bool a61, .str a62, .str a63])] ∧ WS s' ⟨mkSl 174 [(0, .str p0), (2, .ptr i1 0), (4, .ptr i2 0), (5, .int .i64 a69), (8, .int .i64 a151)], Hp h [(g65, .room), (i2, .cells [.sl 1 (List.map c_i64 a64) g65, .bool true, .str a67, .str a68]), (i1, .cells [.sl 1 (List.map c_i64 a60) 0, .bool a61, .str a62, .str a63])]⟩) (fun J152 hF => ?_) ?_
              ·
                refine WP_block ?_
                refine C_loop (σ := Int) hF (fun (a153 : Int) s' => OK h [(g65, .room), (i2, .cells [.sl 1 (List.map c_i64 a64) g65, .bool true, .str a67, .str a68]), (i1, .cells [.sl 1 (List.map c_i64 a60) 0, .bool a61, .str a62, .str a63])] ∧ WS s' ⟨mkSl 174 [(0, .str p0), (2, .ptr i1 0), (4, .ptr i2 0), (5, .int .i64 a69), (8, .int .i64 a153)], Hp h [(g65, .room), (i2, .cells [.sl 1 (List.map c_i64 a64) g65, .bool true, .str a67, .str a68]), (i1, .cells [.sl 1 (List.map c_i64 a60) 0, .bool a61, .str a62, .str a63])]⟩) ?_ ?_
                ·
                  have hwo : WO [(g65, .room), (i2, .cells [.sl 1 (List.map c_i64 a64) g65, .bool true, .str a67, .str a68]), (i1, .cells [.sl 1 (List.map c_i64 a60) 0, .bool a61, .str a62, .str a63])] [(g65, .room), (i2, .cells [.sl 1 (List.map c_i64 a64) g65, .bool true, .str a67, .str a68]), (i1, .cells [.sl 1 (List.map c_i64 a60) 0, .bool a61, .str a62, .str a63])] := (.keep (.keep (.keep .nil)))
                  exact ⟨(hwo.spec ok).1, WS.mk' (.cons (.refl _) (.cons (.refl _) (.cons (.refl _) (.cons (.refl _) (.cons (.refl _) .nil))))) ok hwo⟩
                ·
                  rintro G154 hG155 rec156 a153 s' ih157 hF ⟨ok, hws⟩
                  refine WP_ws hws ?_
                  clear hws s'
                  rw [F_lecternref08_Read_l2] at hF
                  refine C_seq ?_
                  refine C_seq ?_
                  refine C_reg (mdl []) ?_
                  refine S_m (v := .int _ _) rfl ?_
                  refine S_m (v := .str _) rfl ?_
                  refine S_lenS rfl ty_st_9 ?_
                  refine S_bin rfl rfl (ev_lss ..) ?_
                  refine S_m (v := .bool _) rfl ?_
                  refine S_twoJ 5 134 hF (fun J159 hb158 hF => ?_) (fun J159 hb158 hF => ?_) (fun v160 hF => ?_)
                  ·
                    refine S_on rfl rfl hb158 ?_
                    refine S_in ?_
                    refine S_m (v := .str _) rfl ?_
                    refine S_nil ?_
                    refine S_on rfl rfl hb158 ?_
                    refine S_in ?_
                    refine S_m (v := .int _ _) rfl ?_
                    refine S_nil ?_
                    refine S_on rfl rfl hb158 ?_
                    refine S_in ?_
                    refine S_ixS rfl rfl ty_st_9 hF (fun x161 _ hF => ?_)
                    refine S_nil ?_
                    refine S_on rfl rfl hb158 ?_
                    refine S_in ?_
                    refine S_bin rfl rfl (ev_neq ..) ?_
                    refine S_nil ?_
                    refine S_pickT (v := .bool _) rfl hb158 rfl ?_
                    refine S_nil ?_
                    refine ⟨_, hF, .hd (.refl _) ?_⟩
                    repeat (first | with_reducible exact WS.refl _ | refine WS.add ?_ rfl)
                  ·
                    refine S_off rfl rfl hb158 ?_
                    refine S_offD ?_
                    refine S_off rfl rfl hb158 ?_
                    refine S_offD ?_
                    refine S_off rfl rfl hb158 ?_
                    refine S_offD ?_
                    refine S_off rfl rfl hb158 ?_
                    refine S_offD ?_
                    refine S_pickF (v := .bool _) rfl hb158 rfl ?_
                    refine S_nil ?_
                    refine ⟨_, hF, .hd (.refl _) ?_⟩
                    repeat (first | with_reducible exact WS.refl _ | refine WS.add ?_ rfl)
                  ·
                    refine S_nil ?_
                    refine C_if (b := v160) rfl hF (fun hb162 hF => ?_) (fun hb162 hF => ?_)
                    ·
                      refine WP_skip ?_
                      refine WP_block ?_
                      refine C_reg (mdl []) ?_
                      refine S_m (v := .int _ _) rfl ?_
                      refine S_bin rfl rfl (ev_add ..) ?_
                      refine S_a (v := .int _ _) rfl ?_
                      refine S_nil ?_
                      refine ih157 (IntKind.wrap .i64 (a153 + (1 : Int))) _ hF ?_
                      have hwo : WO [(g65, .room), (i2, .cells [.sl 1 (List.map c_i64 a64) g65, .bool true, .str a67, .str a68]), (i1, .cells [.sl 1 (List.map c_i64 a60) 0, .bool a61, .str a62, .str a63])] [(g65, .room), (i2, .cells [.sl 1 (List.map c_i64 a64) g65, .bool true, .str a67, .str a68]), (i1, .cells [.sl 1 (List.map c_i64 a60) 0, .bool a61, .str a62, .str a63])] := (.keep (.keep (.keep .nil)))
                      exact ⟨(hwo.spec ok).1, WS.mk' (.cons (.refl _) (.cons (.refl _) (.cons (.refl _) (.cons (.refl _) (.cons (.refl _) .nil))))) ok hwo⟩
                    ·
                      refine WP_exit ?_
                      simp only [Exit.sel, Exit.blk, if_true, if_false, reduceIte, Nat.reduceEqDiff, Nat.succ_ne_zero, Nat.zero_ne_one, Nat.one_ne_zero]
                      replace hF := hG155 _ (F_some hF)
                      have hwo : WO [(g65, .room), (i2, .cells [.sl 1 (List.map c_i64 a64) g65, .bool true, .str a67, .str a68]), (i1, .cells [.sl 1 (List.map c_i64 a60) 0, .bool a61, .str a62, .str a63])] [(g65, .room), (i2, .cells [.sl 1 (List.map c_i64 a64) g65, .bool true, .str a67, .str a68]), (i1, .cells [.sl 1 (List.map c_i64 a60) 0, .bool a61, .str a62, .str a63])] := (.keep (.keep (.keep .nil)))
                      exact ⟨a153, hF, (hwo.spec ok).1, WS.mk' (.cons (.refl _) (.cons (.refl _) (.cons (.refl _) (.cons (.refl _) (.cons (.refl _) .nil))))) ok hwo⟩
              ·
                rintro a151 s' hF ⟨ok, hws⟩
                refine WP_ws hws ?_
                clear hws s'
                refine C_seq ?_
                refine C_reg (mdl []) ?_
                refine S_m (v := .str _) rfl ?_
                refine S_m (v := .int _ _) rfl ?_
                refine S_bin rfl rfl (ev_add ..) ?_
                refine S_m (v := .int _ _) rfl ?_
                refine S_slS rfl ty_st_9 (bd_at rfl) (bd_at rfl) hF (fun x163 _ hF => ?_)
                refine S_faP rfl ty_fd_34_2 ty_sz_24 ?_
                refine S_faP rfl ty_fd_24_1 ty_sz_9 ?_
                refine S_st (j := 1) (cs' := [.sl 1 (List.map c_i64 a64) g65, .bool true, .str a67, .str x163]) ok rfl rfl rfl hi2 rfl ty_sz_9 rfl rfl (fun ok => ?_)
                refine S_nil ?_
                refine C_join hF (fun (a169 : (List UInt8)) s' => OK h [(g65, .room), (i2, .cells [.sl 1 (List.map c_i64 a64) g65, .bool true, .str a169, .str x163]), (i1, .cells [.sl 1 (List.map c_i64 a60) 0, .bool a61, .str a62, .str a63])] ∧ WS s' ⟨mkSl 174 [(2, .ptr i1 0), (4, .ptr i2 0)], Hp h [(g65, .room), (i2, .cells [.sl 1 (List.map c_i64 a64) g65, .bool true, .str a169, .str x163]), (i1, .cells [.sl 1 (List.map c_i64 a60) 0, .bool a61, .str a62, .str a63])]⟩) (fun J170 hF => ?_) ?_
                ·
                  refine C_seq ?_
                  refine C_reg (mdl []) ?_
                  refine S_m (v := .int _ _) rfl ?_
                  refine S_m (v := .str _) rfl ?_
                  refine S_lenS rfl ty_st_9 ?_
                  refine S_bin rfl rfl (ev_lss ..) ?_
                  refine S_nil ?_
                  refine C_if (b := (decide (a151 < (p0.length : Int)))) rfl hF (fun hb171 hF => ?_) (fun hb171 hF => ?_)
                  ·
                    refine C_seq ?_
                    refine C_seq ?_
                    refine C_reg (mdl []) ?_
                    refine S_m (v := .str _) rfl ?_
                    refine S_m (v := .str _) rfl ?_
                    refine S_lenS rfl ty_st_9 ?_
                    refine S_bin rfl rfl (ev_sub ..) ?_
                    refine S_ixS rfl rfl ty_st_9 hF (fun x172 _ hF => ?_)
                    refine S_bin rfl rfl (ev_neq ..) ?_
                    refine S_m (v := .bool _) rfl ?_
                    refine S_two (b := ((x172.toNat : Int) != (125 : Int))) 6 160 (.bool (((x172.toNat : Int) != (125 : Int)) || (decide ((p0.length : Int) ≤ (IntKind.wrap .i64 (a151 + (2 : Int))))))) (fun hb173 => ?_) (fun hb173 => ?_) ?_
                    ·
                      refine S_off rfl rfl hb173 ?_
                      refine S_offD ?_
                      refine S_off rfl rfl hb173 ?_
                      refine S_offD ?_
                      refine S_off rfl rfl hb173 ?_
                      refine S_offD ?_
                      refine S_off rfl rfl hb173 ?_
                      refine S_offD ?_
                      refine S_off rfl rfl hb173 ?_
                      refine S_offD ?_
                      refine S_pickT (v := .bool _) rfl hb173 rfl ?_
                      refine S_nil ?_
                      refine .hd (or_t hb173) ?_
                      repeat (first | with_reducible exact WS.refl _ | refine WS.add ?_ rfl)
                    ·
                      refine S_on rfl rfl hb173 ?_
                      refine S_in ?_
                      refine S_m (v := .int _ _) rfl ?_
                      refine S_nil ?_
                      refine S_on rfl rfl hb173 ?_
                      refine S_in ?_
                      refine S_bin rfl rfl (ev_add ..) ?_
                      refine S_nil ?_
                      refine S_on rfl rfl hb173 ?_
                      refine S_in ?_
                      refine S_m (v := .str _) rfl ?_
                      refine S_nil ?_
                      refine S_on rfl rfl hb173 ?_
                      refine S_in ?_
                      refine S_lenS rfl ty_st_9 ?_
                      refine S_nil ?_
                      refine S_on rfl rfl hb173 ?_
                      refine S_in ?_
                      refine S_bin rfl rfl (ev_geq ..) ?_
                      refine S_nil ?_
                      refine S_pickF (v := .bool _) rfl hb173 rfl ?_
                      refine S_nil ?_
                      refine .hd (or_f hb173) ?_
                      repeat (first | with_reducible exact WS.refl _ | refine WS.add ?_ rfl)
                    refine S_nil ?_
                    refine C_if (b := (((x172.toNat : Int) != (125 : Int)) || (decide ((p0.length : Int) ≤ (IntKind.wrap .i64 (a151 + (2 : Int))))))) rfl hF (fun hb174 hF => ?_) (fun hb174 hF => ?_)
                    ·
                      refine C_seq ?_
                      refine C_reg (mdl []) ?_
                      refine S_bld (v := .agg [.snil, .bool false, .str ([] : List UInt8), .str ([] : List UInt8)]) (b_st ty_zc_34 ty_pl_34 rfl) ?_
                      refine S_one 161 (v := .agg (c_T_trail_Trail (⟨([] : List Int), false, (⟨([] : List UInt8), ([] : List UInt8)⟩ : T_api_Name)⟩ : T_trail_Trail))) (.aggC (.cons (.nil _) (.cons (.refl _) (.cons (.refl _) (.cons (.refl _) (.nil)))))) ?_
                      refine S_st (j := 2) (cs' := [.sl 1 (List.map c_i64 (⟨([] : List Int), false, (⟨([] : List UInt8), ([] : List UInt8)⟩ : T_api_Name)⟩ : T_trail_Trail).Steps) 0, .bool (⟨([] : List Int), false, (⟨([] : List UInt8), ([] : List UInt8)⟩ : T_api_Name)⟩ : T_trail_Trail).Attr, .str (⟨([] : List Int), false, (⟨([] : List UInt8), ([] : List UInt8)⟩ : T_api_Name)⟩ : T_trail_Trail).Name.URI, .str (⟨([] : List Int), false, (⟨([] : List UInt8), ([] : List UInt8)⟩ : T_api_Name)⟩ : T_trail_Trail).Name.Local]) ok rfl rfl rfl hi1 rfl ty_sz_34 rfl rfl (fun ok => ?_)
                      refine S_a (v := .bool _) rfl ?_
                      refine S_nil ?_
                      refine WP_ret ?_
                      repeat (first | with_reducible refine Exit.sel_ret ?_ | with_reducible refine Exit.blk_ret ?_)
                      refine C_ret (fn := Tryd.f15) rfl (.cell rfl (ld_ptr (j := 2) ok rfl hi1 (p_agg (vs := [.sl 1 (List.map c_i64 (⟨([] : List Int), false, (⟨([] : List UInt8), ([] : List UInt8)⟩ : T_api_Name)⟩ : T_trail_Trail).Steps) 0, .bool (⟨([] : List Int), false, (⟨([] : List UInt8), ([] : List UInt8)⟩ : T_api_Name)⟩ : T_trail_Trail).Attr, .str (⟨([] : List Int), false, (⟨([] : List UInt8), ([] : List UInt8)⟩ : T_api_Name)⟩ : T_trail_Trail).Name.URI, .str (⟨([] : List Int), false, (⟨([] : List UInt8), ([] : List UInt8)⟩ : T_api_Name)⟩ : T_trail_Trail).Name.Local]) ty_ag_34 ty_sz_34 rfl rfl)) (.tmp (v := .bool false) rfl .nil)) ?_
                      exact ⟨_, _, (.tupC (.cons (.aggC (.cons (.refl _) (.cons (.refl _) (.cons (.refl _) (.cons (.refl _) (.nil)))))) (.cons (.refl _) (.nil)))), ok.wh, _, F_some hF, rfl, rfl⟩
                    ·
                      refine WP_skip ?_
                      refine C_reg (mdl []) ?_
                      refine S_m (v := .str _) rfl ?_
                      refine S_m (v := .int _ _) rfl ?_
                      refine S_bin rfl rfl (ev_add ..) ?_
                      refine S_m (v := .str _) rfl ?_
                      refine S_lenS rfl ty_st_9 ?_
                      refine S_bin rfl rfl (ev_sub ..) ?_
                      refine S_slS rfl ty_st_9 (bd_at rfl) (bd_at rfl) hF (fun x175 _ hF => ?_)
                      refine S_faP rfl ty_fd_34_2 ty_sz_24 ?_
                      refine S_faP rfl ty_fd_24_0 ty_sz_9 ?_
                      refine S_st (j := 1) (cs' := [.sl 1 (List.map c_i64 a64) g65, .bool true, .str x175, .str x163]) ok rfl rfl rfl hi2 rfl ty_sz_9 rfl rfl (fun ok => ?_)
                      refine S_nil ?_
                      have hwo : WO [(g65, .room), (i2, .cells [.sl 1 (List.map c_i64 a64) g65, .bool true, .str x175, .str x163]), (i1, .cells [.sl 1 (List.map c_i64 a60) 0, .bool a61, .str a62, .str a63])] [(g65, .room), (i2, .cells [.sl 1 (List.map c_i64 a64) g65, .bool true, .str x175, .str x163]), (i1, .cells [.sl 1 (List.map c_i64 a60) 0, .bool a61, .str a62, .str a63])] := (.keep (.keep (.keep .nil)))
                      exact ⟨x175, hF, (hwo.spec ok).1, WS.mk' (.cons (.refl _) (.cons (.refl _) .nil)) ok hwo⟩
                  ·
                    refine WP_skip ?_
                    have hwo : WO [(g65, .room), (i2, .cells [.sl 1 (List.map c_i64 a64) g65, .bool true, .str a67, .str x163]), (i1, .cells [.sl 1 (List.map c_i64 a60) 0, .bool a61, .str a62, .str a63])] [(g65, .room), (i2, .cells [.sl 1 (List.map c_i64 a64) g65, .bool true, .str a67, .str x163]), (i1, .cells [.sl 1 (List.map c_i64 a60) 0, .bool a61, .str a62, .str a63])] := (.keep (.keep (.keep .nil)))
                    exact ⟨a67, hF, (hwo.spec ok).1, WS.mk' (.cons (.refl _) (.cons (.refl _) .nil)) ok hwo⟩
                ·
                  rintro a169 s' hF ⟨ok, hws⟩
                  refine WP_ws hws ?_
                  clear hws s'
                  refine C_seq ?_
                  refine C_fork (mdl []) [1] [0, 2, 3, 4] [2, 0, 3, 4] [_] [_, _, _, _] [_, _, _, _] (by kernel_rfl) rfl rfl rfl rfl (by kernel_rfl) ?_
                  refine S_ldP (j := 1) ok rfl rfl rfl hi2 (p_agg (vs := [.sl 1 (List.map c_i64 a64) g65, .bool true, .str a169, .str x163]) ty_ag_34 ty_sz_34 rfl rfl) ?_
                  refine S_nil ?_
                  refine ⟨?_, ?_⟩
                  ·
                    refine S_ldP (j := 1) ok rfl rfl rfl hi2 (p_agg (vs := [.sl 1 (List.map c_i64 a64) g65, .bool true, .str a169, .str x163]) ty_ag_34 ty_sz_34 rfl rfl) ?_
                    refine S_call (F_lecternref08_Right_ok _ hF fun x176 _ hF => ?_) (.cons (.aggC (.cons (.zero _ _ _) (.cons (.refl _) (.cons (.refl _) (.cons (.refl _) (.nil)))))) (.nil))
                    refine S_st (j := 2) (cs' := [.sl 1 (List.map c_i64 a64) g65, .bool true, .str a169, .str x163]) ok rfl rfl rfl hi1 rfl ty_sz_34 rfl rfl (fun ok => ?_)
                    refine S_a (v := .bool _) rfl ?_
                    refine S_nil ?_
                    refine WP_ret ?_
                    repeat (first | with_reducible refine Exit.sel_ret ?_ | with_reducible refine Exit.blk_ret ?_)
                    refine C_ret (fn := Tryd.f15) rfl (.cell rfl (ld_ptr (j := 2) ok rfl hi1 (p_agg (vs := [.sl 1 (List.map c_i64 a64) g65, .bool true, .str a169, .str x163]) ty_ag_34 ty_sz_34 rfl rfl)) (.tmp (v := .bool x176) rfl .nil)) ?_
                    exact ⟨_, _, (.tupC (.cons (.aggC (.cons (.zero _ _ _) (.cons (.refl _) (.cons (.refl _) (.cons (.refl _) (.nil)))))) (.cons (.refl _) (.nil)))), ok.wh, _, F_some hF, rfl, rfl⟩
                  ·
                    refine S_call (F_lecternref08_Right_ok _ hF fun x177 _ hF => ?_) (.cons (.aggC (.cons (.zero _ _ _) (.cons (.refl _) (.cons (.refl _) (.cons (.refl _) (.nil)))))) (.nil))
                    refine S_ldP (j := 1) ok rfl rfl rfl hi2 (p_agg (vs := [.sl 1 (List.map c_i64 a64) g65, .bool true, .str a169, .str x163]) ty_ag_34 ty_sz_34 rfl rfl) ?_
                    refine S_st (j := 2) (cs' := [.sl 1 (List.map c_i64 a64) g65, .bool true, .str a169, .str x163]) ok rfl rfl rfl hi1 rfl ty_sz_34 rfl rfl (fun ok => ?_)
                    refine S_a (v := .bool _) rfl ?_
                    refine S_nil ?_
                    refine WP_ret ?_
                    repeat (first | with_reducible refine Exit.sel_ret ?_ | with_reducible refine Exit.blk_ret ?_)
                    refine C_ret (fn := Tryd.f15) rfl (.cell rfl (ld_ptr (j := 2) ok rfl hi1 (p_agg (vs := [.sl 1 (List.map c_i64 a64) g65, .bool true, .str a169, .str x163]) ty_ag_34 ty_sz_34 rfl rfl)) (.tmp (v := .bool x177) rfl .nil)) ?_
                    exact ⟨_, _, (.tupC (.cons (.aggC (.cons (.zero _ _ _) (.cons (.refl _) (.cons (.refl _) (.cons (.refl _) (.nil)))))) (.cons (.refl _) (.nil)))), ok.wh, _, F_some hF, rfl, rfl⟩
theorem F_lecternref08_Read_ok {β : Type} {f : T_trail_Trail × Bool → Option β} {G : β → Prop} {R : D → Heap → Prop} {p0 : List UInt8} (h : Heap) (hF : OptP ((F_lecternref08_Read p0).bind f) G) (hk : ∀ r, F_lecternref08_Read p0 = some r → OptP (f r) G → R (.tup [.agg (c_T_trail_Trail r.1), .bool r.2]) h) : CallsA Tryd.prog 15 [.str p0] h R := by
  obtain ⟨r0, hr, hF⟩ := F_bind hF
  refine (F_lecternref08_Read_w (G := fun r => r = r0) p0 h ⟨r0, hr, rfl⟩).mono ?_
  rintro _ _ ⟨r, rfl, rfl, rfl⟩
  exact hk _ hr hF
theorem F_lecternref05_SameInts_w (p0 : List Int) (p1 : List Int) {G : Bool → Prop} (h : Heap) (hF : OptP (F_lecternref05_SameInts p0 p1) G) : CallsA Tryd.prog 34 [.sl 1 (List.map c_i64 p0) 0, .sl 1 (List.map c_i64 p1) 0] h fun d h' => ∃ r, G r ∧ d = .bool r ∧ h' = h := by
  refine CallsA.ret ?_
  refine C_body Tryd.func34 rfl en_34 Tryd.ntmps34 rfl (fun ok => ?_)
  rw [F_lecternref05_SameInts] at hF
  refine C_seq ?_
  refine C_reg (mdl []) ?_
  refine S_a (v := .bool _) rfl ?_
  refine S_nil ?_
  refine C_seq ?_
  refine C_seq ?_
  refine C_reg (mdl []) ?_
  refine S_m (v := .sl _ _ _) rfl ?_
  refine S_lenL rfl ty_sl_22 ?_
  refine S_m (v := .sl _ _ _) rfl ?_
  refine S_lenL rfl ty_sl_22 ?_
  refine S_bin rfl rfl (ev_neq ..) ?_
  refine S_nil ?_
  refine C_if (b := ((p0.length : Int) != (p1.length : Int))) rfl hF (fun hb1 hF => ?_) (fun hb1 hF => ?_)
  ·
    refine C_seq ?_
    refine C_reg (mdl []) ?_
    refine S_a (v := .bool _) rfl ?_
    refine S_nil ?_
    refine WP_ret ?_
    repeat (first | with_reducible refine Exit.sel_ret ?_ | with_reducible refine Exit.blk_ret ?_)
    refine C_ret (fn := Tryd.f34) rfl (.tmp (v := .bool false) rfl .nil) ?_
    exact ⟨_, _, (.refl _), ok.wh, _, F_some hF, rfl, rfl⟩
  ·
    refine WP_skip ?_
    refine C_join hF (fun (_ : Unit) s' => OK h [] ∧ WS s' ⟨mkSl 26 [], Hp h []⟩) (fun J7 hF => ?_) ?_
    ·
      refine C_seq ?_
      refine C_reg (mdl []) ?_
      refine S_m (v := .sl _ _ _) rfl ?_
      refine S_lenL rfl ty_sl_22 ?_
      refine S_m (v := .int _ _) rfl ?_
      refine S_nil ?_
      refine WP_block ?_
      refine C_loop (σ := Int) hF (fun (a8 : Int) s' => OK h [] ∧ WS s' ⟨mkSl 26 [(0, .sl 1 (List.map c_i64 p0) 0), (1, .sl 1 (List.map c_i64 p1) 0), (12, .int .i64 (p0.length : Int)), (13, .int .i64 a8)], Hp h []⟩) ?_ ?_
      ·
        have hwo : WO [] [] := .nil
        exact ⟨(hwo.spec ok).1, WS.mk' (.cons (.refl _) (.cons (.refl _) (.cons (.refl _) (.cons (.refl _) .nil)))) ok hwo⟩
      ·
        rintro G9 hG10 rec11 a8 s' ih12 hF ⟨ok, hws⟩
        refine WP_ws hws ?_
        clear hws s'
        rw [F_lecternref05_SameInts_l0] at hF
        refine C_seq ?_
        refine C_reg (mdl []) ?_
        refine S_bin rfl rfl (ev_lss ..) ?_
        refine S_nil ?_
        refine C_seq ?_
        refine C_if (b := (decide (a8 < (p0.length : Int)))) rfl hF (fun hb13 hF => ?_) (fun hb13 hF => ?_)
        ·
          refine WP_skip ?_
          refine C_seq ?_
          refine WP_block ?_
          refine C_seq ?_
          refine C_reg (mdl []) ?_
          refine S_m (v := .int _ _) rfl ?_
          refine S_a (v := .int _ _) rfl ?_
          refine S_nil ?_
          refine C_seq ?_
          refine C_drw (mdl [(19, 3), (23, 3)]) (by kernel_rfl) (by kernel_rfl) ?_
          refine S_m (v := .sl _ _ _) rfl ?_
          refine S_m (v := .int _ _) rfl ?_
          refine S_ix rfl rfl ty_sl_22 ty_sz_3 hF (fun x14 _ hF => ?_)
          refine S_ldQ rfl (p_one ty_ag_3 ty_sz_3 rfl) ?_
          refine S_m (v := .sl _ _ _) rfl ?_
          refine S_m (v := .int _ _) rfl ?_
          refine S_ix rfl rfl ty_sl_22 ty_sz_3 hF (fun x15 _ hF => ?_)
          refine S_ldQ rfl (p_one ty_ag_3 ty_sz_3 rfl) ?_
          refine S_bin rfl rfl (ev_neq ..) ?_
          refine S_nil ?_
          refine C_if (b := (x14 != x15)) rfl hF (fun hb16 hF => ?_) (fun hb16 hF => ?_)
          ·
            refine C_seq ?_
            refine C_reg (mdl []) ?_
            refine S_a (v := .bool _) rfl ?_
            refine S_nil ?_
            refine WP_ret ?_
            replace hF := hG10 _ (F_some hF)
            repeat (first | with_reducible refine Exit.sel_ret ?_ | with_reducible refine Exit.blk_ret ?_)
            refine C_ret (fn := Tryd.f34) rfl (.tmp (v := .bool false) rfl .nil) ?_
            exact ⟨_, _, (.refl _), ok.wh, _, F_some hF, rfl, rfl⟩
          ·
            refine WP_skip ?_
            refine C_reg (mdl []) ?_
            refine S_bin rfl rfl (ev_add ..) ?_
            refine S_m (v := .int _ _) rfl ?_
            refine S_nil ?_
            refine ih12 (IntKind.wrap .i64 (a8 + (1 : Int))) _ hF ?_
            have hwo : WO [] [] := .nil
            exact ⟨(hwo.spec ok).1, WS.mk' (.cons (.refl _) (.cons (.refl _) (.cons (.refl _) (.cons (.refl _) .nil)))) ok hwo⟩
        ·
          refine WP_exit ?_
          simp only [Exit.sel, Exit.blk, if_true, if_false, reduceIte, Nat.reduceEqDiff, Nat.succ_ne_zero, Nat.zero_ne_one, Nat.one_ne_zero]
          replace hF := hG10 _ (F_some hF)
          have hwo : WO [] [] := .nil
          exact ⟨(), hF, (hwo.spec ok).1, WS.mk' .nil ok hwo⟩
    ·
      rintro ⟨⟩ s' hF ⟨ok, hws⟩
      refine WP_ws hws ?_
      clear hws s'
      refine C_seq ?_
      refine C_reg (mdl []) ?_
      refine S_a (v := .bool _) rfl ?_
      refine S_nil ?_
      refine WP_ret ?_
      repeat (first | with_reducible refine Exit.sel_ret ?_ | with_reducible refine Exit.blk_ret ?_)
      refine C_ret (fn := Tryd.f34) rfl (.tmp (v := .bool true) rfl .nil) ?_
      exact ⟨_, _, (.refl _), ok.wh, _, F_some hF, rfl, rfl⟩
theorem F_lecternref05_SameInts_ok {β : Type} {f : Bool → Option β} {G : β → Prop} {R : D → Heap → Prop} {p0 : List Int} {p1 : List Int} (h : Heap) (hF : OptP ((F_lecternref05_SameInts p0 p1).bind f) G) (hk : ∀ r, F_lecternref05_SameInts p0 p1 = some r → OptP (f r) G → R (.bool r) h) : CallsA Tryd.prog 34 [.sl 1 (List.map c_i64 p0) 0, .sl 1 (List.map c_i64 p1) 0] h R := by
  obtain ⟨r0, hr, hF⟩ := F_bind hF
  refine (F_lecternref05_SameInts_w (G := fun r => r = r0) p0 p1 h ⟨r0, hr, rfl⟩).mono ?_
  rintro _ _ ⟨r, rfl, rfl, rfl⟩
  exact hk _ hr hF
theorem F_lecternref08_Same_w (p0 : T_trail_Trail) (p1 : T_trail_Trail) {G : Bool → Prop} (h : Heap) (hF : OptP (F_lecternref08_Same p0 p1) G) : CallsA Tryd.prog 16 [.agg (c_T_trail_Trail p0), .agg (c_T_trail_Trail p1)] h fun d h' => ∃ r, G r ∧ d = .bool r ∧ h' = h := by
  refine CallsA.ret ?_
  refine C_body Tryd.func16 rfl en_16 Tryd.ntmps16 rfl (fun ok => ?_)
  rw [F_lecternref08_Same] at hF
  refine C_seq ?_
  refine C_reg (mdl []) ?_
  refine S_box0 rfl rfl rfl rfl ?_
  refine S_box0 rfl rfl rfl rfl ?_
  refine S_a (v := .bool _) rfl ?_
  refine S_nil ?_
  refine C_seq ?_
  refine C_reg (mdl []) ?_
  refine S_faQ rfl ty_fd_34_1 ty_sz_4 rfl ?_
  refine S_ldQ rfl (p_one ty_ag_4 ty_sz_4 rfl) ?_
  refine S_faQ rfl ty_fd_34_1 ty_sz_4 rfl ?_
  refine S_ldQ rfl (p_one ty_ag_4 ty_sz_4 rfl) ?_
  refine S_bin rfl rfl (e_beq ty_bo_4) ?_
  refine S_m (v := .bool _) rfl ?_
  refine S_two (b := (p0.Attr == p1.Attr)) 6 16 (.bool ((p0.Attr == p1.Attr) && ((p0.Name.URI == p1.Name.URI) && ((p0.Name.Local == p1.Name.Local) && true)))) (fun hb1 => ?_) (fun hb1 => ?_) ?_
  ·
    refine S_on rfl rfl hb1 ?_
    refine S_in ?_
    refine S_faQ rfl ty_fd_34_2 ty_sz_24 rfl ?_
    refine S_nil ?_
    refine S_on rfl rfl hb1 ?_
    refine S_in ?_
    refine S_ldQ rfl (p_agg (vs := c_T_api_Name p0.Name) ty_ag_24 ty_sz_24 rfl rfl) ?_
    refine S_nil ?_
    refine S_on rfl rfl hb1 ?_
    refine S_in ?_
    refine S_faQ rfl ty_fd_34_2 ty_sz_24 rfl ?_
    refine S_nil ?_
    refine S_on rfl rfl hb1 ?_
    refine S_in ?_
    refine S_ldQ rfl (p_agg (vs := c_T_api_Name p1.Name) ty_ag_24 ty_sz_24 rfl rfl) ?_
    refine S_nil ?_
    refine S_on rfl rfl hb1 ?_
    refine S_in ?_
    refine S_bin rfl rfl (e_agg (b := ((p0.Name.URI == p1.Name.URI) && ((p0.Name.Local == p1.Name.Local) && true))) ty_qg_24 ty_sf_24 (by simp only [c_T_api_Name, ev_eqF_cons, ev_eqF_nil, ev_part, ty_sf_24, ty_qg_24, ty_ag_9, ty_sz_9, ty_st_9, ty_ag_9, ty_sz_9, ty_st_9, ev_eq_int, ev_eq_str, ev_eq_bool, ev_eq_agg, ev_eq_int2, ev_eq_str2, ev_eq_bool2, List.drop_zero, List.drop_succ_cons, List.length_cons, List.length_nil, List.take_succ_cons, List.take_zero, Option.isSome_some, if_true, Option.bind_some, Option.map_some, Nat.reduceAdd, Nat.reduceLeDiff])) ?_
    refine S_nil ?_
    refine S_pickT (v := .bool _) rfl hb1 rfl ?_
    refine S_nil ?_
    refine .hd (and_t hb1) ?_
    repeat (first | with_reducible exact WS.refl _ | refine WS.add ?_ rfl)
  ·
    refine S_off rfl rfl hb1 ?_
    refine S_offD ?_
    refine S_off rfl rfl hb1 ?_
    refine S_offD ?_
    refine S_off rfl rfl hb1 ?_
    refine S_offD ?_
    refine S_off rfl rfl hb1 ?_
    refine S_offD ?_
    refine S_off rfl rfl hb1 ?_
    refine S_offD ?_
    refine S_pickF (v := .bool _) rfl hb1 rfl ?_
    refine S_nil ?_
    refine .hd (and_f hb1) ?_
    repeat (first | with_reducible exact WS.refl _ | refine WS.add ?_ rfl)
  refine S_m (v := .bool _) rfl ?_
  refine S_twoJ 6 23 hF (fun J3 hb2 hF => ?_) (fun J3 hb2 hF => ?_) (fun v4 hF => ?_)
  ·
    refine S_on rfl rfl hb2 ?_
    refine S_in ?_
    refine S_faQ rfl ty_fd_34_0 ty_sz_22 rfl ?_
    refine S_nil ?_
    refine S_on rfl rfl hb2 ?_
    refine S_in ?_
    refine S_ldQ rfl (p_one ty_ag_22 ty_sz_22 rfl) ?_
    refine S_nil ?_
    refine S_on rfl rfl hb2 ?_
    refine S_in ?_
    refine S_faQ rfl ty_fd_34_0 ty_sz_22 rfl ?_
    refine S_nil ?_
    refine S_on rfl rfl hb2 ?_
    refine S_in ?_
    refine S_ldQ rfl (p_one ty_ag_22 ty_sz_22 rfl) ?_
    refine S_nil ?_
    refine S_on rfl rfl hb2 ?_
    refine S_in ?_
    refine S_call (F_lecternref05_SameInts_ok _ hF fun x5 _ hF => ?_) (.cons (.refl _) (.cons (.refl _) (.nil)))
    refine S_nil ?_
    refine S_pickT (v := .bool _) rfl hb2 rfl ?_
    refine S_nil ?_
    refine ⟨_, hF, .hd (.refl _) ?_⟩
    repeat (first | with_reducible exact WS.refl _ | refine WS.add ?_ rfl)
  ·
    refine S_off rfl rfl hb2 ?_
    refine S_offD ?_
    refine S_off rfl rfl hb2 ?_
    refine S_offD ?_
    refine S_off rfl rfl hb2 ?_
    refine S_offD ?_
    refine S_off rfl rfl hb2 ?_
    refine S_offD ?_
    refine S_off rfl rfl hb2 ?_
    refine S_offD ?_
    refine S_pickF (v := .bool _) rfl hb2 rfl ?_
    refine S_nil ?_
    refine ⟨_, hF, .hd (.refl _) ?_⟩
    repeat (first | with_reducible exact WS.refl _ | refine WS.add ?_ rfl)
  ·
    refine S_a (v := .bool _) rfl ?_
    refine S_nil ?_
    refine WP_ret ?_
    repeat (first | with_reducible refine Exit.sel_ret ?_ | with_reducible refine Exit.blk_ret ?_)
    refine C_ret (fn := Tryd.f16) rfl (.tmp (v := .bool v4) rfl .nil) ?_
    exact ⟨_, _, (.refl _), ok.wh, _, F_some hF, rfl, rfl⟩
theorem F_lecternref08_Same_ok {β : Type} {f : Bool → Option β} {G : β → Prop} {R : D → Heap → Prop} {p0 : T_trail_Trail} {p1 : T_trail_Trail} (h : Heap) (hF : OptP ((F_lecternref08_Same p0 p1).bind f) G) (hk : ∀ r, F_lecternref08_Same p0 p1 = some r → OptP (f r) G → R (.bool r) h) : CallsA Tryd.prog 16 [.agg (c_T_trail_Trail p0), .agg (c_T_trail_Trail p1)] h R := by
  obtain ⟨r0, hr, hF⟩ := F_bind hF
  refine (F_lecternref08_Same_w (G := fun r => r = r0) p0 p1 h ⟨r0, hr, rfl⟩).mono ?_
  rintro _ _ ⟨r, rfl, rfl, rfl⟩
  exact hk _ hr hF
theorem F_lecternlaw08_TrailTexts_w (p0 : T_trail_Trail) (p1 : List UInt8) {G : Bool → Prop} (h : Heap) (hF : OptP (F_lecternlaw08_TrailTexts p0 p1) G) : CallsA Tryd.prog 3 [.agg (c_T_trail_Trail p0), .str p1] h fun d h' => ∃ r, G r ∧ d = .bool r := by
  refine CallsA.ret ?_
  refine C_body Tryd.func3 rfl en_3 Tryd.ntmps3 rfl (fun ok => ?_)
  rw [F_lecternlaw08_TrailTexts] at hF
  refine C_seq ?_
  refine C_reg (mdl []) ?_
  refine S_box0 rfl rfl rfl rfl ?_
  refine S_a (v := .bool _) rfl ?_
  refine S_nil ?_
  refine C_seq ?_
  refine C_seq ?_
  refine C_reg (mdl []) ?_
  refine S_call (F_lecternlaw08_awake_ok _ hF fun x1 _ hF => ?_) (.nil)
  refine S_un rfl (ev_not _) ?_
  refine S_nil ?_
  refine C_if (b := (!x1)) rfl hF (fun hb2 hF => ?_) (fun hb2 hF => ?_)
  ·
    refine C_seq ?_
    refine C_reg (mdl []) ?_
    refine S_a (v := .bool _) rfl ?_
    refine S_nil ?_
    refine WP_ret ?_
    repeat (first | with_reducible refine Exit.sel_ret ?_ | with_reducible refine Exit.blk_ret ?_)
    refine C_ret (fn := Tryd.f3) rfl (.tmp (v := .bool false) rfl .nil) ?_
    exact ⟨_, _, (.refl _), WH.refl _, _, F_some hF, rfl⟩
  ·
    refine WP_skip ?_
    refine C_seq ?_
    refine C_reg (mdl []) ?_
    refine S_ldQ rfl (p_agg (vs := c_T_trail_Trail p0) ty_ag_26 ty_sz_26 rfl rfl) ?_
    refine S_call (F_trail_Show_ok _ hF fun x3 _ hF => ?_) (.cons (.refl _) (.nil))
    refine S_m (v := .tup _) rfl ?_
    refine S_ext rfl rfl ?_
    refine S_ext rfl rfl ?_
    refine S_a (v := .str _) rfl ?_
    refine S_a (v := .int _ _) rfl ?_
    refine S_nil ?_
    refine C_seq ?_
    refine C_reg (mdl [(7, 1)]) ?_
    refine S_m (v := .str _) rfl ?_
    refine S_call (F_trail_Read_ok _ hF fun x4 _ hF => ?_) (.cons (.refl _) (.nil))
    refine S_m (v := .tup _) rfl ?_
    refine S_ext rfl rfl ?_
    refine S_ext rfl rfl ?_
    refine S_all1 ok rfl ty_zc_26 ?_
    intro i5 hi5 ok
    refine S_st (j := 0) (cs' := [.sl 1 (List.map c_i64 x4.1.Steps) 0, .bool x4.1.Attr, .str x4.1.Name.URI, .str x4.1.Name.Local]) ok rfl rfl rfl hi5 rfl ty_sz_26 rfl rfl (fun ok => ?_)
    refine S_a (v := .int _ _) rfl ?_
    refine S_nil ?_
    refine C_seq ?_
    refine C_seq ?_
    refine C_reg (mdl []) ?_
    refine S_ldQ rfl (p_agg (vs := c_T_trail_Trail p0) ty_ag_26 ty_sz_26 rfl rfl) ?_
    refine S_call (F_lecternlaw08_doc_ok _ hF fun x6 _ hF => ?_) (.cons (.refl _) (.nil))
    refine S_call (F_lecternref08_Right_ok _ hF fun x7 _ hF => ?_) (.cons (.refl _) (.nil))
    refine S_m (v := .int _ _) rfl ?_
    refine S_bin rfl rfl (ev_eql ..) ?_
    refine S_bin rfl rfl (e_bne ty_bo_4) ?_
    refine S_m (v := .bool _) rfl ?_
    refine S_twoJ 10 39 hF (fun J9 hb8 hF => ?_) (fun J9 hb8 hF => ?_) (fun v10 hF => ?_)
    ·
      refine S_off rfl rfl hb8 ?_
      refine S_offD ?_
      refine S_off rfl rfl hb8 ?_
      refine S_offD ?_
      refine S_off rfl rfl hb8 ?_
      refine S_offD ?_
      refine S_off2 rfl rfl ?_
      refine S_offD ?_
      refine S_off2 rfl rfl ?_
      refine S_offD ?_
      refine S_off2 rfl rfl ?_
      refine S_offD ?_
      refine S_off2 rfl rfl ?_
      refine S_offD ?_
      refine S_off2 rfl rfl ?_
      refine S_offD ?_
      refine S_off rfl rfl hb8 ?_
      refine S_offD ?_
      refine S_pickT (v := .bool _) rfl hb8 rfl ?_
      refine S_nil ?_
      refine ⟨_, hF, .hd (.refl _) ?_⟩
      repeat (first | with_reducible exact WS.refl _ | refine WS.add ?_ rfl)
    ·
      refine S_on rfl rfl hb8 ?_
      refine S_in ?_
      refine S_m (v := .int _ _) rfl ?_
      refine S_nil ?_
      refine S_on rfl rfl hb8 ?_
      refine S_in ?_
      refine S_bin rfl rfl (ev_eql ..) ?_
      refine S_nil ?_
      refine S_on rfl rfl hb8 ?_
      refine S_in ?_
      refine S_m (v := .bool _) rfl ?_
      refine S_nil ?_
      refine S_twoJ 6 38 hF (fun J12 hb11 hF => ?_) (fun J12 hb11 hF => ?_) (fun v13 hF => ?_)
      ·
        refine S_on rfl rfl hb11 ?_
        refine S_in ?_
        refine S_m (v := .str _) rfl ?_
        refine S_nil ?_
        refine S_on rfl rfl hb11 ?_
        refine S_in ?_
        refine S_ldQ rfl (p_agg (vs := c_T_trail_Trail p0) ty_ag_26 ty_sz_26 rfl rfl) ?_
        refine S_nil ?_
        refine S_on rfl rfl hb11 ?_
        refine S_in ?_
        refine S_call (F_lecternlaw08_doc_ok _ hF fun x14 _ hF => ?_) (.cons (.refl _) (.nil))
        refine S_nil ?_
        refine S_on rfl rfl hb11 ?_
        refine S_in ?_
        refine S_call (F_lecternref08_Show_ok _ hF fun x15 _ hF => ?_) (.cons (.refl _) (.nil))
        refine S_nil ?_
        refine S_on rfl rfl hb11 ?_
        refine S_in ?_
        refine S_bin rfl rfl e_sneq ?_
        refine S_nil ?_
        refine S_on rfl rfl hb8 ?_
        refine S_in ?_
        refine S_pickT (v := .bool _) rfl hb11 rfl ?_
        refine S_nil ?_
        refine S_nil ?_
        refine ⟨_, hF, .hd (.refl _) ?_⟩
        repeat (first | with_reducible exact WS.refl _ | refine WS.add ?_ rfl)
      ·
        refine S_off rfl rfl hb11 ?_
        refine S_offD ?_
        refine S_off rfl rfl hb11 ?_
        refine S_offD ?_
        refine S_off rfl rfl hb11 ?_
        refine S_offD ?_
        refine S_off rfl rfl hb11 ?_
        refine S_offD ?_
        refine S_off rfl rfl hb11 ?_
        refine S_offD ?_
        refine S_on rfl rfl hb8 ?_
        refine S_in ?_
        refine S_pickF (v := .bool _) rfl hb11 rfl ?_
        refine S_nil ?_
        refine S_nil ?_
        refine ⟨_, hF, .hd (.refl _) ?_⟩
        repeat (first | with_reducible exact WS.refl _ | refine WS.add ?_ rfl)
      ·
        refine S_pickF (v := .bool _) rfl hb8 rfl ?_
        refine S_nil ?_
        refine ⟨_, hF, .hd (.refl _) ?_⟩
        repeat (first | with_reducible exact WS.refl _ | refine WS.add ?_ rfl)
    ·
      refine S_m (v := .bool _) rfl ?_
      refine S_two (b := v10) 11 51 (.bool (v10 || ((x3.2 != (0 : Int)) && ((x3.2 != (35 : Int)) || (!(x3.1 == ([] : List UInt8))))))) (fun hb16 => ?_) (fun hb16 => ?_) ?_
      ·
        refine S_off rfl rfl hb16 ?_
        refine S_offD ?_
        refine S_off rfl rfl hb16 ?_
        refine S_offD ?_
        refine S_off rfl rfl hb16 ?_
        refine S_offD ?_
        refine S_off2 rfl rfl ?_
        refine S_offD ?_
        refine S_off2 rfl rfl ?_
        refine S_offD ?_
        refine S_off2 rfl rfl ?_
        refine S_offD ?_
        refine S_off2 rfl rfl ?_
        refine S_offD ?_
        refine S_off2 rfl rfl ?_
        refine S_offD ?_
        refine S_off2 rfl rfl ?_
        refine S_offD ?_
        refine S_off rfl rfl hb16 ?_
        refine S_offD ?_
        refine S_pickT (v := .bool _) rfl hb16 rfl ?_
        refine S_nil ?_
        refine .hd (or_t hb16) ?_
        repeat (first | with_reducible exact WS.refl _ | refine WS.add ?_ rfl)
      ·
        refine S_on rfl rfl hb16 ?_
        refine S_in ?_
        refine S_m (v := .int _ _) rfl ?_
        refine S_nil ?_
        refine S_on rfl rfl hb16 ?_
        refine S_in ?_
        refine S_bin rfl rfl (ev_neq ..) ?_
        refine S_nil ?_
        refine S_on rfl rfl hb16 ?_
        refine S_in ?_
        refine S_m (v := .bool _) rfl ?_
        refine S_nil ?_
        refine S_two (b := (x3.2 != (0 : Int))) 7 50 (.bool ((x3.2 != (0 : Int)) && ((x3.2 != (35 : Int)) || (!(x3.1 == ([] : List UInt8)))))) (fun hb20 => ?_) (fun hb20 => ?_) ?_
        ·
          refine S_on rfl rfl hb20 ?_
          refine S_in ?_
          refine S_m (v := .int _ _) rfl ?_
          refine S_nil ?_
          refine S_on rfl rfl hb20 ?_
          refine S_in ?_
          refine S_bin rfl rfl (ev_neq ..) ?_
          refine S_nil ?_
          refine S_on rfl rfl hb20 ?_
          refine S_in ?_
          refine S_m (v := .bool _) rfl ?_
          refine S_nil ?_
          refine S_two (b := (x3.2 != (35 : Int))) 3 49 (.bool ((x3.2 != (35 : Int)) || (!(x3.1 == ([] : List UInt8))))) (fun hb22 => ?_) (fun hb22 => ?_) ?_
          ·
            refine S_off rfl rfl hb22 ?_
            refine S_offD ?_
            refine S_off rfl rfl hb22 ?_
            refine S_offD ?_
            refine S_on rfl rfl hb20 ?_
            refine S_in ?_
            refine S_pickT (v := .bool _) rfl hb22 rfl ?_
            refine S_nil ?_
            refine S_nil ?_
            refine .hd (or_t hb22) ?_
            repeat (first | with_reducible exact WS.refl _ | refine WS.add ?_ rfl)
          ·
            refine S_on rfl rfl hb22 ?_
            refine S_in ?_
            refine S_m (v := .str _) rfl ?_
            refine S_nil ?_
            refine S_on rfl rfl hb22 ?_
            refine S_in ?_
            refine S_bin rfl rfl e_sneq ?_
            refine S_nil ?_
            refine S_on rfl rfl hb20 ?_
            refine S_in ?_
            refine S_pickF (v := .bool _) rfl hb22 rfl ?_
            refine S_nil ?_
            refine S_nil ?_
            refine .hd (or_f hb22) ?_
            repeat (first | with_reducible exact WS.refl _ | refine WS.add ?_ rfl)
          refine S_on rfl rfl hb16 ?_
          refine S_in ?_
          refine S_pickT (v := .bool _) rfl hb20 rfl ?_
          refine S_nil ?_
          refine S_nil ?_
          refine .hd (and_t hb20) ?_
          repeat (first | with_reducible exact WS.refl _ | refine WS.add ?_ rfl)
        ·
          refine S_off rfl rfl hb20 ?_
          refine S_offD ?_
          refine S_off rfl rfl hb20 ?_
          refine S_offD ?_
          refine S_off rfl rfl hb20 ?_
          refine S_offD ?_
          refine S_off2 rfl rfl ?_
          refine S_offD ?_
          refine S_off2 rfl rfl ?_
          refine S_offD ?_
          refine S_off rfl rfl hb20 ?_
          refine S_offD ?_
          refine S_on rfl rfl hb16 ?_
          refine S_in ?_
          refine S_pickF (v := .bool _) rfl hb20 rfl ?_
          refine S_nil ?_
          refine S_nil ?_
          refine .hd (and_f hb20) ?_
          repeat (first | with_reducible exact WS.refl _ | refine WS.add ?_ rfl)
        refine S_pickF (v := .bool _) rfl hb16 rfl ?_
        refine S_nil ?_
        refine .hd (or_f hb16) ?_
        repeat (first | with_reducible exact WS.refl _ | refine WS.add ?_ rfl)
      refine S_nil ?_
      refine C_if (b := (v10 || ((x3.2 != (0 : Int)) && ((x3.2 != (35 : Int)) || (!(x3.1 == ([] : List UInt8))))))) rfl hF (fun hb23 hF => ?_) (fun hb23 hF => ?_)
      ·
        refine C_seq ?_
        refine C_reg (mdl []) ?_
        refine S_a (v := .bool _) rfl ?_
        refine S_nil ?_
        refine WP_ret ?_
        repeat (first | with_reducible refine Exit.sel_ret ?_ | with_reducible refine Exit.blk_ret ?_)
        refine C_ret (fn := Tryd.f3) rfl (.tmp (v := .bool false) rfl .nil) ?_
        exact ⟨_, _, (.refl _), WH.refl _, _, F_some hF, rfl⟩
      ·
        refine WP_skip ?_
        refine C_seq ?_
        refine C_reg (mdl [(9, 1)]) ?_
        refine S_m (v := .str _) rfl ?_
        refine S_call (F_lecternref08_Read_ok _ hF fun x24 _ hF => ?_) (.cons (.refl _) (.nil))
        refine S_m (v := .tup _) rfl ?_
        refine S_ext rfl rfl ?_
        refine S_ext rfl rfl ?_
        refine S_all1 ok rfl ty_zc_34 ?_
        intro i25 hi25 ok
        refine S_st (j := 0) (cs' := [.sl 1 (List.map c_i64 x24.1.Steps) 0, .bool x24.1.Attr, .str x24.1.Name.URI, .str x24.1.Name.Local]) ok rfl rfl rfl hi25 rfl ty_sz_34 rfl rfl (fun ok => ?_)
        refine S_a (v := .bool _) rfl ?_
        refine S_nil ?_
        refine C_seq ?_
        refine C_seq ?_
        refine C_reg (mdl []) ?_
        refine S_m (v := .bool _) rfl ?_
        refine S_un rfl (ev_not _) ?_
        refine S_nil ?_
        refine C_if (b := (!x24.2)) rfl hF (fun hb26 hF => ?_) (fun hb26 hF => ?_)
        ·
          refine C_seq ?_
          refine C_reg (mdl []) ?_
          refine S_m (v := .int _ _) rfl ?_
          refine S_bin rfl rfl (ev_eql ..) ?_
          refine S_m (v := .bool _) rfl ?_
          refine S_twoJ 5 66 hF (fun J28 hb27 hF => ?_) (fun J28 hb27 hF => ?_) (fun v29 hF => ?_)
          ·
            refine S_on rfl rfl hb27 ?_
            refine S_in ?_
            refine S_ldP (j := 1) ok rfl rfl rfl hi5 (p_agg (vs := c_T_trail_Trail x4.1) ty_ag_26 ty_sz_26 rfl rfl) ?_
            refine S_nil ?_
            refine S_on rfl rfl hb27 ?_
            refine S_in ?_
            refine S_call (F_lecternlaw08_doc_ok _ hF fun x30 _ hF => ?_) (.cons (.refl _) (.nil))
            refine S_nil ?_
            refine S_on rfl rfl hb27 ?_
            refine S_in ?_
            refine S_bld (v := .agg [.snil, .bool false, .str ([] : List UInt8), .str ([] : List UInt8)]) (b_st ty_zc_34 ty_pl_34 rfl) ?_
            refine S_nil ?_
            refine S_one 64 (v := .agg (c_T_trail_Trail (⟨([] : List Int), false, (⟨([] : List UInt8), ([] : List UInt8)⟩ : T_api_Name)⟩ : T_trail_Trail))) (.aggC (.cons (.nil _) (.cons (.refl _) (.cons (.refl _) (.cons (.refl _) (.nil)))))) ?_
            refine S_on rfl rfl hb27 ?_
            refine S_in ?_
            refine S_call (F_lecternref08_Same_ok _ hF fun x31 _ hF => ?_) (.cons (.refl _) (.cons (.refl _) (.nil)))
            refine S_nil ?_
            refine S_pickT (v := .bool _) rfl hb27 rfl ?_
            refine S_nil ?_
            refine ⟨_, hF, .hd (.refl _) ?_⟩
            repeat (first | with_reducible exact WS.refl _ | refine WS.add ?_ rfl)
          ·
            refine S_off rfl rfl hb27 ?_
            refine S_offD ?_
            refine S_off rfl rfl hb27 ?_
            refine S_offD ?_
            refine S_off rfl rfl hb27 ?_
            refine S_offD ?_
            refine S_off rfl rfl hb27 ?_
            refine S_offD ?_
            refine S_pickF (v := .bool _) rfl hb27 rfl ?_
            refine S_nil ?_
            refine ⟨_, hF, .hd (.refl _) ?_⟩
            repeat (first | with_reducible exact WS.refl _ | refine WS.add ?_ rfl)
          ·
            refine S_a (v := .bool _) rfl ?_
            refine S_nil ?_
            refine WP_ret ?_
            repeat (first | with_reducible refine Exit.sel_ret ?_ | with_reducible refine Exit.blk_ret ?_)
            refine C_ret (fn := Tryd.f3) rfl (.tmp (v := .bool v29) rfl .nil) ?_
            exact ⟨_, _, (.refl _), WH.refl _, _, F_some hF, rfl⟩
        ·
          refine WP_skip ?_
          refine C_join hF (fun (a38 : Bool) s' => OK h [] ∧ WS s' ⟨mkSl 75 [(4, .bool a38)], Hp h []⟩) (fun J39 hF => ?_) ?_
          ·
            refine C_fork (mdl []) [0, 1, 2, 3] [4, 5, 6, 7, 8] [5, 4, 6, 7, 8] [_, _, _, _] [_, _, _, _, _] [_, _, _, _, _] (by kernel_rfl) rfl rfl rfl rfl (by kernel_rfl) ?_
            refine S_m (v := .int _ _) rfl ?_
            refine S_bin rfl rfl (ev_eql ..) ?_
            refine S_m (v := .bool _) rfl ?_
            refine S_if (b := (x4.2 == (0 : Int))) hF (fun hb40 hF => ?_) (fun hb41 hF => ?_)
            ·
              refine S_on rfl rfl hb40 ?_
              refine S_in ?_
              refine S_ldP (j := 1) ok rfl rfl rfl hi5 (p_agg (vs := c_T_trail_Trail x4.1) ty_ag_26 ty_sz_26 rfl rfl) ?_
              refine S_nil ?_
              refine S_nil ?_
              refine ⟨?_, ?_⟩
              ·
                refine S_on rfl rfl hb40 ?_
                refine S_in ?_
                refine S_call (F_lecternlaw08_doc_ok _ hF fun x42 _ hF => ?_) (.cons (.refl _) (.nil))
                refine S_nil ?_
                refine S_on rfl rfl hb40 ?_
                refine S_in ?_
                refine S_ldP (j := 0) ok rfl rfl rfl hi25 (p_agg (vs := c_T_trail_Trail x24.1) ty_ag_34 ty_sz_34 rfl rfl) ?_
                refine S_nil ?_
                refine S_on rfl rfl hb40 ?_
                refine S_in ?_
                refine S_call (F_lecternref08_Same_ok _ hF fun x43 _ hF => ?_) (.cons (.refl _) (.cons (.refl _) (.nil)))
                refine S_nil ?_
                refine S_pickT (v := .bool _) rfl hb40 rfl ?_
                refine S_a (v := .bool _) rfl ?_
                refine S_nil ?_
                have hwo : WO [(i25, .cells [.sl 1 (List.map c_i64 x24.1.Steps) 0, .bool x24.1.Attr, .str x24.1.Name.URI, .str x24.1.Name.Local]), (i5, .cells [.sl 1 (List.map c_i64 x4.1.Steps) 0, .bool x4.1.Attr, .str x4.1.Name.URI, .str x4.1.Name.Local])] [] := (.drop (.drop .nil))
                exact ⟨x43, hF, (hwo.spec ok).1, WS.mk' (.cons (.refl _) .nil) ok hwo⟩
              ·
                refine S_on rfl rfl hb40 ?_
                refine S_in ?_
                refine S_ldP (j := 0) ok rfl rfl rfl hi25 (p_agg (vs := c_T_trail_Trail x24.1) ty_ag_34 ty_sz_34 rfl rfl) ?_
                refine S_nil ?_
                refine S_on rfl rfl hb40 ?_
                refine S_in ?_
                refine S_call (F_lecternlaw08_doc_ok _ hF fun x44 _ hF => ?_) (.cons (.refl _) (.nil))
                refine S_nil ?_
                refine S_on rfl rfl hb40 ?_
                refine S_in ?_
                refine S_call (F_lecternref08_Same_ok _ hF fun x45 _ hF => ?_) (.cons (.refl _) (.cons (.refl _) (.nil)))
                refine S_nil ?_
                refine S_pickT (v := .bool _) rfl hb40 rfl ?_
                refine S_a (v := .bool _) rfl ?_
                refine S_nil ?_
                have hwo : WO [(i25, .cells [.sl 1 (List.map c_i64 x24.1.Steps) 0, .bool x24.1.Attr, .str x24.1.Name.URI, .str x24.1.Name.Local]), (i5, .cells [.sl 1 (List.map c_i64 x4.1.Steps) 0, .bool x4.1.Attr, .str x4.1.Name.URI, .str x4.1.Name.Local])] [] := (.drop (.drop .nil))
                exact ⟨x45, hF, (hwo.spec ok).1, WS.mk' (.cons (.refl _) .nil) ok hwo⟩
            ·
              refine S_off rfl rfl hb41 ?_
              refine S_offD ?_
              refine S_nil ?_
              refine ⟨?_, ?_⟩
              ·
                refine S_off rfl rfl hb41 ?_
                refine S_offD ?_
                refine S_off rfl rfl hb41 ?_
                refine S_offD ?_
                refine S_off rfl rfl hb41 ?_
                refine S_offD ?_
                refine S_pickF (v := .bool _) rfl hb41 rfl ?_
                refine S_a (v := .bool _) rfl ?_
                refine S_nil ?_
                have hwo : WO [(i25, .cells [.sl 1 (List.map c_i64 x24.1.Steps) 0, .bool x24.1.Attr, .str x24.1.Name.URI, .str x24.1.Name.Local]), (i5, .cells [.sl 1 (List.map c_i64 x4.1.Steps) 0, .bool x4.1.Attr, .str x4.1.Name.URI, .str x4.1.Name.Local])] [] := (.drop (.drop .nil))
                exact ⟨false, hF, (hwo.spec ok).1, WS.mk' (.cons (.refl _) .nil) ok hwo⟩
              ·
                refine S_off rfl rfl hb41 ?_
                refine S_offD ?_
                refine S_off rfl rfl hb41 ?_
                refine S_offD ?_
                refine S_off rfl rfl hb41 ?_
                refine S_offD ?_
                refine S_pickF (v := .bool _) rfl hb41 rfl ?_
                refine S_a (v := .bool _) rfl ?_
                refine S_nil ?_
                have hwo : WO [(i25, .cells [.sl 1 (List.map c_i64 x24.1.Steps) 0, .bool x24.1.Attr, .str x24.1.Name.URI, .str x24.1.Name.Local]), (i5, .cells [.sl 1 (List.map c_i64 x4.1.Steps) 0, .bool x4.1.Attr, .str x4.1.Name.URI, .str x4.1.Name.Local])] [] := (.drop (.drop .nil))
                exact ⟨false, hF, (hwo.spec ok).1, WS.mk' (.cons (.refl _) .nil) ok hwo⟩
          ·
            rintro a38 s' hF ⟨ok, hws⟩
            refine WP_ws hws ?_
            clear hws s'
            refine WP_ret ?_
            repeat (first | with_reducible refine Exit.sel_ret ?_ | with_reducible refine Exit.blk_ret ?_)
            refine C_ret (fn := Tryd.f3) rfl (.tmp (v := .bool a38) rfl .nil) ?_
            exact ⟨_, _, (.refl _), WH.refl _, _, F_some hF, rfl⟩
theorem F_cmp_isNaN_int_w (p0 : Int) {G : Bool → Prop} (h : Heap) (hF : OptP (F_cmp_isNaN_int p0) G) : CallsA Tryd.prog 57 [.int .i64 p0] h fun d h' => ∃ r, G r ∧ d = .bool r ∧ h' = h := by
  refine CallsA.ret ?_
  refine C_body Tryd.func57 rfl en_57 Tryd.ntmps57 rfl (fun ok => ?_)
  rw [F_cmp_isNaN_int] at hF
  refine C_seq ?_
  refine C_reg (mdl []) ?_
  refine S_a (v := .bool _) rfl ?_
  refine S_nil ?_
  refine C_seq ?_
  refine C_reg (mdl []) ?_
  refine S_m (v := .int _ _) rfl ?_
  refine S_m (v := .int _ _) rfl ?_
  refine S_bin rfl rfl (ev_neq ..) ?_
  refine S_a (v := .bool _) rfl ?_
  refine S_nil ?_
  refine WP_ret ?_
  repeat (first | with_reducible refine Exit.sel_ret ?_ | with_reducible refine Exit.blk_ret ?_)
  refine C_ret (fn := Tryd.f57) rfl (.tmp (v := .bool (p0 != p0)) rfl .nil) ?_
  exact ⟨_, _, (.refl _), ok.wh, _, F_some hF, rfl, rfl⟩
theorem F_cmp_isNaN_int_ok {β : Type} {f : Bool → Option β} {G : β → Prop} {R : D → Heap → Prop} {p0 : Int} (h : Heap) (hF : OptP ((F_cmp_isNaN_int p0).bind f) G) (hk : ∀ r, F_cmp_isNaN_int p0 = some r → OptP (f r) G → R (.bool r) h) : CallsA Tryd.prog 57 [.int .i64 p0] h R := by
  obtain ⟨r0, hr, hF⟩ := F_bind hF
  refine (F_cmp_isNaN_int_w (G := fun r => r = r0) p0 h ⟨r0, hr, rfl⟩).mono ?_
  rintro _ _ ⟨r, rfl, rfl, rfl⟩
  exact hk _ hr hF
theorem F_cmp_Compare_int_w (p0 : Int) (p1 : Int) {G : Int → Prop} (h : Heap) (hF : OptP (F_cmp_Compare_int p0 p1) G) : CallsA Tryd.prog 35 [.int .i64 p0, .int .i64 p1] h fun d h' => ∃ r, G r ∧ d = .int .i64 r ∧ h' = h := by
  refine CallsA.ret ?_
  refine C_body Tryd.func35 rfl en_35 Tryd.ntmps35 rfl (fun ok => ?_)
  rw [F_cmp_Compare_int] at hF
  refine C_seq ?_
  refine C_reg (mdl []) ?_
  refine S_a (v := .int _ _) rfl ?_
  refine S_nil ?_
  refine C_seq ?_
  refine C_reg (mdl []) ?_
  refine S_m (v := .int _ _) rfl ?_
  refine S_call (F_cmp_isNaN_int_ok _ hF fun x1 _ hF => ?_) (.cons (.refl _) (.nil))
  refine S_a (v := .bool _) rfl ?_
  refine S_nil ?_
  refine C_seq ?_
  refine C_reg (mdl []) ?_
  refine S_m (v := .int _ _) rfl ?_
  refine S_call (F_cmp_isNaN_int_ok _ hF fun x2 _ hF => ?_) (.cons (.refl _) (.nil))
  refine S_a (v := .bool _) rfl ?_
  refine S_nil ?_
  refine C_seq ?_
  refine C_seq ?_
  refine C_reg (mdl []) ?_
  refine S_m (v := .bool _) rfl ?_
  refine S_nil ?_
  refine C_if (b := x1) rfl hF (fun hb3 hF => ?_) (fun hb3 hF => ?_)
  ·
    refine C_seq ?_
    refine C_seq ?_
    refine C_reg (mdl []) ?_
    refine S_m (v := .bool _) rfl ?_
    refine S_nil ?_
    refine C_if (b := x2) rfl hF (fun hb4 hF => ?_) (fun hb4 hF => ?_)
    ·
      refine C_seq ?_
      refine C_reg (mdl []) ?_
      refine S_a (v := .int _ _) rfl ?_
      refine S_nil ?_
      refine WP_ret ?_
      repeat (first | with_reducible refine Exit.sel_ret ?_ | with_reducible refine Exit.blk_ret ?_)
      refine C_ret (fn := Tryd.f35) rfl (.tmp (v := .int .i64 (0 : Int)) rfl .nil) ?_
      exact ⟨_, _, (.refl _), ok.wh, _, F_some hF, rfl, rfl⟩
    ·
      refine WP_skip ?_
      refine C_seq ?_
      refine C_reg (mdl []) ?_
      refine S_a (v := .int _ _) rfl ?_
      refine S_nil ?_
      refine WP_ret ?_
      repeat (first | with_reducible refine Exit.sel_ret ?_ | with_reducible refine Exit.blk_ret ?_)
      refine C_ret (fn := Tryd.f35) rfl (.tmp (v := .int .i64 (-1 : Int)) rfl .nil) ?_
      exact ⟨_, _, (.refl _), ok.wh, _, F_some hF, rfl, rfl⟩
  ·
    refine WP_skip ?_
    refine C_seq ?_
    refine C_seq ?_
    refine C_reg (mdl []) ?_
    refine S_m (v := .bool _) rfl ?_
    refine S_nil ?_
    refine C_if (b := x2) rfl hF (fun hb5 hF => ?_) (fun hb5 hF => ?_)
    ·
      refine C_seq ?_
      refine C_reg (mdl []) ?_
      refine S_a (v := .int _ _) rfl ?_
      refine S_nil ?_
      refine WP_ret ?_
      repeat (first | with_reducible refine Exit.sel_ret ?_ | with_reducible refine Exit.blk_ret ?_)
      refine C_ret (fn := Tryd.f35) rfl (.tmp (v := .int .i64 (1 : Int)) rfl .nil) ?_
      exact ⟨_, _, (.refl _), ok.wh, _, F_some hF, rfl, rfl⟩
    ·
      refine WP_skip ?_
      refine C_seq ?_
      refine C_seq ?_
      refine C_reg (mdl []) ?_
      refine S_m (v := .int _ _) rfl ?_
      refine S_m (v := .int _ _) rfl ?_
      refine S_bin rfl rfl (ev_lss ..) ?_
      refine S_nil ?_
      refine C_if (b := (decide (p0 < p1))) rfl hF (fun hb6 hF => ?_) (fun hb6 hF => ?_)
      ·
        refine C_seq ?_
        refine C_reg (mdl []) ?_
        refine S_a (v := .int _ _) rfl ?_
        refine S_nil ?_
        refine WP_ret ?_
        repeat (first | with_reducible refine Exit.sel_ret ?_ | with_reducible refine Exit.blk_ret ?_)
        refine C_ret (fn := Tryd.f35) rfl (.tmp (v := .int .i64 (-1 : Int)) rfl .nil) ?_
        exact ⟨_, _, (.refl _), ok.wh, _, F_some hF, rfl, rfl⟩
      ·
        refine WP_skip ?_
        refine C_seq ?_
        refine C_seq ?_
        refine C_reg (mdl []) ?_
        refine S_m (v := .int _ _) rfl ?_
        refine S_m (v := .int _ _) rfl ?_
        refine S_bin rfl rfl (ev_gtr ..) ?_
        refine S_nil ?_
        refine C_if (b := (decide (p1 < p0))) rfl hF (fun hb7 hF => ?_) (fun hb7 hF => ?_)
        ·
          refine C_seq ?_
          refine C_reg (mdl []) ?_
          refine S_a (v := .int _ _) rfl ?_
          refine S_nil ?_
          refine WP_ret ?_
          repeat (first | with_reducible refine Exit.sel_ret ?_ | with_reducible refine Exit.blk_ret ?_)
          refine C_ret (fn := Tryd.f35) rfl (.tmp (v := .int .i64 (1 : Int)) rfl .nil) ?_
          exact ⟨_, _, (.refl _), ok.wh, _, F_some hF, rfl, rfl⟩
        ·
          refine WP_skip ?_
          refine C_seq ?_
          refine C_reg (mdl []) ?_
          refine S_a (v := .int _ _) rfl ?_
          refine S_nil ?_
          refine WP_ret ?_
          repeat (first | with_reducible refine Exit.sel_ret ?_ | with_reducible refine Exit.blk_ret ?_)
          refine C_ret (fn := Tryd.f35) rfl (.tmp (v := .int .i64 (0 : Int)) rfl .nil) ?_
          exact ⟨_, _, (.refl _), ok.wh, _, F_some hF, rfl, rfl⟩
theorem F_cmp_Compare_int_ok {β : Type} {f : Int → Option β} {G : β → Prop} {R : D → Heap → Prop} {p0 : Int} {p1 : Int} (h : Heap) (hF : OptP ((F_cmp_Compare_int p0 p1).bind f) G) (hk : ∀ r, F_cmp_Compare_int p0 p1 = some r → OptP (f r) G → R (.int .i64 r) h) : CallsA Tryd.prog 35 [.int .i64 p0, .int .i64 p1] h R := by
  obtain ⟨r0, hr, hF⟩ := F_bind hF
  refine (F_cmp_Compare_int_w (G := fun r => r = r0) p0 p1 h ⟨r0, hr, rfl⟩).mono ?_
  rintro _ _ ⟨r, rfl, rfl, rfl⟩
  exact hk _ hr hF
theorem F_cmp_isNaN_string_w (p0 : List UInt8) {G : Bool → Prop} (h : Heap) (hF : OptP (F_cmp_isNaN_string p0) G) : CallsA Tryd.prog 77 [.str p0] h fun d h' => ∃ r, G r ∧ d = .bool r ∧ h' = h := by
  refine CallsA.ret ?_
  refine C_body Tryd.func77 rfl en_77 Tryd.ntmps77 rfl (fun ok => ?_)
  rw [F_cmp_isNaN_string] at hF
  refine C_seq ?_
  refine C_reg (mdl []) ?_
  refine S_a (v := .bool _) rfl ?_
  refine S_nil ?_
  refine C_seq ?_
  refine C_reg (mdl []) ?_
  refine S_m (v := .str _) rfl ?_
  refine S_m (v := .str _) rfl ?_
  refine S_bin rfl rfl e_sneq ?_
  refine S_a (v := .bool _) rfl ?_
  refine S_nil ?_
  refine WP_ret ?_
  repeat (first | with_reducible refine Exit.sel_ret ?_ | with_reducible refine Exit.blk_ret ?_)
  refine C_ret (fn := Tryd.f77) rfl (.tmp (v := .bool (!(p0 == p0))) rfl .nil) ?_
  exact ⟨_, _, (.refl _), ok.wh, _, F_some hF, rfl, rfl⟩
theorem F_cmp_isNaN_string_ok {β : Type} {f : Bool → Option β} {G : β → Prop} {R : D → Heap → Prop} {p0 : List UInt8} (h : Heap) (hF : OptP ((F_cmp_isNaN_string p0).bind f) G) (hk : ∀ r, F_cmp_isNaN_string p0 = some r → OptP (f r) G → R (.bool r) h) : CallsA Tryd.prog 77 [.str p0] h R := by
  obtain ⟨r0, hr, hF⟩ := F_bind hF
  refine (F_cmp_isNaN_string_w (G := fun r => r = r0) p0 h ⟨r0, hr, rfl⟩).mono ?_
  rintro _ _ ⟨r, rfl, rfl, rfl⟩
  exact hk _ hr hF
theorem F_cmp_Compare_string_w (p0 : List UInt8) (p1 : List UInt8) {G : Int → Prop} (h : Heap) (hF : OptP (F_cmp_Compare_string p0 p1) G) : CallsA Tryd.prog 59 [.str p0, .str p1] h fun d h' => ∃ r, G r ∧ d = .int .i64 r ∧ h' = h := by
  refine CallsA.ret ?_
  refine C_body Tryd.func59 rfl en_59 Tryd.ntmps59 rfl (fun ok => ?_)
  rw [F_cmp_Compare_string] at hF
  refine C_seq ?_
  refine C_reg (mdl []) ?_
  refine S_a (v := .int _ _) rfl ?_
  refine S_nil ?_
  refine C_seq ?_
  refine C_reg (mdl []) ?_
  refine S_m (v := .str _) rfl ?_
  refine S_call (F_cmp_isNaN_string_ok _ hF fun x1 _ hF => ?_) (.cons (.refl _) (.nil))
  refine S_a (v := .bool _) rfl ?_
  refine S_nil ?_
  refine C_seq ?_
  refine C_reg (mdl []) ?_
  refine S_m (v := .str _) rfl ?_
  refine S_call (F_cmp_isNaN_string_ok _ hF fun x2 _ hF => ?_) (.cons (.refl _) (.nil))
  refine S_a (v := .bool _) rfl ?_
  refine S_nil ?_
  refine C_seq ?_
  refine C_seq ?_
  refine C_reg (mdl []) ?_
  refine S_m (v := .bool _) rfl ?_
  refine S_nil ?_
  refine C_if (b := x1) rfl hF (fun hb3 hF => ?_) (fun hb3 hF => ?_)
  ·
    refine C_seq ?_
    refine C_seq ?_
    refine C_reg (mdl []) ?_
    refine S_m (v := .bool _) rfl ?_
    refine S_nil ?_
    refine C_if (b := x2) rfl hF (fun hb4 hF => ?_) (fun hb4 hF => ?_)
    ·
      refine C_seq ?_
      refine C_reg (mdl []) ?_
      refine S_a (v := .int _ _) rfl ?_
      refine S_nil ?_
      refine WP_ret ?_
      repeat (first | with_reducible refine Exit.sel_ret ?_ | with_reducible refine Exit.blk_ret ?_)
      refine C_ret (fn := Tryd.f59) rfl (.tmp (v := .int .i64 (0 : Int)) rfl .nil) ?_
      exact ⟨_, _, (.refl _), ok.wh, _, F_some hF, rfl, rfl⟩
    ·
      refine WP_skip ?_
      refine C_seq ?_
      refine C_reg (mdl []) ?_
      refine S_a (v := .int _ _) rfl ?_
      refine S_nil ?_
      refine WP_ret ?_
      repeat (first | with_reducible refine Exit.sel_ret ?_ | with_reducible refine Exit.blk_ret ?_)
      refine C_ret (fn := Tryd.f59) rfl (.tmp (v := .int .i64 (-1 : Int)) rfl .nil) ?_
      exact ⟨_, _, (.refl _), ok.wh, _, F_some hF, rfl, rfl⟩
  ·
    refine WP_skip ?_
    refine C_seq ?_
    refine C_seq ?_
    refine C_reg (mdl []) ?_
    refine S_m (v := .bool _) rfl ?_
    refine S_nil ?_
    refine C_if (b := x2) rfl hF (fun hb5 hF => ?_) (fun hb5 hF => ?_)
    ·
      refine C_seq ?_
      refine C_reg (mdl []) ?_
      refine S_a (v := .int _ _) rfl ?_
      refine S_nil ?_
      refine WP_ret ?_
      repeat (first | with_reducible refine Exit.sel_ret ?_ | with_reducible refine Exit.blk_ret ?_)
      refine C_ret (fn := Tryd.f59) rfl (.tmp (v := .int .i64 (1 : Int)) rfl .nil) ?_
      exact ⟨_, _, (.refl _), ok.wh, _, F_some hF, rfl, rfl⟩
    ·
      refine WP_skip ?_
      refine C_seq ?_
      refine C_seq ?_
      refine C_reg (mdl []) ?_
      refine S_m (v := .str _) rfl ?_
      refine S_m (v := .str _) rfl ?_
      refine S_bin rfl rfl e_slss ?_
      refine S_nil ?_
      refine C_if (b := (Op.bytesLess p0 p1)) rfl hF (fun hb6 hF => ?_) (fun hb6 hF => ?_)
      ·
        refine C_seq ?_
        refine C_reg (mdl []) ?_
        refine S_a (v := .int _ _) rfl ?_
        refine S_nil ?_
        refine WP_ret ?_
        repeat (first | with_reducible refine Exit.sel_ret ?_ | with_reducible refine Exit.blk_ret ?_)
        refine C_ret (fn := Tryd.f59) rfl (.tmp (v := .int .i64 (-1 : Int)) rfl .nil) ?_
        exact ⟨_, _, (.refl _), ok.wh, _, F_some hF, rfl, rfl⟩
      ·
        refine WP_skip ?_
        refine C_seq ?_
        refine C_seq ?_
        refine C_reg (mdl []) ?_
        refine S_m (v := .str _) rfl ?_
        refine S_m (v := .str _) rfl ?_
        refine S_bin rfl rfl e_sgtr ?_
        refine S_nil ?_
        refine C_if (b := (!(Op.bytesLess p0 p1 || p0 == p1))) rfl hF (fun hb7 hF => ?_) (fun hb7 hF => ?_)
        ·
          refine C_seq ?_
          refine C_reg (mdl []) ?_
          refine S_a (v := .int _ _) rfl ?_
          refine S_nil ?_
          refine WP_ret ?_
          repeat (first | with_reducible refine Exit.sel_ret ?_ | with_reducible refine Exit.blk_ret ?_)
          refine C_ret (fn := Tryd.f59) rfl (.tmp (v := .int .i64 (1 : Int)) rfl .nil) ?_
          exact ⟨_, _, (.refl _), ok.wh, _, F_some hF, rfl, rfl⟩
        ·
          refine WP_skip ?_
          refine C_seq ?_
          refine C_reg (mdl []) ?_
          refine S_a (v := .int _ _) rfl ?_
          refine S_nil ?_
          refine WP_ret ?_
          repeat (first | with_reducible refine Exit.sel_ret ?_ | with_reducible refine Exit.blk_ret ?_)
          refine C_ret (fn := Tryd.f59) rfl (.tmp (v := .int .i64 (0 : Int)) rfl .nil) ?_
          exact ⟨_, _, (.refl _), ok.wh, _, F_some hF, rfl, rfl⟩
theorem F_cmp_Compare_string_ok {β : Type} {f : Int → Option β} {G : β → Prop} {R : D → Heap → Prop} {p0 : List UInt8} {p1 : List UInt8} (h : Heap) (hF : OptP ((F_cmp_Compare_string p0 p1).bind f) G) (hk : ∀ r, F_cmp_Compare_string p0 p1 = some r → OptP (f r) G → R (.int .i64 r) h) : CallsA Tryd.prog 59 [.str p0, .str p1] h R := by
  obtain ⟨r0, hr, hF⟩ := F_bind hF
  refine (F_cmp_Compare_string_w (G := fun r => r = r0) p0 p1 h ⟨r0, hr, rfl⟩).mono ?_
  rintro _ _ ⟨r, rfl, rfl, rfl⟩
  exact hk _ hr hF
theorem F_cmp_Or_int_w (p0 : List Int) {G : Int → Prop} (h : Heap) (hF : OptP (F_cmp_Or_int p0) G) : CallsA Tryd.prog 58 [.sl 1 (List.map c_i64 p0) 0] h fun d h' => ∃ r, G r ∧ d = .int .i64 r ∧ h' = h := by
  refine CallsA.ret ?_
  refine C_body Tryd.func58 rfl en_58 Tryd.ntmps58 rfl (fun ok => ?_)
  rw [F_cmp_Or_int] at hF
  refine C_seq ?_
  refine C_reg (mdl []) ?_
  refine S_a (v := .int _ _) rfl ?_
  refine S_nil ?_
  refine C_seq ?_
  refine C_reg (mdl []) ?_
  refine S_a (v := .int _ _) rfl ?_
  refine S_nil ?_
  refine C_join hF (fun (_ : Unit) s' => OK h [] ∧ WS s' ⟨mkSl 18 [(3, .int .i64 (0 : Int))], Hp h []⟩) (fun J5 hF => ?_) ?_
  ·
    refine C_seq ?_
    refine C_reg (mdl []) ?_
    refine S_m (v := .sl _ _ _) rfl ?_
    refine S_lenL rfl ty_sl_22 ?_
    refine S_m (v := .int _ _) rfl ?_
    refine S_nil ?_
    refine WP_block ?_
    refine C_loop (σ := Int) hF (fun (a6 : Int) s' => OK h [] ∧ WS s' ⟨mkSl 18 [(3, .int .i64 (0 : Int)), (6, .sl 1 (List.map c_i64 p0) 0), (7, .int .i64 (p0.length : Int)), (8, .int .i64 a6)], Hp h []⟩) ?_ ?_
    ·
      have hwo : WO [] [] := .nil
      exact ⟨(hwo.spec ok).1, WS.mk' (.cons (.refl _) (.cons (.refl _) (.cons (.refl _) (.cons (.refl _) .nil)))) ok hwo⟩
    ·
      rintro G7 hG8 rec9 a6 s' ih10 hF ⟨ok, hws⟩
      refine WP_ws hws ?_
      clear hws s'
      rw [F_cmp_Or_int_l0] at hF
      refine C_seq ?_
      refine C_reg (mdl []) ?_
      refine S_bin rfl rfl (ev_lss ..) ?_
      refine S_nil ?_
      refine C_seq ?_
      refine C_if (b := (decide (a6 < (p0.length : Int)))) rfl hF (fun hb11 hF => ?_) (fun hb11 hF => ?_)
      ·
        refine WP_skip ?_
        refine C_seq ?_
        refine WP_block ?_
        refine C_seq ?_
        refine C_reg (mdl []) ?_
        refine S_ix rfl rfl ty_sl_22 ty_sz_3 hF (fun x12 _ hF => ?_)
        refine S_ldQ rfl (p_one ty_ag_3 ty_sz_3 rfl) ?_
        refine S_a (v := .int _ _) rfl ?_
        refine S_nil ?_
        refine C_seq ?_
        refine C_reg (mdl []) ?_
        refine S_m (v := .int _ _) rfl ?_
        refine S_m (v := .int _ _) rfl ?_
        refine S_bin rfl rfl (ev_neq ..) ?_
        refine S_nil ?_
        refine C_if (b := (x12 != (0 : Int))) rfl hF (fun hb13 hF => ?_) (fun hb13 hF => ?_)
        ·
          refine C_seq ?_
          refine C_reg (mdl []) ?_
          refine S_m (v := .int _ _) rfl ?_
          refine S_a (v := .int _ _) rfl ?_
          refine S_nil ?_
          refine WP_ret ?_
          replace hF := hG8 _ (F_some hF)
          repeat (first | with_reducible refine Exit.sel_ret ?_ | with_reducible refine Exit.blk_ret ?_)
          refine C_ret (fn := Tryd.f58) rfl (.tmp (v := .int .i64 x12) rfl .nil) ?_
          exact ⟨_, _, (.refl _), ok.wh, _, F_some hF, rfl, rfl⟩
        ·
          refine WP_skip ?_
          refine C_reg (mdl []) ?_
          refine S_bin rfl rfl (ev_add ..) ?_
          refine S_m (v := .int _ _) rfl ?_
          refine S_nil ?_
          refine ih10 (IntKind.wrap .i64 (a6 + (1 : Int))) _ hF ?_
          have hwo : WO [] [] := .nil
          exact ⟨(hwo.spec ok).1, WS.mk' (.cons (.refl _) (.cons (.refl _) (.cons (.refl _) (.cons (.refl _) .nil)))) ok hwo⟩
      ·
        refine WP_exit ?_
        simp only [Exit.sel, Exit.blk, if_true, if_false, reduceIte, Nat.reduceEqDiff, Nat.succ_ne_zero, Nat.zero_ne_one, Nat.one_ne_zero]
        replace hF := hG8 _ (F_some hF)
        have hwo : WO [] [] := .nil
        exact ⟨(), hF, (hwo.spec ok).1, WS.mk' (.cons (.refl _) .nil) ok hwo⟩
  ·
    rintro ⟨⟩ s' hF ⟨ok, hws⟩
    refine WP_ws hws ?_
    clear hws s'
    refine C_seq ?_
    refine C_reg (mdl []) ?_
    refine S_m (v := .int _ _) rfl ?_
    refine S_a (v := .int _ _) rfl ?_
    refine S_nil ?_
    refine WP_ret ?_
    repeat (first | with_reducible refine Exit.sel_ret ?_ | with_reducible refine Exit.blk_ret ?_)
    refine C_ret (fn := Tryd.f58) rfl (.tmp (v := .int .i64 (0 : Int)) rfl .nil) ?_
    exact ⟨_, _, (.refl _), ok.wh, _, F_some hF, rfl, rfl⟩
theorem F_cmp_Or_int_ok {β : Type} {f : Int → Option β} {G : β → Prop} {R : D → Heap → Prop} {p0 : List Int} (h : Heap) (hF : OptP ((F_cmp_Or_int p0).bind f) G) (hk : ∀ r, F_cmp_Or_int p0 = some r → OptP (f r) G → R (.int .i64 r) h) : CallsA Tryd.prog 58 [.sl 1 (List.map c_i64 p0) 0] h R := by
  obtain ⟨r0, hr, hF⟩ := F_bind hF
  refine (F_cmp_Or_int_w (G := fun r => r = r0) p0 h ⟨r0, hr, rfl⟩).mono ?_
  rintro _ _ ⟨r, rfl, rfl, rfl⟩
  exact hk _ hr hF
theorem F_tree_Order_w (p0 : T_api_Name) (p1 : T_api_Name) {G : Int → Prop} (h : Heap) (hF : OptP (F_tree_Order p0 p1) G) : CallsA Tryd.prog 36 [.agg (c_T_api_Name p0), .agg (c_T_api_Name p1)] h fun d h' => ∃ r, G r ∧ d = .int .i64 r ∧ h' = h := by
  refine CallsA.ret ?_
  refine C_body Tryd.func36 rfl en_36 Tryd.ntmps36 rfl (fun ok => ?_)
  rw [F_tree_Order] at hF
  refine C_seq ?_
  refine C_reg (mdl []) ?_
  refine S_box0 rfl rfl rfl rfl ?_
  refine S_box0 rfl rfl rfl rfl ?_
  refine S_a (v := .int _ _) rfl ?_
  refine S_nil ?_
  refine C_seq ?_
  refine C_plan (mdl [(6, 3), (8, 3), (11, 3), (13, 3)]) [0, 1, 2, 3, 5, 6, 7, 8, 4, 9, 10, 11, 12] [_, _, _, _, _, _, _, _, _, _, _, _, _] (by kernel_rfl) rfl rfl (by kernel_rfl) ?_
  refine S_faQ rfl ty_fd_24_0 ty_sz_9 rfl ?_
  refine S_ldQ rfl (p_one ty_ag_9 ty_sz_9 rfl) ?_
  refine S_faQ rfl ty_fd_24_0 ty_sz_9 rfl ?_
  refine S_ldQ rfl (p_one ty_ag_9 ty_sz_9 rfl) ?_
  refine S_faQ rfl ty_fd_24_1 ty_sz_9 rfl ?_
  refine S_ldQ rfl (p_one ty_ag_9 ty_sz_9 rfl) ?_
  refine S_faQ rfl ty_fd_24_1 ty_sz_9 rfl ?_
  refine S_ldQ rfl (p_one ty_ag_9 ty_sz_9 rfl) ?_
  refine S_call (F_cmp_Compare_string_ok _ hF fun x1 _ hF => ?_) (.cons (.refl _) (.cons (.refl _) (.nil)))
  refine S_call (F_cmp_Compare_string_ok _ hF fun x2 _ hF => ?_) (.cons (.refl _) (.cons (.refl _) (.nil)))
  refine S_lit0 (cs := [.int .i64 x1, .int .i64 x2]) (es := (List.map c_i64 [x1, x2])) rfl ty_el_22 rfl (by kernel_rfl) (by kernel_rfl) ?_
  refine S_call (F_cmp_Or_int_ok _ hF fun x3 _ hF => ?_) (.cons (.refl _) (.nil))
  refine S_a (v := .int _ _) rfl ?_
  refine S_nil ?_
  refine WP_ret ?_
  repeat (first | with_reducible refine Exit.sel_ret ?_ | with_reducible refine Exit.blk_ret ?_)
  refine C_ret (fn := Tryd.f36) rfl (.tmp (v := .int .i64 x3) rfl .nil) ?_
  exact ⟨_, _, (.refl _), ok.wh, _, F_some hF, rfl, rfl⟩
theorem F_tree_Order_ok {β : Type} {f : Int → Option β} {G : β → Prop} {R : D → Heap → Prop} {p0 : T_api_Name} {p1 : T_api_Name} (h : Heap) (hF : OptP ((F_tree_Order p0 p1).bind f) G) (hk : ∀ r, F_tree_Order p0 p1 = some r → OptP (f r) G → R (.int .i64 r) h) : CallsA Tryd.prog 36 [.agg (c_T_api_Name p0), .agg (c_T_api_Name p1)] h R := by
  obtain ⟨r0, hr, hF⟩ := F_bind hF
  refine (F_tree_Order_w (G := fun r => r = r0) p0 p1 h ⟨r0, hr, rfl⟩).mono ?_
  rintro _ _ ⟨r, rfl, rfl, rfl⟩
  exact hk _ hr hF
theorem F_trail_Compare_w (p0 : T_trail_Trail) (p1 : T_trail_Trail) {G : Int → Prop} (h : Heap) (hF : OptP (F_trail_Compare p0 p1) G) : CallsA Tryd.prog 17 [.agg (c_T_trail_Trail p0), .agg (c_T_trail_Trail p1)] h fun d h' => ∃ r, G r ∧ d = .int .i64 r ∧ h' = h := by
  refine CallsA.ret ?_
  refine C_body Tryd.func17 rfl en_17 Tryd.ntmps17 rfl (fun ok => ?_)
  rw [F_trail_Compare] at hF
  refine C_seq ?_
  refine C_reg (mdl []) ?_
  refine S_box0 rfl rfl rfl rfl ?_
  refine S_box0 rfl rfl rfl rfl ?_
  refine S_a (v := .int _ _) rfl ?_
  refine S_nil ?_
  refine C_join hF (fun (_ : Unit) s' => OK h [] ∧ WS s' ⟨mkSl 61 [(2, .iptr (c_T_trail_Trail p0)), (3, .iptr (c_T_trail_Trail p1))], Hp h []⟩) (fun J7 hF => ?_) ?_
  ·
    refine C_seq ?_
    refine C_reg (mdl []) ?_
    refine S_faQ rfl ty_fd_26_0 ty_sz_22 rfl ?_
    refine S_ldQ rfl (p_one ty_ag_22 ty_sz_22 rfl) ?_
    refine S_lenL rfl ty_sl_22 ?_
    refine S_faQ rfl ty_fd_26_0 ty_sz_22 rfl ?_
    refine S_ldQ rfl (p_one ty_ag_22 ty_sz_22 rfl) ?_
    refine S_lenL rfl ty_sl_22 ?_
    refine S_min rfl rfl ?_
    refine S_m (v := .int _ _) rfl ?_
    refine S_nil ?_
    refine WP_block ?_
    refine C_loop (σ := Int) hF (fun (a8 : Int) s' => OK h [] ∧ WS s' ⟨mkSl 61 [(2, .iptr (c_T_trail_Trail p0)), (3, .iptr (c_T_trail_Trail p1)), (14, .int .i64 (if (p1.Steps.length : Int) < (p0.Steps.length : Int) then (p1.Steps.length : Int) else (p0.Steps.length : Int))), (15, .int .i64 a8)], Hp h []⟩) ?_ ?_
    ·
      have hwo : WO [] [] := .nil
      exact ⟨(hwo.spec ok).1, WS.mk' (.cons (.refl _) (.cons (.refl _) (.cons (.refl _) (.cons (.refl _) .nil)))) ok hwo⟩
    ·
      rintro G9 hG10 rec11 a8 s' ih12 hF ⟨ok, hws⟩
      refine WP_ws hws ?_
      clear hws s'
      rw [F_trail_Compare_l0] at hF
      refine C_seq ?_
      refine C_reg (mdl []) ?_
      refine S_bin rfl rfl (ev_lss ..) ?_
      refine S_nil ?_
      refine C_seq ?_
      refine C_if (b := (decide (a8 < (if (p1.Steps.length : Int) < (p0.Steps.length : Int) then (p1.Steps.length : Int) else (p0.Steps.length : Int))))) rfl hF (fun hb13 hF => ?_) (fun hb13 hF => ?_)
      ·
        refine WP_skip ?_
        refine C_seq ?_
        refine WP_block ?_
        refine C_seq ?_
        refine C_reg (mdl []) ?_
        refine S_m (v := .int _ _) rfl ?_
        refine S_a (v := .int _ _) rfl ?_
        refine S_nil ?_
        refine C_seq ?_
        refine C_drw (mdl [(19, 3), (22, 3), (24, 3), (27, 3)]) (by kernel_rfl) (by kernel_rfl) ?_
        refine S_faQ rfl ty_fd_26_0 ty_sz_22 rfl ?_
        refine S_ldQ rfl (p_one ty_ag_22 ty_sz_22 rfl) ?_
        refine S_m (v := .int _ _) rfl ?_
        refine S_ix rfl rfl ty_sl_22 ty_sz_3 hF (fun x14 _ hF => ?_)
        refine S_ldQ rfl (p_one ty_ag_3 ty_sz_3 rfl) ?_
        refine S_faQ rfl ty_fd_26_0 ty_sz_22 rfl ?_
        refine S_ldQ rfl (p_one ty_ag_22 ty_sz_22 rfl) ?_
        refine S_m (v := .int _ _) rfl ?_
        refine S_ix rfl rfl ty_sl_22 ty_sz_3 hF (fun x15 _ hF => ?_)
        refine S_ldQ rfl (p_one ty_ag_3 ty_sz_3 rfl) ?_
        refine S_call (F_cmp_Compare_int_ok _ hF fun x16 _ hF => ?_) (.cons (.refl _) (.cons (.refl _) (.nil)))
        refine S_a (v := .int _ _) rfl ?_
        refine S_nil ?_
        refine C_seq ?_
        refine C_reg (mdl []) ?_
        refine S_m (v := .int _ _) rfl ?_
        refine S_bin rfl rfl (ev_neq ..) ?_
        refine S_nil ?_
        refine C_if (b := (x16 != (0 : Int))) rfl hF (fun hb17 hF => ?_) (fun hb17 hF => ?_)
        ·
          refine C_seq ?_
          refine C_reg (mdl []) ?_
          refine S_m (v := .int _ _) rfl ?_
          refine S_a (v := .int _ _) rfl ?_
          refine S_nil ?_
          refine WP_ret ?_
          replace hF := hG10 _ (F_some hF)
          repeat (first | with_reducible refine Exit.sel_ret ?_ | with_reducible refine Exit.blk_ret ?_)
          refine C_ret (fn := Tryd.f17) rfl (.tmp (v := .int .i64 x16) rfl .nil) ?_
          exact ⟨_, _, (.refl _), ok.wh, _, F_some hF, rfl, rfl⟩
        ·
          refine WP_skip ?_
          refine C_reg (mdl []) ?_
          refine S_bin rfl rfl (ev_add ..) ?_
          refine S_m (v := .int _ _) rfl ?_
          refine S_nil ?_
          refine ih12 (IntKind.wrap .i64 (a8 + (1 : Int))) _ hF ?_
          have hwo : WO [] [] := .nil
          exact ⟨(hwo.spec ok).1, WS.mk' (.cons (.refl _) (.cons (.refl _) (.cons (.refl _) (.cons (.refl _) .nil)))) ok hwo⟩
      ·
        refine WP_exit ?_
        simp only [Exit.sel, Exit.blk, if_true, if_false, reduceIte, Nat.reduceEqDiff, Nat.succ_ne_zero, Nat.zero_ne_one, Nat.one_ne_zero]
        replace hF := hG10 _ (F_some hF)
        have hwo : WO [] [] := .nil
        exact ⟨(), hF, (hwo.spec ok).1, WS.mk' (.cons (.refl _) (.cons (.refl _) .nil)) ok hwo⟩
  ·
    rintro ⟨⟩ s' hF ⟨ok, hws⟩
    refine WP_ws hws ?_
    clear hws s'
    refine C_seq ?_
    refine C_seq ?_
    refine C_reg (mdl []) ?_
    refine S_faQ rfl ty_fd_26_0 ty_sz_22 rfl ?_
    refine S_ldQ rfl (p_one ty_ag_22 ty_sz_22 rfl) ?_
    refine S_lenL rfl ty_sl_22 ?_
    refine S_faQ rfl ty_fd_26_0 ty_sz_22 rfl ?_
    refine S_ldQ rfl (p_one ty_ag_22 ty_sz_22 rfl) ?_
    refine S_lenL rfl ty_sl_22 ?_
    refine S_call (F_cmp_Compare_int_ok _ hF fun x18 _ hF => ?_) (.cons (.refl _) (.cons (.refl _) (.nil)))
    refine S_a (v := .int _ _) rfl ?_
    refine S_nil ?_
    refine C_seq ?_
    refine C_reg (mdl []) ?_
    refine S_m (v := .int _ _) rfl ?_
    refine S_bin rfl rfl (ev_neq ..) ?_
    refine S_nil ?_
    refine C_if (b := (x18 != (0 : Int))) rfl hF (fun hb19 hF => ?_) (fun hb19 hF => ?_)
    ·
      refine C_seq ?_
      refine C_reg (mdl []) ?_
      refine S_m (v := .int _ _) rfl ?_
      refine S_a (v := .int _ _) rfl ?_
      refine S_nil ?_
      refine WP_ret ?_
      repeat (first | with_reducible refine Exit.sel_ret ?_ | with_reducible refine Exit.blk_ret ?_)
      refine C_ret (fn := Tryd.f17) rfl (.tmp (v := .int .i64 x18) rfl .nil) ?_
      exact ⟨_, _, (.refl _), ok.wh, _, F_some hF, rfl, rfl⟩
    ·
      refine WP_skip ?_
      refine C_seq ?_
      refine WP_block ?_
      refine C_seq ?_
      refine C_reg (mdl []) ?_
      refine S_faQ rfl ty_fd_26_1 ty_sz_4 rfl ?_
      refine S_ldQ rfl (p_one ty_ag_4 ty_sz_4 rfl) ?_
      refine S_m (v := .bool _) rfl ?_
      refine S_two (b := p0.Attr) 3 49 (.bool (p0.Attr && p1.Attr)) (fun hb20 => ?_) (fun hb20 => ?_) ?_
      ·
        refine S_on rfl rfl hb20 ?_
        refine S_in ?_
        refine S_faQ rfl ty_fd_26_1 ty_sz_4 rfl ?_
        refine S_nil ?_
        refine S_on rfl rfl hb20 ?_
        refine S_in ?_
        refine S_ldQ rfl (p_one ty_ag_4 ty_sz_4 rfl) ?_
        refine S_nil ?_
        refine S_pickT (v := .bool _) rfl hb20 rfl ?_
        refine S_nil ?_
        refine .hd (and_t hb20) ?_
        repeat (first | with_reducible exact WS.refl _ | refine WS.add ?_ rfl)
      ·
        refine S_off rfl rfl hb20 ?_
        refine S_offD ?_
        refine S_off rfl rfl hb20 ?_
        refine S_offD ?_
        refine S_pickF (v := .bool _) rfl hb20 rfl ?_
        refine S_nil ?_
        refine .hd (and_f hb20) ?_
        repeat (first | with_reducible exact WS.refl _ | refine WS.add ?_ rfl)
      refine S_a (v := .bool _) rfl ?_
      refine S_nil ?_
      refine C_if (b := (p0.Attr && p1.Attr)) rfl hF (fun hb21 hF => ?_) (fun hb21 hF => ?_)
      ·
        refine C_seq ?_
        refine C_reg (mdl []) ?_
        refine S_faQ rfl ty_fd_26_2 ty_sz_24 rfl ?_
        refine S_ldQ rfl (p_agg (vs := c_T_api_Name p0.Name) ty_ag_24 ty_sz_24 rfl rfl) ?_
        refine S_faQ rfl ty_fd_26_2 ty_sz_24 rfl ?_
        refine S_ldQ rfl (p_agg (vs := c_T_api_Name p1.Name) ty_ag_24 ty_sz_24 rfl rfl) ?_
        refine S_call (F_tree_Order_ok _ hF fun x22 _ hF => ?_) (.cons (.refl _) (.cons (.refl _) (.nil)))
        refine S_a (v := .int _ _) rfl ?_
        refine S_nil ?_
        refine WP_ret ?_
        repeat (first | with_reducible refine Exit.sel_ret ?_ | with_reducible refine Exit.blk_ret ?_)
        refine C_ret (fn := Tryd.f17) rfl (.tmp (v := .int .i64 x22) rfl .nil) ?_
        exact ⟨_, _, (.refl _), ok.wh, _, F_some hF, rfl, rfl⟩
      ·
        refine C_seq ?_
        refine C_reg (mdl []) ?_
        refine S_faQ rfl ty_fd_26_1 ty_sz_4 rfl ?_
        refine S_ldQ rfl (p_one ty_ag_4 ty_sz_4 rfl) ?_
        refine S_a (v := .bool _) rfl ?_
        refine S_nil ?_
        refine C_if (b := p0.Attr) rfl hF (fun hb23 hF => ?_) (fun hb23 hF => ?_)
        ·
          refine C_seq ?_
          refine C_reg (mdl []) ?_
          refine S_a (v := .int _ _) rfl ?_
          refine S_nil ?_
          refine WP_ret ?_
          repeat (first | with_reducible refine Exit.sel_ret ?_ | with_reducible refine Exit.blk_ret ?_)
          refine C_ret (fn := Tryd.f17) rfl (.tmp (v := .int .i64 (1 : Int)) rfl .nil) ?_
          exact ⟨_, _, (.refl _), ok.wh, _, F_some hF, rfl, rfl⟩
        ·
          refine C_seq ?_
          refine C_reg (mdl []) ?_
          refine S_faQ rfl ty_fd_26_1 ty_sz_4 rfl ?_
          refine S_ldQ rfl (p_one ty_ag_4 ty_sz_4 rfl) ?_
          refine S_a (v := .bool _) rfl ?_
          refine S_nil ?_
          refine C_if (b := p1.Attr) rfl hF (fun hb24 hF => ?_) (fun hb24 hF => ?_)
          ·
            refine C_seq ?_
            refine C_reg (mdl []) ?_
            refine S_a (v := .int _ _) rfl ?_
            refine S_nil ?_
            refine WP_ret ?_
            repeat (first | with_reducible refine Exit.sel_ret ?_ | with_reducible refine Exit.blk_ret ?_)
            refine C_ret (fn := Tryd.f17) rfl (.tmp (v := .int .i64 (-1 : Int)) rfl .nil) ?_
            exact ⟨_, _, (.refl _), ok.wh, _, F_some hF, rfl, rfl⟩
          ·
            refine WP_skip ?_
            refine C_seq ?_
            refine C_reg (mdl []) ?_
            refine S_a (v := .int _ _) rfl ?_
            refine S_nil ?_
            refine WP_ret ?_
            repeat (first | with_reducible refine Exit.sel_ret ?_ | with_reducible refine Exit.blk_ret ?_)
            refine C_ret (fn := Tryd.f17) rfl (.tmp (v := .int .i64 (0 : Int)) rfl .nil) ?_
            exact ⟨_, _, (.refl _), ok.wh, _, F_some hF, rfl, rfl⟩
theorem F_trail_Compare_ok {β : Type} {f : Int → Option β} {G : β → Prop} {R : D → Heap → Prop} {p0 : T_trail_Trail} {p1 : T_trail_Trail} (h : Heap) (hF : OptP ((F_trail_Compare p0 p1).bind f) G) (hk : ∀ r, F_trail_Compare p0 p1 = some r → OptP (f r) G → R (.int .i64 r) h) : CallsA Tryd.prog 17 [.agg (c_T_trail_Trail p0), .agg (c_T_trail_Trail p1)] h R := by
  obtain ⟨r0, hr, hF⟩ := F_bind hF
  refine (F_trail_Compare_w (G := fun r => r = r0) p0 p1 h ⟨r0, hr, rfl⟩).mono ?_
  rintro _ _ ⟨r, rfl, rfl, rfl⟩
  exact hk _ hr hF
theorem F_lecternlaw08_TrailBack_w (p0 : T_trail_Trail) (p1 : List UInt8) {G : Bool → Prop} (h : Heap) (hF : OptP (F_lecternlaw08_TrailBack p0 p1) G) : CallsA Tryd.prog 4 [.agg (c_T_trail_Trail p0), .str p1] h fun d h' => ∃ r, G r ∧ d = .bool r := by
  refine CallsA.ret ?_
  refine C_body Tryd.func4 rfl en_4 Tryd.ntmps4 rfl (fun ok => ?_)
  rw [F_lecternlaw08_TrailBack] at hF
  refine C_seq ?_
  refine C_reg (mdl []) ?_
  refine S_box0 rfl rfl rfl rfl ?_
  refine S_a (v := .bool _) rfl ?_
  refine S_nil ?_
  refine C_seq ?_
  refine C_seq ?_
  refine C_reg (mdl []) ?_
  refine S_call (F_lecternlaw08_awake_ok _ hF fun x1 _ hF => ?_) (.nil)
  refine S_un rfl (ev_not _) ?_
  refine S_nil ?_
  refine C_if (b := (!x1)) rfl hF (fun hb2 hF => ?_) (fun hb2 hF => ?_)
  ·
    refine C_seq ?_
    refine C_reg (mdl []) ?_
    refine S_a (v := .bool _) rfl ?_
    refine S_nil ?_
    refine WP_ret ?_
    repeat (first | with_reducible refine Exit.sel_ret ?_ | with_reducible refine Exit.blk_ret ?_)
    refine C_ret (fn := Tryd.f4) rfl (.tmp (v := .bool false) rfl .nil) ?_
    exact ⟨_, _, (.refl _), WH.refl _, _, F_some hF, rfl⟩
  ·
    refine WP_skip ?_
    refine C_seq ?_
    refine C_reg (mdl []) ?_
    refine S_ldQ rfl (p_agg (vs := c_T_trail_Trail p0) ty_ag_26 ty_sz_26 rfl rfl) ?_
    refine S_call (F_trail_Show_ok _ hF fun x3 _ hF => ?_) (.cons (.refl _) (.nil))
    refine S_m (v := .tup _) rfl ?_
    refine S_ext rfl rfl ?_
    refine S_ext rfl rfl ?_
    refine S_a (v := .str _) rfl ?_
    refine S_a (v := .int _ _) rfl ?_
    refine S_nil ?_
    refine C_join hF (fun (_ : Unit) s' => OK h [] ∧ WS s' ⟨mkSl 62 [(1, .str p1)], Hp h []⟩) (fun J25 hF => ?_) ?_
    ·
      refine C_seq ?_
      refine C_reg (mdl []) ?_
      refine S_m (v := .int _ _) rfl ?_
      refine S_bin rfl rfl (ev_eql ..) ?_
      refine S_nil ?_
      refine C_if (b := (x3.2 == (0 : Int))) rfl hF (fun hb26 hF => ?_) (fun hb26 hF => ?_)
      ·
        refine C_seq ?_
        refine C_reg (mdl [(7, 1)]) ?_
        refine S_m (v := .str _) rfl ?_
        refine S_call (F_trail_Read_ok _ hF fun x27 _ hF => ?_) (.cons (.refl _) (.nil))
        refine S_m (v := .tup _) rfl ?_
        refine S_ext rfl rfl ?_
        refine S_ext rfl rfl ?_
        refine S_all1 ok rfl ty_zc_26 ?_
        intro i28 hi28 ok
        refine S_st (j := 0) (cs' := [.sl 1 (List.map c_i64 x27.1.Steps) 0, .bool x27.1.Attr, .str x27.1.Name.URI, .str x27.1.Name.Local]) ok rfl rfl rfl hi28 rfl ty_sz_26 rfl rfl (fun ok => ?_)
        refine S_a (v := .int _ _) rfl ?_
        refine S_nil ?_
        refine C_join hF (fun (a37 : Bool) s' => OK h [] ∧ WS s' ⟨mkSl 62 [(1, .str p1), (42, .bool a37)], Hp h []⟩) (fun J38 hF => ?_) ?_
        ·
          refine C_plan (mdl [(31, 3), (38, 3)]) [0, 1, 2, 3, 4, 5, 6, 7, 8, 9, 11, 10, 12, 13, 14, 15] [_, _, _, _, _, _, _, _, _, _, _, _, _, _, _, _] (by kernel_rfl) rfl rfl (by kernel_rfl) ?_
          refine S_m (v := .int _ _) rfl ?_
          refine S_bin rfl rfl (ev_neq ..) ?_
          refine S_m (v := .bool _) rfl ?_
          refine S_if (b := (x27.2 != (0 : Int))) hF (fun hb39 hF => ?_) (fun hb40 hF => ?_)
          ·
            refine S_off rfl rfl hb39 ?_
            refine S_offD ?_
            refine S_off rfl rfl hb39 ?_
            refine S_offD ?_
            refine S_off rfl rfl hb39 ?_
            refine S_offD ?_
            refine S_off rfl rfl hb39 ?_
            refine S_offD ?_
            refine S_pickT (v := .bool _) rfl hb39 rfl ?_
            refine S_m (v := .bool _) rfl ?_
            refine S_off rfl rfl rfl ?_
            refine S_offD ?_
            refine S_off rfl rfl rfl ?_
            refine S_offD ?_
            refine S_off rfl rfl rfl ?_
            refine S_offD ?_
            refine S_off rfl rfl rfl ?_
            refine S_offD ?_
            refine S_off rfl rfl rfl ?_
            refine S_offD ?_
            refine S_off rfl rfl rfl ?_
            refine S_offD ?_
            refine S_pickT (v := .bool _) rfl rfl rfl ?_
            refine S_nil ?_
            have hwo : WO [(i28, .cells [.sl 1 (List.map c_i64 x27.1.Steps) 0, .bool x27.1.Attr, .str x27.1.Name.URI, .str x27.1.Name.Local])] [] := (.drop .nil)
            exact ⟨true, hF, (hwo.spec ok).1, WS.mk' (.cons (.refl _) (.cons (.refl _) .nil)) ok hwo⟩
          ·
            refine S_on rfl rfl hb40 ?_
            refine S_in ?_
            refine S_ldP (j := 0) ok rfl rfl rfl hi28 (p_agg (vs := c_T_trail_Trail x27.1) ty_ag_26 ty_sz_26 rfl rfl) ?_
            refine S_nil ?_
            refine S_on rfl rfl hb40 ?_
            refine S_in ?_
            refine S_ldQ rfl (p_agg (vs := c_T_trail_Trail p0) ty_ag_26 ty_sz_26 rfl rfl) ?_
            refine S_nil ?_
            refine S_on rfl rfl hb40 ?_
            refine S_in ?_
            refine S_call (F_trail_Compare_ok _ hF fun x41 _ hF => ?_) (.cons (.refl _) (.cons (.refl _) (.nil)))
            refine S_nil ?_
            refine S_on rfl rfl hb40 ?_
            refine S_in ?_
            refine S_bin rfl rfl (ev_neq ..) ?_
            refine S_nil ?_
            refine S_pickF (v := .bool _) rfl hb40 rfl ?_
            refine S_m (v := .bool _) rfl ?_
            refine S_if (b := (x41 != (0 : Int))) hF (fun hb42 hF => ?_) (fun hb43 hF => ?_)
            ·
              refine S_off rfl rfl hb42 ?_
              refine S_offD ?_
              refine S_off rfl rfl hb42 ?_
              refine S_offD ?_
              refine S_off rfl rfl hb42 ?_
              refine S_offD ?_
              refine S_off rfl rfl hb42 ?_
              refine S_offD ?_
              refine S_off rfl rfl hb42 ?_
              refine S_offD ?_
              refine S_off rfl rfl hb42 ?_
              refine S_offD ?_
              refine S_pickT (v := .bool _) rfl hb42 rfl ?_
              refine S_nil ?_
              have hwo : WO [(i28, .cells [.sl 1 (List.map c_i64 x27.1.Steps) 0, .bool x27.1.Attr, .str x27.1.Name.URI, .str x27.1.Name.Local])] [] := (.drop .nil)
              exact ⟨true, hF, (hwo.spec ok).1, WS.mk' (.cons (.refl _) (.cons (.refl _) .nil)) ok hwo⟩
            ·
              refine S_on rfl rfl hb43 ?_
              refine S_in ?_
              refine S_ldP (j := 0) ok rfl rfl rfl hi28 (p_agg (vs := c_T_trail_Trail x27.1) ty_ag_26 ty_sz_26 rfl rfl) ?_
              refine S_nil ?_
              refine S_on rfl rfl hb43 ?_
              refine S_in ?_
              refine S_ldQ rfl (p_agg (vs := c_T_trail_Trail p0) ty_ag_26 ty_sz_26 rfl rfl) ?_
              refine S_nil ?_
              refine S_on rfl rfl hb43 ?_
              refine S_in ?_
              refine S_call (F_lecternlaw08_doc_ok _ hF fun x44 _ hF => ?_) (.cons (.refl _) (.nil))
              refine S_nil ?_
              refine S_on rfl rfl hb43 ?_
              refine S_in ?_
              refine S_call (F_lecternlaw08_doc_ok _ hF fun x45 _ hF => ?_) (.cons (.refl _) (.nil))
              refine S_nil ?_
              refine S_on rfl rfl hb43 ?_
              refine S_in ?_
              refine S_call (F_lecternref08_Same_ok _ hF fun x46 _ hF => ?_) (.cons (.refl _) (.cons (.refl _) (.nil)))
              refine S_nil ?_
              refine S_on rfl rfl hb43 ?_
              refine S_in ?_
              refine S_un rfl (ev_not _) ?_
              refine S_nil ?_
              refine S_pickF (v := .bool _) rfl hb43 rfl ?_
              refine S_nil ?_
              have hwo : WO [(i28, .cells [.sl 1 (List.map c_i64 x27.1.Steps) 0, .bool x27.1.Attr, .str x27.1.Name.URI, .str x27.1.Name.Local])] [] := (.drop .nil)
              exact ⟨(!x46), hF, (hwo.spec ok).1, WS.mk' (.cons (.refl _) (.cons (.refl _) .nil)) ok hwo⟩
        ·
          rintro a37 s' hF ⟨ok, hws⟩
          refine WP_ws hws ?_
          clear hws s'
          refine C_if (b := a37) rfl hF (fun hb47 hF => ?_) (fun hb47 hF => ?_)
          ·
            refine C_seq ?_
            refine C_reg (mdl []) ?_
            refine S_a (v := .bool _) rfl ?_
            refine S_nil ?_
            refine WP_ret ?_
            repeat (first | with_reducible refine Exit.sel_ret ?_ | with_reducible refine Exit.blk_ret ?_)
            refine C_ret (fn := Tryd.f4) rfl (.tmp (v := .bool false) rfl .nil) ?_
            exact ⟨_, _, (.refl _), WH.refl _, _, F_some hF, rfl⟩
          ·
            refine WP_skip ?_
            have hwo : WO [] [] := .nil
            exact ⟨(), hF, (hwo.spec ok).1, WS.mk' (.cons (.refl _) .nil) ok hwo⟩
      ·
        refine WP_skip ?_
        have hwo : WO [] [] := .nil
        exact ⟨(), hF, (hwo.spec ok).1, WS.mk' (.cons (.refl _) .nil) ok hwo⟩
    ·
      rintro ⟨⟩ s' hF ⟨ok, hws⟩
      refine WP_ws hws ?_
      clear hws s'
      refine C_seq ?_
      refine C_reg (mdl [(9, 1)]) ?_
      refine S_m (v := .str _) rfl ?_
      refine S_call (F_trail_Read_ok _ hF fun x48 _ hF => ?_) (.cons (.refl _) (.nil))
      refine S_m (v := .tup _) rfl ?_
      refine S_ext rfl rfl ?_
      refine S_ext rfl rfl ?_
      refine S_all1 ok rfl ty_zc_26 ?_
      intro i49 hi49 ok
      refine S_st (j := 0) (cs' := [.sl 1 (List.map c_i64 x48.1.Steps) 0, .bool x48.1.Attr, .str x48.1.Name.URI, .str x48.1.Name.Local]) ok rfl rfl rfl hi49 rfl ty_sz_26 rfl rfl (fun ok => ?_)
      refine S_a (v := .int _ _) rfl ?_
      refine S_nil ?_
      refine C_seq ?_
      refine C_seq ?_
      refine C_reg (mdl []) ?_
      refine S_m (v := .int _ _) rfl ?_
      refine S_bin rfl rfl (ev_neq ..) ?_
      refine S_nil ?_
      refine C_if (b := (x48.2 != (0 : Int))) rfl hF (fun hb50 hF => ?_) (fun hb50 hF => ?_)
      ·
        refine C_seq ?_
        refine C_reg (mdl []) ?_
        refine S_a (v := .bool _) rfl ?_
        refine S_nil ?_
        refine WP_ret ?_
        repeat (first | with_reducible refine Exit.sel_ret ?_ | with_reducible refine Exit.blk_ret ?_)
        refine C_ret (fn := Tryd.f4) rfl (.tmp (v := .bool true) rfl .nil) ?_
        exact ⟨_, _, (.refl _), WH.refl _, _, F_some hF, rfl⟩
      ·
        refine WP_skip ?_
        refine C_seq ?_
        refine C_reg (mdl []) ?_
        refine S_ldP (j := 0) ok rfl rfl rfl hi49 (p_agg (vs := c_T_trail_Trail x48.1) ty_ag_26 ty_sz_26 rfl rfl) ?_
        refine S_call (F_trail_Show_ok _ hF fun x51 _ hF => ?_) (.cons (.refl _) (.nil))
        refine S_m (v := .tup _) rfl ?_
        refine S_ext rfl rfl ?_
        refine S_ext rfl rfl ?_
        refine S_a (v := .str _) rfl ?_
        refine S_a (v := .int _ _) rfl ?_
        refine S_nil ?_
        refine C_seq ?_
        refine C_reg (mdl []) ?_
        refine S_m (v := .int _ _) rfl ?_
        refine S_bin rfl rfl (ev_eql ..) ?_
        refine S_m (v := .bool _) rfl ?_
        refine S_two (b := (x51.2 == (0 : Int))) 4 61 (.bool ((x51.2 == (0 : Int)) && (x51.1 == p1))) (fun hb52 => ?_) (fun hb52 => ?_) ?_
        ·
          refine S_on rfl rfl hb52 ?_
          refine S_in ?_
          refine S_m (v := .str _) rfl ?_
          refine S_nil ?_
          refine S_on rfl rfl hb52 ?_
          refine S_in ?_
          refine S_m (v := .str _) rfl ?_
          refine S_nil ?_
          refine S_on rfl rfl hb52 ?_
          refine S_in ?_
          refine S_bin rfl rfl e_seql ?_
          refine S_nil ?_
          refine S_pickT (v := .bool _) rfl hb52 rfl ?_
          refine S_nil ?_
          refine .hd (and_t hb52) ?_
          repeat (first | with_reducible exact WS.refl _ | refine WS.add ?_ rfl)
        ·
          refine S_off rfl rfl hb52 ?_
          refine S_offD ?_
          refine S_off rfl rfl hb52 ?_
          refine S_offD ?_
          refine S_off rfl rfl hb52 ?_
          refine S_offD ?_
          refine S_pickF (v := .bool _) rfl hb52 rfl ?_
          refine S_nil ?_
          refine .hd (and_f hb52) ?_
          repeat (first | with_reducible exact WS.refl _ | refine WS.add ?_ rfl)
        refine S_a (v := .bool _) rfl ?_
        refine S_nil ?_
        refine WP_ret ?_
        repeat (first | with_reducible refine Exit.sel_ret ?_ | with_reducible refine Exit.blk_ret ?_)
        refine C_ret (fn := Tryd.f4) rfl (.tmp (v := .bool ((x51.2 == (0 : Int)) && (x51.1 == p1))) rfl .nil) ?_
        exact ⟨_, _, (.refl _), WH.refl _, _, F_some hF, rfl⟩
theorem F_tree_Copy_i : ∀ (N : Nat) (v : T_api_Node) (G : T_api_Node → Prop) (h : Heap), OptP (iter F_tree_Copy_b N v) G → CallsA Tryd.prog 60 [.agg (c_T_api_Node v)] h fun d h' => ∃ r, G r ∧ d = .agg (c_T_api_Node r) ∧ h' = h := by
  intro N
  induction N with
  | zero => intro v G h hF; exact F_none hF
  | succ N ih0 =>
  intro p0 G h hF
  show CallsA Tryd.prog 60 [.agg (c_T_api_Node p0)] h fun d h' => ∃ r, G r ∧ d = .agg (c_T_api_Node r) ∧ h' = h
  replace hF : OptP (F_tree_Copy_b (iter F_tree_Copy_b N) p0) G := hF
  refine CallsA.ret ?_
  refine C_body Tryd.func60 rfl en_60 Tryd.ntmps60 rfl (fun ok => ?_)
  rw [F_tree_Copy_b] at hF
  refine C_seq ?_
  refine C_reg (mdl [(1, 1), (2, 1)]) ?_
  refine S_box1 (cs := [.int .i64 p0.Kind, .str p0.Name.URI, .str p0.Name.Local, .sl 3 (List.map c_T_api_Attr p0.Attrs) 0, .sl 6 (List.map c_T_api_Node p0.Kids) 0, .str p0.Text]) ok rfl rfl rfl (c_T_api_Node_eq p0) ?_
  intro i1 hi1 ok
  refine S_all1 ok rfl ty_zc_45 ?_
  intro i2 hi2 ok
  refine S_nil ?_
  refine C_seq ?_
  refine C_reg (mdl []) ?_
  refine S_faP rfl ty_fd_45_2 ty_sz_42 ?_
  refine S_ldP (j := 1) ok rfl rfl rfl hi1 (p_one (v := .sl 3 (List.map c_T_api_Attr p0.Attrs) 0) ty_ag_42 ty_sz_42 rfl) ?_
  refine S_appNil rfl rfl rfl ty_el_42 ty_ni_42 hF (fun hF => ?_)
  refine S_faP rfl ty_fd_45_2 ty_sz_42 ?_
  refine S_st (j := 1) (cs' := [.int .i64 p0.Kind, .str p0.Name.URI, .str p0.Name.Local, .sl 3 (List.map c_T_api_Attr (([] : List T_api_Attr) ++ p0.Attrs)) 0, .sl 6 (List.map c_T_api_Node p0.Kids) 0, .str p0.Text]) ok rfl rfl rfl hi1 rfl ty_sz_42 rfl rfl (fun ok => ?_)
  refine S_nil ?_
  refine C_seq ?_
  refine C_reg (mdl []) ?_
  refine S_faP rfl ty_fd_45_3 ty_sz_43 ?_
  refine S_ldP (j := 1) ok rfl rfl rfl hi1 (p_one (v := .sl 6 (List.map c_T_api_Node p0.Kids) 0) ty_ag_43 ty_sz_43 rfl) ?_
  refine S_a (v := .sl _ _ _) rfl ?_
  refine S_nil ?_
  refine C_seq ?_
  refine C_reg (mdl []) ?_
  refine S_faP rfl ty_fd_45_3 ty_sz_43 ?_
  refine S_st (j := 1) (cs' := [.int .i64 p0.Kind, .str p0.Name.URI, .str p0.Name.Local, .sl 3 (List.map c_T_api_Attr (([] : List T_api_Attr) ++ p0.Attrs)) 0, .snil, .str p0.Text]) ok rfl rfl rfl hi1 rfl ty_sz_43 rfl rfl (fun ok => ?_)
  refine S_ghostO 1 4 6 (fun r3 => [.int .i64 p0.Kind, .str p0.Name.URI, .str p0.Name.Local, .sl 3 (List.map c_T_api_Attr (([] : List T_api_Attr) ++ p0.Attrs)) 0, .sl 6 (List.map c_T_api_Node ([] : List T_api_Node)) r3, .str p0.Text]) ok rfl hi1 rfl (fun _ => rfl) ?_
  intro r3 hr3 ok
  refine S_nil ?_
  refine C_join hF (fun (v : Int × (List UInt8) × (List UInt8) × (List T_api_Attr) × (List T_api_Node) × (List UInt8)) s' => match v with | (a19, a20, a21, a22, a23, a25) => ∃ g24 : Nat, g24 ≠ 0 ∧ OK h [(g24, .room), (i2, .cells [.int .i64 (0 : Int), .str ([] : List UInt8), .str ([] : List UInt8), .sl 3 (List.map c_T_api_Attr ([] : List T_api_Attr)) 0, .sl 6 (List.map c_T_api_Node ([] : List T_api_Node)) 0, .str ([] : List UInt8)]), (i1, .cells [.int .i64 a19, .str a20, .str a21, .sl 3 (List.map c_T_api_Attr a22) 0, .sl 6 (List.map c_T_api_Node a23) g24, .str a25])] ∧ WS s' ⟨mkSl 28 [(1, .ptr i1 0), (2, .ptr i2 0)], Hp h [(g24, .room), (i2, .cells [.int .i64 (0 : Int), .str ([] : List UInt8), .str ([] : List UInt8), .sl 3 (List.map c_T_api_Attr ([] : List T_api_Attr)) 0, .sl 6 (List.map c_T_api_Node ([] : List T_api_Node)) 0, .str ([] : List UInt8)]), (i1, .cells [.int .i64 a19, .str a20, .str a21, .sl 3 (List.map c_T_api_Attr a22) 0, .sl 6 (List.map c_T_api_Node a23) g24, .str a25])]⟩) (fun J26 hF => ?_) ?_
  ·
    refine C_seq ?_
    refine C_reg (mdl []) ?_
    refine S_m (v := .sl _ _ _) rfl ?_
    refine S_lenL rfl ty_sl_43 ?_
    refine S_m (v := .int _ _) rfl ?_
    refine S_nil ?_
    refine WP_block ?_
    refine C_loop (σ := Int × (List UInt8) × (List UInt8) × (List T_api_Attr) × (List T_api_Node) × (List UInt8) × Int) hF (fun (v : Int × (List UInt8) × (List UInt8) × (List T_api_Attr) × (List T_api_Node) × (List UInt8) × Int) s' => match v with | (a27, a28, a29, a30, a31, a33, a34) => ∃ g32 : Nat, g32 ≠ 0 ∧ OK h [(g32, .room), (i2, .cells [.int .i64 (0 : Int), .str ([] : List UInt8), .str ([] : List UInt8), .sl 3 (List.map c_T_api_Attr ([] : List T_api_Attr)) 0, .sl 6 (List.map c_T_api_Node ([] : List T_api_Node)) 0, .str ([] : List UInt8)]), (i1, .cells [.int .i64 a27, .str a28, .str a29, .sl 3 (List.map c_T_api_Attr a30) 0, .sl 6 (List.map c_T_api_Node a31) g32, .str a33])] ∧ WS s' ⟨mkSl 28 [(1, .ptr i1 0), (2, .ptr i2 0), (13, .sl 6 (List.map c_T_api_Node p0.Kids) 0), (14, .int .i64 (p0.Kids.length : Int)), (15, .int .i64 a34)], Hp h [(g32, .room), (i2, .cells [.int .i64 (0 : Int), .str ([] : List UInt8), .str ([] : List UInt8), .sl 3 (List.map c_T_api_Attr ([] : List T_api_Attr)) 0, .sl 6 (List.map c_T_api_Node ([] : List T_api_Node)) 0, .str ([] : List UInt8)]), (i1, .cells [.int .i64 a27, .str a28, .str a29, .sl 3 (List.map c_T_api_Attr a30) 0, .sl 6 (List.map c_T_api_Node a31) g32, .str a33])]⟩) ?_ ?_
    ·
      have hwo : WO [(r3, .room), (i2, .cells [.int .i64 (0 : Int), .str ([] : List UInt8), .str ([] : List UInt8), .snil, .snil, .str ([] : List UInt8)]), (i1, .cells [.int .i64 p0.Kind, .str p0.Name.URI, .str p0.Name.Local, .sl 3 (List.map c_T_api_Attr (([] : List T_api_Attr) ++ p0.Attrs)) 0, .sl 6 (List.map c_T_api_Node ([] : List T_api_Node)) r3, .str p0.Text])] [(r3, .room), (i2, .cells [.int .i64 (0 : Int), .str ([] : List UInt8), .str ([] : List UInt8), .sl 3 (List.map c_T_api_Attr ([] : List T_api_Attr)) 0, .sl 6 (List.map c_T_api_Node ([] : List T_api_Node)) 0, .str ([] : List UInt8)]), (i1, .cells [.int .i64 p0.Kind, .str p0.Name.URI, .str p0.Name.Local, .sl 3 (List.map c_T_api_Attr (([] : List T_api_Attr) ++ p0.Attrs)) 0, .sl 6 (List.map c_T_api_Node ([] : List T_api_Node)) r3, .str p0.Text])] := (.keep (.weak (.cons (.refl _) (.cons (.refl _) (.cons (.refl _) (.cons (.nil _) (.cons (.nil _) (.cons (.refl _) (.nil))))))) (.keep .nil)))
      exact ⟨r3, hr3, (hwo.spec ok).1, WS.mk' (.cons (.refl _) (.cons (.refl _) (.cons (.refl _) (.cons (.refl _) (.cons (.refl _) .nil))))) ok hwo⟩
    ·
      rintro G35 hG36 rec37 ⟨a27, a28, a29, a30, a31, a33, a34⟩ s' ih38 hF ⟨g32, hg32, ok, hws⟩
      refine WP_ws hws ?_
      clear hws s'
      rw [F_tree_Copy_l0] at hF
      refine C_seq ?_
      refine C_reg (mdl []) ?_
      refine S_bin rfl rfl (ev_lss ..) ?_
      refine S_nil ?_
      refine C_seq ?_
      refine C_if (b := (decide (a34 < (p0.Kids.length : Int)))) rfl hF (fun hb39 hF => ?_) (fun hb39 hF => ?_)
      ·
        refine WP_skip ?_
        refine C_seq ?_
        refine WP_block ?_
        refine C_seq ?_
        refine C_reg (mdl [(5, 1)]) ?_
        refine S_ix rfl rfl ty_sl_43 ty_sz_45 hF (fun x40 _ hF => ?_)
        refine S_ldQ rfl (p_agg (vs := c_T_api_Node x40) ty_ag_45 ty_sz_45 (by rw [c_T_api_Node_eq]; rfl) (by rw [c_T_api_Node_eq]; rfl)) ?_
        refine S_all1 ok rfl ty_zc_45 ?_
        intro i41 hi41 ok
        refine S_st (j := 0) (cs' := [.int .i64 x40.Kind, .str x40.Name.URI, .str x40.Name.Local, .sl 3 (List.map c_T_api_Attr x40.Attrs) 0, .sl 6 (List.map c_T_api_Node x40.Kids) 0, .str x40.Text]) ok rfl (congrArg D.agg (c_T_api_Node_eq x40)) rfl hi41 rfl ty_sz_45 rfl rfl (fun ok => ?_)
        refine S_nil ?_
        refine C_fork (mdl [(24, 2)]) [0, 2] [1, 3, 4, 5, 6, 7] [3, 1, 4, 5, 6, 7] [_, _] [_, _, _, _, _, _] [_, _, _, _, _, _] (by kernel_rfl) rfl rfl rfl rfl (by kernel_rfl) ?_
        refine S_faP rfl ty_fd_45_3 ty_sz_43 ?_
        refine S_ldP (j := 0) ok rfl rfl rfl hi41 (p_agg (vs := c_T_api_Node x40) ty_ag_45 ty_sz_45 rfl (c_T_api_Node_eq x40).symm) ?_
        refine S_nil ?_
        refine ⟨?_, ?_⟩
        ·
          refine S_ldP (j := 3) ok rfl rfl rfl hi1 (p_one (v := .sl 6 (List.map c_T_api_Node a31) g32) ty_ag_43 ty_sz_43 rfl) ?_
          refine S_call (ok_of (enc := fun r => .agg (c_T_api_Node r)) (fun G h hF => ih0 x40 G h hF) _ hF fun x42 _ hF => ?_) (.cons (.refl _) (.nil))
          refine S_same (d := 22) (v := .agg [.int .i64 x42.Kind, .str x42.Name.URI, .str x42.Name.Local, .sl 3 (List.map c_T_api_Attr x42.Attrs) 0, .sl 6 (List.map c_T_api_Node x42.Kids) 0, .str x42.Text]) (congrArg D.agg (c_T_api_Node_eq x42)) ?_
          refine S_lit0 (cs := [.int .i64 x42.Kind, .str x42.Name.URI, .str x42.Name.Local, .sl 3 (List.map c_T_api_Attr x42.Attrs) 0, .sl 6 (List.map c_T_api_Node x42.Kids) 0, .str x42.Text]) (es := (List.map c_T_api_Node [x42])) rfl ty_el_43 rfl (by kernel_rfl) (by simp only [List.map_cons, List.map_nil, c_T_api_Node_eq]; rfl) ?_
          refine S_app (j := 1) ok rfl rfl rfl rfl hg32 ty_el_43 ty_ni_43 hF ?_
          intro r43 hr43 ok hF
          refine S_faP rfl ty_fd_45_3 ty_sz_43 ?_
          refine S_st (j := 3) (cs' := [.int .i64 a27, .str a28, .str a29, .sl 3 (List.map c_T_api_Attr a30) 0, .sl 6 (List.map c_T_api_Node (a31 ++ [x42])) r43, .str a33]) ok rfl rfl rfl hi1 rfl ty_sz_43 rfl rfl (fun ok => ?_)
          refine S_nil ?_
          refine C_reg (mdl []) ?_
          refine S_bin rfl rfl (ev_add ..) ?_
          refine S_m (v := .int _ _) rfl ?_
          refine S_nil ?_
          refine ih38 (a27, a28, a29, a30, (a31 ++ [x42]), a33, (IntKind.wrap .i64 (a34 + (1 : Int)))) _ hF ?_
          have hwo : WO [(i41, .cells [.int .i64 x40.Kind, .str x40.Name.URI, .str x40.Name.Local, .sl 3 (List.map c_T_api_Attr x40.Attrs) 0, .sl 6 (List.map c_T_api_Node x40.Kids) 0, .str x40.Text]), (r43, .room), (i2, .cells [.int .i64 (0 : Int), .str ([] : List UInt8), .str ([] : List UInt8), .sl 3 (List.map c_T_api_Attr ([] : List T_api_Attr)) 0, .sl 6 (List.map c_T_api_Node ([] : List T_api_Node)) 0, .str ([] : List UInt8)]), (i1, .cells [.int .i64 a27, .str a28, .str a29, .sl 3 (List.map c_T_api_Attr a30) 0, .sl 6 (List.map c_T_api_Node (a31 ++ [x42])) r43, .str a33])] [(r43, .room), (i2, .cells [.int .i64 (0 : Int), .str ([] : List UInt8), .str ([] : List UInt8), .sl 3 (List.map c_T_api_Attr ([] : List T_api_Attr)) 0, .sl 6 (List.map c_T_api_Node ([] : List T_api_Node)) 0, .str ([] : List UInt8)]), (i1, .cells [.int .i64 a27, .str a28, .str a29, .sl 3 (List.map c_T_api_Attr a30) 0, .sl 6 (List.map c_T_api_Node (a31 ++ [x42])) r43, .str a33])] := (.drop (.keep (.keep (.keep .nil))))
          exact ⟨r43, hr43, (hwo.spec ok).1, WS.mk' (.cons (.refl _) (.cons (.refl _) (.cons (.refl _) (.cons (.refl _) (.cons (.refl _) .nil))))) ok hwo⟩
        ·
          refine S_call (ok_of (enc := fun r => .agg (c_T_api_Node r)) (fun G h hF => ih0 x40 G h hF) _ hF fun x44 _ hF => ?_) (.cons (.refl _) (.nil))
          refine S_ldP (j := 3) ok rfl rfl rfl hi1 (p_one (v := .sl 6 (List.map c_T_api_Node a31) g32) ty_ag_43 ty_sz_43 rfl) ?_
          refine S_same (d := 22) (v := .agg [.int .i64 x44.Kind, .str x44.Name.URI, .str x44.Name.Local, .sl 3 (List.map c_T_api_Attr x44.Attrs) 0, .sl 6 (List.map c_T_api_Node x44.Kids) 0, .str x44.Text]) (congrArg D.agg (c_T_api_Node_eq x44)) ?_
          refine S_lit0 (cs := [.int .i64 x44.Kind, .str x44.Name.URI, .str x44.Name.Local, .sl 3 (List.map c_T_api_Attr x44.Attrs) 0, .sl 6 (List.map c_T_api_Node x44.Kids) 0, .str x44.Text]) (es := (List.map c_T_api_Node [x44])) rfl ty_el_43 rfl (by kernel_rfl) (by simp only [List.map_cons, List.map_nil, c_T_api_Node_eq]; rfl) ?_
          refine S_app (j := 1) ok rfl rfl rfl rfl hg32 ty_el_43 ty_ni_43 hF ?_
          intro r45 hr45 ok hF
          refine S_faP rfl ty_fd_45_3 ty_sz_43 ?_
          refine S_st (j := 3) (cs' := [.int .i64 a27, .str a28, .str a29, .sl 3 (List.map c_T_api_Attr a30) 0, .sl 6 (List.map c_T_api_Node (a31 ++ [x44])) r45, .str a33]) ok rfl rfl rfl hi1 rfl ty_sz_43 rfl rfl (fun ok => ?_)
          refine S_nil ?_
          refine C_reg (mdl []) ?_
          refine S_bin rfl rfl (ev_add ..) ?_
          refine S_m (v := .int _ _) rfl ?_
          refine S_nil ?_
          refine ih38 (a27, a28, a29, a30, (a31 ++ [x44]), a33, (IntKind.wrap .i64 (a34 + (1 : Int)))) _ hF ?_
          have hwo : WO [(i41, .cells [.int .i64 x40.Kind, .str x40.Name.URI, .str x40.Name.Local, .sl 3 (List.map c_T_api_Attr x40.Attrs) 0, .sl 6 (List.map c_T_api_Node x40.Kids) 0, .str x40.Text]), (r45, .room), (i2, .cells [.int .i64 (0 : Int), .str ([] : List UInt8), .str ([] : List UInt8), .sl 3 (List.map c_T_api_Attr ([] : List T_api_Attr)) 0, .sl 6 (List.map c_T_api_Node ([] : List T_api_Node)) 0, .str ([] : List UInt8)]), (i1, .cells [.int .i64 a27, .str a28, .str a29, .sl 3 (List.map c_T_api_Attr a30) 0, .sl 6 (List.map c_T_api_Node (a31 ++ [x44])) r45, .str a33])] [(r45, .room), (i2, .cells [.int .i64 (0 : Int), .str ([] : List UInt8), .str ([] : List UInt8), .sl 3 (List.map c_T_api_Attr ([] : List T_api_Attr)) 0, .sl 6 (List.map c_T_api_Node ([] : List T_api_Node)) 0, .str ([] : List UInt8)]), (i1, .cells [.int .i64 a27, .str a28, .str a29, .sl 3 (List.map c_T_api_Attr a30) 0, .sl 6 (List.map c_T_api_Node (a31 ++ [x44])) r45, .str a33])] := (.drop (.keep (.keep (.keep .nil))))
          exact ⟨r45, hr45, (hwo.spec ok).1, WS.mk' (.cons (.refl _) (.cons (.refl _) (.cons (.refl _) (.cons (.refl _) (.cons (.refl _) .nil))))) ok hwo⟩
      ·
        refine WP_exit ?_
        simp only [Exit.sel, Exit.blk, if_true, if_false, reduceIte, Nat.reduceEqDiff, Nat.succ_ne_zero, Nat.zero_ne_one, Nat.one_ne_zero]
        replace hF := hG36 _ (F_some hF)
        have hwo : WO [(g32, .room), (i2, .cells [.int .i64 (0 : Int), .str ([] : List UInt8), .str ([] : List UInt8), .sl 3 (List.map c_T_api_Attr ([] : List T_api_Attr)) 0, .sl 6 (List.map c_T_api_Node ([] : List T_api_Node)) 0, .str ([] : List UInt8)]), (i1, .cells [.int .i64 a27, .str a28, .str a29, .sl 3 (List.map c_T_api_Attr a30) 0, .sl 6 (List.map c_T_api_Node a31) g32, .str a33])] [(g32, .room), (i2, .cells [.int .i64 (0 : Int), .str ([] : List UInt8), .str ([] : List UInt8), .sl 3 (List.map c_T_api_Attr ([] : List T_api_Attr)) 0, .sl 6 (List.map c_T_api_Node ([] : List T_api_Node)) 0, .str ([] : List UInt8)]), (i1, .cells [.int .i64 a27, .str a28, .str a29, .sl 3 (List.map c_T_api_Attr a30) 0, .sl 6 (List.map c_T_api_Node a31) g32, .str a33])] := (.keep (.keep (.keep .nil)))
        exact ⟨(a27, a28, a29, a30, a31, a33), hF, g32, hg32, (hwo.spec ok).1, WS.mk' (.cons (.refl _) (.cons (.refl _) .nil)) ok hwo⟩
  ·
    rintro ⟨a19, a20, a21, a22, a23, a25⟩ s' hF ⟨g24, hg24, ok, hws⟩
    refine WP_ws hws ?_
    clear hws s'
    refine C_seq ?_
    refine C_reg (mdl []) ?_
    refine S_ldP (j := 2) ok rfl rfl rfl hi1 (p_agg (vs := [.int .i64 a19, .str a20, .str a21, .sl 3 (List.map c_T_api_Attr a22) 0, .sl 6 (List.map c_T_api_Node a23) g24, .str a25]) ty_ag_45 ty_sz_45 rfl rfl) ?_
    refine S_one 27 (v := .agg (c_T_api_Node (⟨a19, (⟨a20, a21⟩ : T_api_Name), a22, a23, a25⟩ : T_api_Node))) (Wd.toE (.aggC (.cons (.refl _) (.cons (.refl _) (.cons (.refl _) (.cons (.refl _) (.cons (.zero _ _ _) (.cons (.refl _) (.nil)))))))) (c_T_api_Node_eq _)) ?_
    refine S_st (j := 1) (cs' := [.int .i64 (⟨a19, (⟨a20, a21⟩ : T_api_Name), a22, a23, a25⟩ : T_api_Node).Kind, .str (⟨a19, (⟨a20, a21⟩ : T_api_Name), a22, a23, a25⟩ : T_api_Node).Name.URI, .str (⟨a19, (⟨a20, a21⟩ : T_api_Name), a22, a23, a25⟩ : T_api_Node).Name.Local, .sl 3 (List.map c_T_api_Attr (⟨a19, (⟨a20, a21⟩ : T_api_Name), a22, a23, a25⟩ : T_api_Node).Attrs) 0, .sl 6 (List.map c_T_api_Node (⟨a19, (⟨a20, a21⟩ : T_api_Name), a22, a23, a25⟩ : T_api_Node).Kids) 0, .str (⟨a19, (⟨a20, a21⟩ : T_api_Name), a22, a23, a25⟩ : T_api_Node).Text]) ok rfl (congrArg D.agg (c_T_api_Node_eq (⟨a19, (⟨a20, a21⟩ : T_api_Name), a22, a23, a25⟩ : T_api_Node))) rfl hi2 rfl ty_sz_45 rfl rfl (fun ok => ?_)
    refine S_nil ?_
    refine WP_ret ?_
    repeat (first | with_reducible refine Exit.sel_ret ?_ | with_reducible refine Exit.blk_ret ?_)
    refine C_ret (fn := Tryd.f60) rfl (.cell rfl (ld_ptr (j := 1) ok rfl hi2 (p_agg (vs := [.int .i64 (⟨a19, (⟨a20, a21⟩ : T_api_Name), a22, a23, a25⟩ : T_api_Node).Kind, .str (⟨a19, (⟨a20, a21⟩ : T_api_Name), a22, a23, a25⟩ : T_api_Node).Name.URI, .str (⟨a19, (⟨a20, a21⟩ : T_api_Name), a22, a23, a25⟩ : T_api_Node).Name.Local, .sl 3 (List.map c_T_api_Attr (⟨a19, (⟨a20, a21⟩ : T_api_Name), a22, a23, a25⟩ : T_api_Node).Attrs) 0, .sl 6 (List.map c_T_api_Node (⟨a19, (⟨a20, a21⟩ : T_api_Name), a22, a23, a25⟩ : T_api_Node).Kids) 0, .str (⟨a19, (⟨a20, a21⟩ : T_api_Name), a22, a23, a25⟩ : T_api_Node).Text]) ty_ag_45 ty_sz_45 rfl rfl)) .nil) ?_
    exact ⟨_, _, (Wd.toE (.aggC (.cons (.refl _) (.cons (.refl _) (.cons (.refl _) (.cons (.refl _) (.cons (.refl _) (.cons (.refl _) (.nil)))))))) (c_T_api_Node_eq _)), ok.wh, _, F_some hF, rfl, rfl⟩
theorem F_tree_Copy_w (p0 : T_api_Node) {G : T_api_Node → Prop} (h : Heap) (hF : OptP (F_tree_Copy p0) G) : CallsA Tryd.prog 60 [.agg (c_T_api_Node p0)] h fun d h' => ∃ r, G r ∧ d = .agg (c_T_api_Node r) ∧ h' = h := F_tree_Copy_i FUEL p0 G h hF
theorem F_tree_Copy_ok {β : Type} {f : T_api_Node → Option β} {G : β → Prop} {R : D → Heap → Prop} {p0 : T_api_Node} (h : Heap) (hF : OptP ((F_tree_Copy p0).bind f) G) (hk : ∀ r, F_tree_Copy p0 = some r → OptP (f r) G → R (.agg (c_T_api_Node r)) h) : CallsA Tryd.prog 60 [.agg (c_T_api_Node p0)] h R := by
  obtain ⟨r0, hr, hF⟩ := F_bind hF
  refine (F_tree_Copy_w (G := fun r => r = r0) p0 h ⟨r0, hr, rfl⟩).mono ?_
  rintro _ _ ⟨r, rfl, rfl, rfl⟩
  exact hk _ hr hF
theorem F_tree_At_w (p0 : T_api_Node) (p1 : List Int) {G : T_api_Node × Int → Prop} (h : Heap) (hF : OptP (F_tree_At p0 p1) G) : CallsA Tryd.prog 37 [.agg (c_T_api_Node p0), .sl 1 (List.map c_i64 p1) 0] h fun d h' => ∃ r, G r ∧ d = .tup [.agg (c_T_api_Node r.1), .int .i64 r.2] ∧ h' = h := by
  refine CallsA.ret ?_
  refine C_body Tryd.func37 rfl en_37 Tryd.ntmps37 rfl (fun ok => ?_)
  rw [F_tree_At] at hF
  refine C_seq ?_
  refine C_reg (mdl [(2, 1), (4, 1)]) ?_
  refine S_box1 (cs := [.int .i64 p0.Kind, .str p0.Name.URI, .str p0.Name.Local, .sl 3 (List.map c_T_api_Attr p0.Attrs) 0, .sl 6 (List.map c_T_api_Node p0.Kids) 0, .str p0.Text]) ok rfl rfl rfl (c_T_api_Node_eq p0) ?_
  intro i1 hi1 ok
  refine S_all1 ok rfl ty_zc_45 ?_
  intro i2 hi2 ok
  refine S_a (v := .int _ _) rfl ?_
  refine S_nil ?_
  refine C_join hF (fun (v : Int × (List UInt8) × (List UInt8) × (List T_api_Attr) × (List T_api_Node) × (List UInt8) × Int × (List UInt8) × (List UInt8) × (List T_api_Attr) × (List T_api_Node) × (List UInt8)) s' => match v with | (a21, a22, a23, a24, a25, a26, a27, a28, a29, a30, a31, a32) => OK h [(i2, .cells [.int .i64 a27, .str a28, .str a29, .sl 3 (List.map c_T_api_Attr a30) 0, .sl 6 (List.map c_T_api_Node a31) 0, .str a32]), (i1, .cells [.int .i64 a21, .str a22, .str a23, .sl 3 (List.map c_T_api_Attr a24) 0, .sl 6 (List.map c_T_api_Node a25) 0, .str a26])] ∧ WS s' ⟨mkSl 32 [(2, .ptr i1 0), (4, .ptr i2 0)], Hp h [(i2, .cells [.int .i64 a27, .str a28, .str a29, .sl 3 (List.map c_T_api_Attr a30) 0, .sl 6 (List.map c_T_api_Node a31) 0, .str a32]), (i1, .cells [.int .i64 a21, .str a22, .str a23, .sl 3 (List.map c_T_api_Attr a24) 0, .sl 6 (List.map c_T_api_Node a25) 0, .str a26])]⟩) (fun J33 hF => ?_) ?_
  ·
    refine C_seq ?_
    refine C_reg (mdl []) ?_
    refine S_m (v := .sl _ _ _) rfl ?_
    refine S_lenL rfl ty_sl_22 ?_
    refine S_m (v := .int _ _) rfl ?_
    refine S_nil ?_
    refine WP_block ?_
    refine C_loop (σ := Int × (List UInt8) × (List UInt8) × (List T_api_Attr) × (List T_api_Node) × (List UInt8) × Int × (List UInt8) × (List UInt8) × (List T_api_Attr) × (List T_api_Node) × (List UInt8) × Int) hF (fun (v : Int × (List UInt8) × (List UInt8) × (List T_api_Attr) × (List T_api_Node) × (List UInt8) × Int × (List UInt8) × (List UInt8) × (List T_api_Attr) × (List T_api_Node) × (List UInt8) × Int) s' => match v with | (a34, a35, a36, a37, a38, a39, a40, a41, a42, a43, a44, a45, a46) => OK h [(i2, .cells [.int .i64 a40, .str a41, .str a42, .sl 3 (List.map c_T_api_Attr a43) 0, .sl 6 (List.map c_T_api_Node a44) 0, .str a45]), (i1, .cells [.int .i64 a34, .str a35, .str a36, .sl 3 (List.map c_T_api_Attr a37) 0, .sl 6 (List.map c_T_api_Node a38) 0, .str a39])] ∧ WS s' ⟨mkSl 32 [(2, .ptr i1 0), (4, .ptr i2 0), (8, .sl 1 (List.map c_i64 p1) 0), (9, .int .i64 (p1.length : Int)), (10, .int .i64 a46)], Hp h [(i2, .cells [.int .i64 a40, .str a41, .str a42, .sl 3 (List.map c_T_api_Attr a43) 0, .sl 6 (List.map c_T_api_Node a44) 0, .str a45]), (i1, .cells [.int .i64 a34, .str a35, .str a36, .sl 3 (List.map c_T_api_Attr a37) 0, .sl 6 (List.map c_T_api_Node a38) 0, .str a39])]⟩) ?_ ?_
    ·
      have hwo : WO [(i2, .cells [.int .i64 (0 : Int), .str ([] : List UInt8), .str ([] : List UInt8), .snil, .snil, .str ([] : List UInt8)]), (i1, .cells [.int .i64 p0.Kind, .str p0.Name.URI, .str p0.Name.Local, .sl 3 (List.map c_T_api_Attr p0.Attrs) 0, .sl 6 (List.map c_T_api_Node p0.Kids) 0, .str p0.Text])] [(i2, .cells [.int .i64 (0 : Int), .str ([] : List UInt8), .str ([] : List UInt8), .sl 3 (List.map c_T_api_Attr ([] : List T_api_Attr)) 0, .sl 6 (List.map c_T_api_Node ([] : List T_api_Node)) 0, .str ([] : List UInt8)]), (i1, .cells [.int .i64 p0.Kind, .str p0.Name.URI, .str p0.Name.Local, .sl 3 (List.map c_T_api_Attr p0.Attrs) 0, .sl 6 (List.map c_T_api_Node p0.Kids) 0, .str p0.Text])] := (.weak (.cons (.refl _) (.cons (.refl _) (.cons (.refl _) (.cons (.nil _) (.cons (.nil _) (.cons (.refl _) (.nil))))))) (.keep .nil))
      exact ⟨(hwo.spec ok).1, WS.mk' (.cons (.refl _) (.cons (.refl _) (.cons (.refl _) (.cons (.refl _) (.cons (.refl _) .nil))))) ok hwo⟩
    ·
      rintro G47 hG48 rec49 ⟨a34, a35, a36, a37, a38, a39, a40, a41, a42, a43, a44, a45, a46⟩ s' ih50 hF ⟨ok, hws⟩
      refine WP_ws hws ?_
      clear hws s'
      rw [F_tree_At_l0] at hF
      refine C_seq ?_
      refine C_reg (mdl []) ?_
      refine S_bin rfl rfl (ev_lss ..) ?_
      refine S_nil ?_
      refine C_seq ?_
      refine C_if (b := (decide (a46 < (p1.length : Int)))) rfl hF (fun hb51 hF => ?_) (fun hb51 hF => ?_)
      ·
        refine WP_skip ?_
        refine C_seq ?_
        refine WP_block ?_
        refine C_seq ?_
        refine C_reg (mdl []) ?_
        refine S_ix rfl rfl ty_sl_22 ty_sz_3 hF (fun x52 _ hF => ?_)
        refine S_ldQ rfl (p_one ty_ag_3 ty_sz_3 rfl) ?_
        refine S_a (v := .int _ _) rfl ?_
        refine S_nil ?_
        refine C_seq ?_
        refine C_seq ?_
        refine C_reg (mdl []) ?_
        refine S_m (v := .int _ _) rfl ?_
        refine S_bin rfl rfl (ev_lss ..) ?_
        refine S_m (v := .bool _) rfl ?_
        refine S_two (b := (decide (x52 < (0 : Int)))) 6 22 (.bool ((decide (x52 < (0 : Int))) || (decide ((a38.length : Int) ≤ x52)))) (fun hb53 => ?_) (fun hb53 => ?_) ?_
        ·
          refine S_off rfl rfl hb53 ?_
          refine S_offD ?_
          refine S_off rfl rfl hb53 ?_
          refine S_offD ?_
          refine S_off rfl rfl hb53 ?_
          refine S_offD ?_
          refine S_off rfl rfl hb53 ?_
          refine S_offD ?_
          refine S_off rfl rfl hb53 ?_
          refine S_offD ?_
          refine S_pickT (v := .bool _) rfl hb53 rfl ?_
          refine S_nil ?_
          refine .hd (or_t hb53) ?_
          repeat (first | with_reducible exact WS.refl _ | refine WS.add ?_ rfl)
        ·
          refine S_on rfl rfl hb53 ?_
          refine S_in ?_
          refine S_m (v := .int _ _) rfl ?_
          refine S_nil ?_
          refine S_on rfl rfl hb53 ?_
          refine S_in ?_
          refine S_faP rfl ty_fd_45_3 ty_sz_43 ?_
          refine S_nil ?_
          refine S_on rfl rfl hb53 ?_
          refine S_in ?_
          refine S_ldP (j := 1) ok rfl rfl rfl hi1 (p_one (v := .sl 6 (List.map c_T_api_Node a38) 0) ty_ag_43 ty_sz_43 rfl) ?_
          refine S_nil ?_
          refine S_on rfl rfl hb53 ?_
          refine S_in ?_
          refine S_lenL rfl ty_sl_43 ?_
          refine S_nil ?_
          refine S_on rfl rfl hb53 ?_
          refine S_in ?_
          refine S_bin rfl rfl (ev_geq ..) ?_
          refine S_nil ?_
          refine S_pickF (v := .bool _) rfl hb53 rfl ?_
          refine S_nil ?_
          refine .hd (or_f hb53) ?_
          repeat (first | with_reducible exact WS.refl _ | refine WS.add ?_ rfl)
        refine S_nil ?_
        refine C_if (b := ((decide (x52 < (0 : Int))) || (decide ((a38.length : Int) ≤ x52)))) rfl hF (fun hb54 hF => ?_) (fun hb54 hF => ?_)
        ·
          refine C_seq ?_
          refine C_reg (mdl []) ?_
          refine S_bld (v := .agg [.int .i64 (0 : Int), .str ([] : List UInt8), .str ([] : List UInt8), .snil, .snil, .str ([] : List UInt8)]) (b_st ty_zc_45 ty_pl_45 rfl) ?_
          refine S_one 23 (v := .agg (c_T_api_Node (⟨(0 : Int), (⟨([] : List UInt8), ([] : List UInt8)⟩ : T_api_Name), ([] : List T_api_Attr), ([] : List T_api_Node), ([] : List UInt8)⟩ : T_api_Node))) (Wd.toE (.aggC (.cons (.refl _) (.cons (.refl _) (.cons (.refl _) (.cons (.nil _) (.cons (.nil _) (.cons (.refl _) (.nil)))))))) (c_T_api_Node_eq _)) ?_
          refine S_st (j := 0) (cs' := [.int .i64 (⟨(0 : Int), (⟨([] : List UInt8), ([] : List UInt8)⟩ : T_api_Name), ([] : List T_api_Attr), ([] : List T_api_Node), ([] : List UInt8)⟩ : T_api_Node).Kind, .str (⟨(0 : Int), (⟨([] : List UInt8), ([] : List UInt8)⟩ : T_api_Name), ([] : List T_api_Attr), ([] : List T_api_Node), ([] : List UInt8)⟩ : T_api_Node).Name.URI, .str (⟨(0 : Int), (⟨([] : List UInt8), ([] : List UInt8)⟩ : T_api_Name), ([] : List T_api_Attr), ([] : List T_api_Node), ([] : List UInt8)⟩ : T_api_Node).Name.Local, .sl 3 (List.map c_T_api_Attr (⟨(0 : Int), (⟨([] : List UInt8), ([] : List UInt8)⟩ : T_api_Name), ([] : List T_api_Attr), ([] : List T_api_Node), ([] : List UInt8)⟩ : T_api_Node).Attrs) 0, .sl 6 (List.map c_T_api_Node (⟨(0 : Int), (⟨([] : List UInt8), ([] : List UInt8)⟩ : T_api_Name), ([] : List T_api_Attr), ([] : List T_api_Node), ([] : List UInt8)⟩ : T_api_Node).Kids) 0, .str (⟨(0 : Int), (⟨([] : List UInt8), ([] : List UInt8)⟩ : T_api_Name), ([] : List T_api_Attr), ([] : List T_api_Node), ([] : List UInt8)⟩ : T_api_Node).Text]) ok rfl (congrArg D.agg (c_T_api_Node_eq (⟨(0 : Int), (⟨([] : List UInt8), ([] : List UInt8)⟩ : T_api_Name), ([] : List T_api_Attr), ([] : List T_api_Node), ([] : List UInt8)⟩ : T_api_Node))) rfl hi2 rfl ty_sz_45 rfl rfl (fun ok => ?_)
          refine S_a (v := .int _ _) rfl ?_
          refine S_nil ?_
          refine WP_ret ?_
          replace hF := hG48 _ (F_some hF)
          repeat (first | with_reducible refine Exit.sel_ret ?_ | with_reducible refine Exit.blk_ret ?_)
          refine C_ret (fn := Tryd.f37) rfl (.cell rfl (ld_ptr (j := 0) ok rfl hi2 (p_agg (vs := [.int .i64 (⟨(0 : Int), (⟨([] : List UInt8), ([] : List UInt8)⟩ : T_api_Name), ([] : List T_api_Attr), ([] : List T_api_Node), ([] : List UInt8)⟩ : T_api_Node).Kind, .str (⟨(0 : Int), (⟨([] : List UInt8), ([] : List UInt8)⟩ : T_api_Name), ([] : List T_api_Attr), ([] : List T_api_Node), ([] : List UInt8)⟩ : T_api_Node).Name.URI, .str (⟨(0 : Int), (⟨([] : List UInt8), ([] : List UInt8)⟩ : T_api_Name), ([] : List T_api_Attr), ([] : List T_api_Node), ([] : List UInt8)⟩ : T_api_Node).Name.Local, .sl 3 (List.map c_T_api_Attr (⟨(0 : Int), (⟨([] : List UInt8), ([] : List UInt8)⟩ : T_api_Name), ([] : List T_api_Attr), ([] : List T_api_Node), ([] : List UInt8)⟩ : T_api_Node).Attrs) 0, .sl 6 (List.map c_T_api_Node (⟨(0 : Int), (⟨([] : List UInt8), ([] : List UInt8)⟩ : T_api_Name), ([] : List T_api_Attr), ([] : List T_api_Node), ([] : List UInt8)⟩ : T_api_Node).Kids) 0, .str (⟨(0 : Int), (⟨([] : List UInt8), ([] : List UInt8)⟩ : T_api_Name), ([] : List T_api_Attr), ([] : List T_api_Node), ([] : List UInt8)⟩ : T_api_Node).Text]) ty_ag_45 ty_sz_45 rfl rfl)) (.tmp (v := .int .i64 (35 : Int)) rfl .nil)) ?_
          exact ⟨_, _, (.tupC (.cons (Wd.toE (.aggC (.cons (.refl _) (.cons (.refl _) (.cons (.refl _) (.cons (.refl _) (.cons (.refl _) (.cons (.refl _) (.nil)))))))) (c_T_api_Node_eq _)) (.cons (.refl _) (.nil)))), ok.wh, _, F_some hF, rfl, rfl⟩
        ·
          refine WP_skip ?_
          refine C_reg (mdl []) ?_
          refine S_faP rfl ty_fd_45_3 ty_sz_43 ?_
          refine S_ldP (j := 1) ok rfl rfl rfl hi1 (p_one (v := .sl 6 (List.map c_T_api_Node a38) 0) ty_ag_43 ty_sz_43 rfl) ?_
          refine S_m (v := .int _ _) rfl ?_
          refine S_ix rfl rfl ty_sl_43 ty_sz_45 hF (fun x55 _ hF => ?_)
          refine S_ldQ rfl (p_agg (vs := c_T_api_Node x55) ty_ag_45 ty_sz_45 (by rw [c_T_api_Node_eq]; rfl) (by rw [c_T_api_Node_eq]; rfl)) ?_
          refine S_st (j := 1) (cs' := [.int .i64 x55.Kind, .str x55.Name.URI, .str x55.Name.Local, .sl 3 (List.map c_T_api_Attr x55.Attrs) 0, .sl 6 (List.map c_T_api_Node x55.Kids) 0, .str x55.Text]) ok rfl (congrArg D.agg (c_T_api_Node_eq x55)) rfl hi1 rfl ty_sz_45 rfl rfl (fun ok => ?_)
          refine S_nil ?_
          refine C_reg (mdl []) ?_
          refine S_bin rfl rfl (ev_add ..) ?_
          refine S_m (v := .int _ _) rfl ?_
          refine S_nil ?_
          refine ih50 (x55.Kind, x55.Name.URI, x55.Name.Local, x55.Attrs, x55.Kids, x55.Text, a40, a41, a42, a43, a44, a45, (IntKind.wrap .i64 (a46 + (1 : Int)))) _ hF ?_
          have hwo : WO [(i2, .cells [.int .i64 a40, .str a41, .str a42, .sl 3 (List.map c_T_api_Attr a43) 0, .sl 6 (List.map c_T_api_Node a44) 0, .str a45]), (i1, .cells [.int .i64 x55.Kind, .str x55.Name.URI, .str x55.Name.Local, .sl 3 (List.map c_T_api_Attr x55.Attrs) 0, .sl 6 (List.map c_T_api_Node x55.Kids) 0, .str x55.Text])] [(i2, .cells [.int .i64 a40, .str a41, .str a42, .sl 3 (List.map c_T_api_Attr a43) 0, .sl 6 (List.map c_T_api_Node a44) 0, .str a45]), (i1, .cells [.int .i64 x55.Kind, .str x55.Name.URI, .str x55.Name.Local, .sl 3 (List.map c_T_api_Attr x55.Attrs) 0, .sl 6 (List.map c_T_api_Node x55.Kids) 0, .str x55.Text])] := (.keep (.keep .nil))
          exact ⟨(hwo.spec ok).1, WS.mk' (.cons (.refl _) (.cons (.refl _) (.cons (.refl _) (.cons (.refl _) (.cons (.refl _) .nil))))) ok hwo⟩
      ·
        refine WP_exit ?_
        simp only [Exit.sel, Exit.blk, if_true, if_false, reduceIte, Nat.reduceEqDiff, Nat.succ_ne_zero, Nat.zero_ne_one, Nat.one_ne_zero]
        replace hF := hG48 _ (F_some hF)
        have hwo : WO [(i2, .cells [.int .i64 a40, .str a41, .str a42, .sl 3 (List.map c_T_api_Attr a43) 0, .sl 6 (List.map c_T_api_Node a44) 0, .str a45]), (i1, .cells [.int .i64 a34, .str a35, .str a36, .sl 3 (List.map c_T_api_Attr a37) 0, .sl 6 (List.map c_T_api_Node a38) 0, .str a39])] [(i2, .cells [.int .i64 a40, .str a41, .str a42, .sl 3 (List.map c_T_api_Attr a43) 0, .sl 6 (List.map c_T_api_Node a44) 0, .str a45]), (i1, .cells [.int .i64 a34, .str a35, .str a36, .sl 3 (List.map c_T_api_Attr a37) 0, .sl 6 (List.map c_T_api_Node a38) 0, .str a39])] := (.keep (.keep .nil))
        exact ⟨(a34, a35, a36, a37, a38, a39, a40, a41, a42, a43, a44, a45), hF, (hwo.spec ok).1, WS.mk' (.cons (.refl _) (.cons (.refl _) .nil)) ok hwo⟩
  ·
    rintro ⟨a21, a22, a23, a24, a25, a26, a27, a28, a29, a30, a31, a32⟩ s' hF ⟨ok, hws⟩
    refine WP_ws hws ?_
    clear hws s'
    refine C_seq ?_
    refine C_reg (mdl []) ?_
    refine S_ldP (j := 1) ok rfl rfl rfl hi1 (p_agg (vs := c_T_api_Node (⟨a21, (⟨a22, a23⟩ : T_api_Name), a24, a25, a26⟩ : T_api_Node)) ty_ag_45 ty_sz_45 rfl (c_T_api_Node_eq (⟨a21, (⟨a22, a23⟩ : T_api_Name), a24, a25, a26⟩ : T_api_Node)).symm) ?_
    refine S_call (F_tree_Copy_ok _ hF fun x56 _ hF => ?_) (.cons (.refl _) (.nil))
    refine S_st (j := 0) (cs' := [.int .i64 x56.Kind, .str x56.Name.URI, .str x56.Name.Local, .sl 3 (List.map c_T_api_Attr x56.Attrs) 0, .sl 6 (List.map c_T_api_Node x56.Kids) 0, .str x56.Text]) ok rfl (congrArg D.agg (c_T_api_Node_eq x56)) rfl hi2 rfl ty_sz_45 rfl rfl (fun ok => ?_)
    refine S_a (v := .int _ _) rfl ?_
    refine S_nil ?_
    refine WP_ret ?_
    repeat (first | with_reducible refine Exit.sel_ret ?_ | with_reducible refine Exit.blk_ret ?_)
    refine C_ret (fn := Tryd.f37) rfl (.cell rfl (ld_ptr (j := 0) ok rfl hi2 (p_agg (vs := [.int .i64 x56.Kind, .str x56.Name.URI, .str x56.Name.Local, .sl 3 (List.map c_T_api_Attr x56.Attrs) 0, .sl 6 (List.map c_T_api_Node x56.Kids) 0, .str x56.Text]) ty_ag_45 ty_sz_45 rfl rfl)) (.tmp (v := .int .i64 (0 : Int)) rfl .nil)) ?_
    exact ⟨_, _, (.tupC (.cons (Wd.toE (.aggC (.cons (.refl _) (.cons (.refl _) (.cons (.refl _) (.cons (.refl _) (.cons (.refl _) (.cons (.refl _) (.nil)))))))) (c_T_api_Node_eq _)) (.cons (.refl _) (.nil)))), ok.wh, _, F_some hF, rfl, rfl⟩
theorem F_tree_At_ok {β : Type} {f : T_api_Node × Int → Option β} {G : β → Prop} {R : D → Heap → Prop} {p0 : T_api_Node} {p1 : List Int} (h : Heap) (hF : OptP ((F_tree_At p0 p1).bind f) G) (hk : ∀ r, F_tree_At p0 p1 = some r → OptP (f r) G → R (.tup [.agg (c_T_api_Node r.1), .int .i64 r.2]) h) : CallsA Tryd.prog 37 [.agg (c_T_api_Node p0), .sl 1 (List.map c_i64 p1) 0] h R := by
  obtain ⟨r0, hr, hF⟩ := F_bind hF
  refine (F_tree_At_w (G := fun r => r = r0) p0 p1 h ⟨r0, hr, rfl⟩).mono ?_
  rintro _ _ ⟨r, rfl, rfl, rfl⟩
  exact hk _ hr hF
theorem F_trail_texts_i : ∀ (N : Nat) (v : T_api_Node) (G : (List UInt8) → Prop) (h : Heap), OptP (iter F_trail_texts_b N v) G → CallsA Tryd.prog 38 [.agg (c_T_api_Node v)] h fun d h' => ∃ r, G r ∧ d = .str r ∧ h' = h := by
  intro N
  induction N with
  | zero => intro v G h hF; exact F_none hF
  | succ N ih0 =>
  intro p0 G h hF
  show CallsA Tryd.prog 38 [.agg (c_T_api_Node p0)] h fun d h' => ∃ r, G r ∧ d = .str r ∧ h' = h
  replace hF : OptP (F_trail_texts_b (iter F_trail_texts_b N) p0) G := hF
  refine CallsA.ret ?_
  refine C_body Tryd.func38 rfl en_38 Tryd.ntmps38 rfl (fun ok => ?_)
  rw [F_trail_texts_b] at hF
  refine C_seq ?_
  refine C_reg (mdl []) ?_
  refine S_box0 rfl rfl rfl rfl ?_
  refine S_a (v := .str ([] : List UInt8)) rfl ?_
  refine S_nil ?_
  refine C_seq ?_
  refine C_reg (mdl []) ?_
  refine S_a (v := .str ([] : List UInt8)) rfl ?_
  refine S_nil ?_
  refine C_join hF (fun (a10 : (List UInt8)) s' => OK h [] ∧ WS s' ⟨mkSl 26 [(3, .str a10)], Hp h []⟩) (fun J11 hF => ?_) ?_
  ·
    refine C_seq ?_
    refine C_reg (mdl []) ?_
    refine S_faQ rfl ty_fd_45_3 ty_sz_43 (by rw [c_T_api_Node_eq]; rfl) ?_
    refine S_ldQ rfl (p_one ty_ag_43 ty_sz_43 (congrArg (List.drop 4) (c_T_api_Node_eq p0))) ?_
    refine S_lenL rfl ty_sl_43 ?_
    refine S_m (v := .int _ _) rfl ?_
    refine S_nil ?_
    refine WP_block ?_
    refine C_loop (σ := (List UInt8) × Int) hF (fun (v : (List UInt8) × Int) s' => match v with | (a12, a13) => OK h [] ∧ WS s' ⟨mkSl 26 [(3, .str a12), (7, .sl 6 (List.map c_T_api_Node p0.Kids) 0), (8, .int .i64 (p0.Kids.length : Int)), (9, .int .i64 a13)], Hp h []⟩) ?_ ?_
    ·
      have hwo : WO [] [] := .nil
      exact ⟨(hwo.spec ok).1, WS.mk' (.cons (.refl _) (.cons (.refl _) (.cons (.refl _) (.cons (.refl _) .nil)))) ok hwo⟩
    ·
      rintro G14 hG15 rec16 ⟨a12, a13⟩ s' ih17 hF ⟨ok, hws⟩
      refine WP_ws hws ?_
      clear hws s'
      rw [F_trail_texts_l0] at hF
      refine C_seq ?_
      refine C_reg (mdl []) ?_
      refine S_bin rfl rfl (ev_lss ..) ?_
      refine S_nil ?_
      refine C_seq ?_
      refine C_if (b := (decide (a13 < (p0.Kids.length : Int)))) rfl hF (fun hb18 hF => ?_) (fun hb18 hF => ?_)
      ·
        refine WP_skip ?_
        refine C_seq ?_
        refine WP_block ?_
        refine C_seq ?_
        refine C_reg (mdl [(5, 1)]) ?_
        refine S_ix rfl rfl ty_sl_43 ty_sz_45 hF (fun x19 _ hF => ?_)
        refine S_ldQ rfl (p_agg (vs := c_T_api_Node x19) ty_ag_45 ty_sz_45 (by rw [c_T_api_Node_eq]; rfl) (by rw [c_T_api_Node_eq]; rfl)) ?_
        refine S_all1 ok rfl ty_zc_45 ?_
        intro i20 hi20 ok
        refine S_st (j := 0) (cs' := [.int .i64 x19.Kind, .str x19.Name.URI, .str x19.Name.Local, .sl 3 (List.map c_T_api_Attr x19.Attrs) 0, .sl 6 (List.map c_T_api_Node x19.Kids) 0, .str x19.Text]) ok rfl (congrArg D.agg (c_T_api_Node_eq x19)) rfl hi20 rfl ty_sz_45 rfl rfl (fun ok => ?_)
        refine S_nil ?_
        refine C_join hF (fun (a22 : (List UInt8)) s' => OK h [(i20, .cells [.int .i64 x19.Kind, .str x19.Name.URI, .str x19.Name.Local, .sl 3 (List.map c_T_api_Attr x19.Attrs) 0, .sl 6 (List.map c_T_api_Node x19.Kids) 0, .str x19.Text])] ∧ WS s' ⟨mkSl 26 [(3, .str a22), (5, .ptr i20 0), (7, .sl 6 (List.map c_T_api_Node p0.Kids) 0), (8, .int .i64 (p0.Kids.length : Int)), (9, .int .i64 a13)], Hp h [(i20, .cells [.int .i64 x19.Kind, .str x19.Name.URI, .str x19.Name.Local, .sl 3 (List.map c_T_api_Attr x19.Attrs) 0, .sl 6 (List.map c_T_api_Node x19.Kids) 0, .str x19.Text])]⟩) (fun J23 hF => ?_) ?_
        ·
          refine C_seq ?_
          refine C_reg (mdl []) ?_
          refine S_faP rfl ty_fd_45_0 ty_sz_3 ?_
          refine S_ldP (j := 0) ok rfl rfl rfl hi20 (p_one (v := .int .i64 x19.Kind) ty_ag_3 ty_sz_3 rfl) ?_
          refine S_bin rfl rfl (ev_eql ..) ?_
          refine S_nil ?_
          refine C_if (b := (x19.Kind == (3 : Int))) rfl hF (fun hb24 hF => ?_) (fun hb24 hF => ?_)
          ·
            refine C_reg (mdl []) ?_
            refine S_m (v := .str _) rfl ?_
            refine S_faP rfl ty_fd_45_4 ty_sz_9 ?_
            refine S_ldP (j := 0) ok rfl rfl rfl hi20 (p_one (v := .str x19.Text) ty_ag_9 ty_sz_9 rfl) ?_
            refine S_cat rfl rfl hF (fun hF => ?_)
            refine S_a (v := .str _) rfl ?_
            refine S_nil ?_
            have hwo : WO [(i20, .cells [.int .i64 x19.Kind, .str x19.Name.URI, .str x19.Name.Local, .sl 3 (List.map c_T_api_Attr x19.Attrs) 0, .sl 6 (List.map c_T_api_Node x19.Kids) 0, .str x19.Text])] [(i20, .cells [.int .i64 x19.Kind, .str x19.Name.URI, .str x19.Name.Local, .sl 3 (List.map c_T_api_Attr x19.Attrs) 0, .sl 6 (List.map c_T_api_Node x19.Kids) 0, .str x19.Text])] := (.keep .nil)
            exact ⟨(a12 ++ x19.Text), hF, (hwo.spec ok).1, WS.mk' (.cons (.refl _) (.cons (.refl _) (.cons (.refl _) (.cons (.refl _) (.cons (.refl _) .nil))))) ok hwo⟩
          ·
            refine WP_skip ?_
            have hwo : WO [(i20, .cells [.int .i64 x19.Kind, .str x19.Name.URI, .str x19.Name.Local, .sl 3 (List.map c_T_api_Attr x19.Attrs) 0, .sl 6 (List.map c_T_api_Node x19.Kids) 0, .str x19.Text])] [(i20, .cells [.int .i64 x19.Kind, .str x19.Name.URI, .str x19.Name.Local, .sl 3 (List.map c_T_api_Attr x19.Attrs) 0, .sl 6 (List.map c_T_api_Node x19.Kids) 0, .str x19.Text])] := (.keep .nil)
            exact ⟨a12, hF, (hwo.spec ok).1, WS.mk' (.cons (.refl _) (.cons (.refl _) (.cons (.refl _) (.cons (.refl _) (.cons (.refl _) .nil))))) ok hwo⟩
        ·
          rintro a22 s' hF ⟨ok, hws⟩
          refine WP_ws hws ?_
          clear hws s'
          refine C_reg (mdl []) ?_
          refine S_m (v := .str _) rfl ?_
          refine S_ldP (j := 0) ok rfl rfl rfl hi20 (p_agg (vs := c_T_api_Node x19) ty_ag_45 ty_sz_45 rfl (c_T_api_Node_eq x19).symm) ?_
          refine S_call (ok_of (enc := fun r => .str r) (fun G h hF => ih0 x19 G h hF) _ hF fun x25 _ hF => ?_) (.cons (.refl _) (.nil))
          refine S_cat rfl rfl hF (fun hF => ?_)
          refine S_a (v := .str _) rfl ?_
          refine S_nil ?_
          refine C_reg (mdl []) ?_
          refine S_bin rfl rfl (ev_add ..) ?_
          refine S_m (v := .int _ _) rfl ?_
          refine S_nil ?_
          refine ih17 ((a22 ++ x25), (IntKind.wrap .i64 (a13 + (1 : Int)))) _ hF ?_
          have hwo : WO [(i20, .cells [.int .i64 x19.Kind, .str x19.Name.URI, .str x19.Name.Local, .sl 3 (List.map c_T_api_Attr x19.Attrs) 0, .sl 6 (List.map c_T_api_Node x19.Kids) 0, .str x19.Text])] [] := (.drop .nil)
          exact ⟨(hwo.spec ok).1, WS.mk' (.cons (.refl _) (.cons (.refl _) (.cons (.refl _) (.cons (.refl _) .nil)))) ok hwo⟩
      ·
        refine WP_exit ?_
        simp only [Exit.sel, Exit.blk, if_true, if_false, reduceIte, Nat.reduceEqDiff, Nat.succ_ne_zero, Nat.zero_ne_one, Nat.one_ne_zero]
        replace hF := hG15 _ (F_some hF)
        have hwo : WO [] [] := .nil
        exact ⟨a12, hF, (hwo.spec ok).1, WS.mk' (.cons (.refl _) .nil) ok hwo⟩
  ·
    rintro a10 s' hF ⟨ok, hws⟩
    refine WP_ws hws ?_
    clear hws s'
    refine C_seq ?_
    refine C_reg (mdl []) ?_
    refine S_m (v := .str _) rfl ?_
    refine S_a (v := .str _) rfl ?_
    refine S_nil ?_
    refine WP_ret ?_
    repeat (first | with_reducible refine Exit.sel_ret ?_ | with_reducible refine Exit.blk_ret ?_)
    refine C_ret (fn := Tryd.f38) rfl (.tmp (v := .str a10) rfl .nil) ?_
    exact ⟨_, _, (.refl _), ok.wh, _, F_some hF, rfl, rfl⟩
theorem F_trail_texts_w (p0 : T_api_Node) {G : (List UInt8) → Prop} (h : Heap) (hF : OptP (F_trail_texts p0) G) : CallsA Tryd.prog 38 [.agg (c_T_api_Node p0)] h fun d h' => ∃ r, G r ∧ d = .str r ∧ h' = h := F_trail_texts_i FUEL p0 G h hF
theorem F_trail_texts_ok {β : Type} {f : (List UInt8) → Option β} {G : β → Prop} {R : D → Heap → Prop} {p0 : T_api_Node} (h : Heap) (hF : OptP ((F_trail_texts p0).bind f) G) (hk : ∀ r, F_trail_texts p0 = some r → OptP (f r) G → R (.str r) h) : CallsA Tryd.prog 38 [.agg (c_T_api_Node p0)] h R := by
  obtain ⟨r0, hr, hF⟩ := F_bind hF
  refine (F_trail_texts_w (G := fun r => r = r0) p0 h ⟨r0, hr, rfl⟩).mono ?_
  rintro _ _ ⟨r, rfl, rfl, rfl⟩
  exact hk _ hr hF
theorem F_trail_Value_w (p0 : T_api_Node) (p1 : T_trail_Trail) {G : (List UInt8) × Int → Prop} (h : Heap) (hF : OptP (F_trail_Value p0 p1) G) : CallsA Tryd.prog 18 [.agg (c_T_api_Node p0), .agg (c_T_trail_Trail p1)] h fun d h' => ∃ r, G r ∧ d = .tup [.str r.1, .int .i64 r.2] ∧ h' = h := by
  refine CallsA.ret ?_
  refine C_body Tryd.func18 rfl en_18 Tryd.ntmps18 rfl (fun ok => ?_)
  rw [F_trail_Value] at hF
  refine C_seq ?_
  refine C_reg (mdl []) ?_
  refine S_box0 rfl rfl rfl rfl ?_
  refine S_box0 rfl rfl rfl rfl ?_
  refine S_a (v := .str ([] : List UInt8)) rfl ?_
  refine S_a (v := .int _ _) rfl ?_
  refine S_nil ?_
  refine C_seq ?_
  refine C_reg (mdl [(6, 1)]) ?_
  refine S_ldQ rfl (p_agg (vs := c_T_api_Node p0) ty_ag_45 ty_sz_45 (by rw [c_T_api_Node_eq]; rfl) (by rw [c_T_api_Node_eq]; rfl)) ?_
  refine S_faQ rfl ty_fd_26_0 ty_sz_22 rfl ?_
  refine S_ldQ rfl (p_one ty_ag_22 ty_sz_22 rfl) ?_
  refine S_call (F_tree_At_ok _ hF fun x1 _ hF => ?_) (.cons (.refl _) (.cons (.refl _) (.nil)))
  refine S_m (v := .tup _) rfl ?_
  refine S_ext rfl rfl ?_
  refine S_ext rfl rfl ?_
  refine S_all1 ok rfl ty_zc_45 ?_
  intro i2 hi2 ok
  refine S_st (j := 0) (cs' := [.int .i64 x1.1.Kind, .str x1.1.Name.URI, .str x1.1.Name.Local, .sl 3 (List.map c_T_api_Attr x1.1.Attrs) 0, .sl 6 (List.map c_T_api_Node x1.1.Kids) 0, .str x1.1.Text]) ok rfl (congrArg D.agg (c_T_api_Node_eq x1.1)) rfl hi2 rfl ty_sz_45 rfl rfl (fun ok => ?_)
  refine S_a (v := .int _ _) rfl ?_
  refine S_nil ?_
  refine C_seq ?_
  refine C_seq ?_
  refine C_reg (mdl []) ?_
  refine S_m (v := .int _ _) rfl ?_
  refine S_bin rfl rfl (ev_neq ..) ?_
  refine S_nil ?_
  refine C_if (b := (x1.2 != (0 : Int))) rfl hF (fun hb3 hF => ?_) (fun hb3 hF => ?_)
  ·
    refine C_seq ?_
    refine C_reg (mdl []) ?_
    refine S_m (v := .int _ _) rfl ?_
    refine S_a (v := .str ([] : List UInt8)) rfl ?_
    refine S_a (v := .int _ _) rfl ?_
    refine S_nil ?_
    refine WP_ret ?_
    repeat (first | with_reducible refine Exit.sel_ret ?_ | with_reducible refine Exit.blk_ret ?_)
    refine C_ret (fn := Tryd.f18) rfl (.tmp (v := .str ([] : List UInt8)) rfl (.tmp (v := .int .i64 x1.2) rfl .nil)) ?_
    exact ⟨_, _, (.tupC (.cons (.refl _) (.cons (.refl _) (.nil)))), ok.wh, _, F_some hF, rfl, rfl⟩
  ·
    refine WP_skip ?_
    refine C_join hF (fun (_ : Unit) s' => OK h [(i2, .cells [.int .i64 x1.1.Kind, .str x1.1.Name.URI, .str x1.1.Name.Local, .sl 3 (List.map c_T_api_Attr x1.1.Attrs) 0, .sl 6 (List.map c_T_api_Node x1.1.Kids) 0, .str x1.1.Text])] ∧ WS s' ⟨mkSl 59 [(6, .ptr i2 0)], Hp h [(i2, .cells [.int .i64 x1.1.Kind, .str x1.1.Name.URI, .str x1.1.Name.Local, .sl 3 (List.map c_T_api_Attr x1.1.Attrs) 0, .sl 6 (List.map c_T_api_Node x1.1.Kids) 0, .str x1.1.Text])]⟩) (fun J17 hF => ?_) ?_
    ·
      refine C_seq ?_
      refine C_reg (mdl []) ?_
      refine S_faQ rfl ty_fd_26_1 ty_sz_4 rfl ?_
      refine S_ldQ rfl (p_one ty_ag_4 ty_sz_4 rfl) ?_
      refine S_nil ?_
      refine C_if (b := p1.Attr) rfl hF (fun hb18 hF => ?_) (fun hb18 hF => ?_)
      ·
        refine C_join hF (fun (_ : Unit) s' => OK h [] ∧ WS s' ⟨mkSl 59 [], Hp h []⟩) (fun J25 hF => ?_) ?_
        ·
          refine C_seq ?_
          refine C_reg (mdl []) ?_
          refine S_faP rfl ty_fd_45_2 ty_sz_42 ?_
          refine S_ldP (j := 0) ok rfl rfl rfl hi2 (p_one (v := .sl 3 (List.map c_T_api_Attr x1.1.Attrs) 0) ty_ag_42 ty_sz_42 rfl) ?_
          refine S_lenL rfl ty_sl_42 ?_
          refine S_m (v := .int _ _) rfl ?_
          refine S_nil ?_
          refine WP_block ?_
          refine C_loop (σ := Int) hF (fun (a26 : Int) s' => OK h [(i2, .cells [.int .i64 x1.1.Kind, .str x1.1.Name.URI, .str x1.1.Name.Local, .sl 3 (List.map c_T_api_Attr x1.1.Attrs) 0, .sl 6 (List.map c_T_api_Node x1.1.Kids) 0, .str x1.1.Text])] ∧ WS s' ⟨mkSl 59 [(3, .iptr (c_T_trail_Trail p1)), (6, .ptr i2 0), (23, .sl 3 (List.map c_T_api_Attr x1.1.Attrs) 0), (24, .int .i64 (x1.1.Attrs.length : Int)), (25, .int .i64 a26)], Hp h [(i2, .cells [.int .i64 x1.1.Kind, .str x1.1.Name.URI, .str x1.1.Name.Local, .sl 3 (List.map c_T_api_Attr x1.1.Attrs) 0, .sl 6 (List.map c_T_api_Node x1.1.Kids) 0, .str x1.1.Text])]⟩) ?_ ?_
          ·
            have hwo : WO [(i2, .cells [.int .i64 x1.1.Kind, .str x1.1.Name.URI, .str x1.1.Name.Local, .sl 3 (List.map c_T_api_Attr x1.1.Attrs) 0, .sl 6 (List.map c_T_api_Node x1.1.Kids) 0, .str x1.1.Text])] [(i2, .cells [.int .i64 x1.1.Kind, .str x1.1.Name.URI, .str x1.1.Name.Local, .sl 3 (List.map c_T_api_Attr x1.1.Attrs) 0, .sl 6 (List.map c_T_api_Node x1.1.Kids) 0, .str x1.1.Text])] := (.keep .nil)
            exact ⟨(hwo.spec ok).1, WS.mk' (.cons (.refl _) (.cons (.refl _) (.cons (.refl _) (.cons (.refl _) (.cons (.refl _) .nil))))) ok hwo⟩
          ·
            rintro G27 hG28 rec29 a26 s' ih30 hF ⟨ok, hws⟩
            refine WP_ws hws ?_
            clear hws s'
            rw [F_trail_Value_l0] at hF
            refine C_seq ?_
            refine C_reg (mdl []) ?_
            refine S_bin rfl rfl (ev_lss ..) ?_
            refine S_nil ?_
            refine C_seq ?_
            refine C_if (b := (decide (a26 < (x1.1.Attrs.length : Int)))) rfl hF (fun hb31 hF => ?_) (fun hb31 hF => ?_)
            ·
              refine WP_skip ?_
              refine C_seq ?_
              refine WP_block ?_
              refine C_seq ?_
              refine C_reg (mdl [(9, 1)]) ?_
              refine S_ix rfl rfl ty_sl_42 ty_sz_80 hF (fun x32 _ hF => ?_)
              refine S_ldQ rfl (p_agg (vs := c_T_api_Attr x32) ty_ag_80 ty_sz_80 rfl rfl) ?_
              refine S_all1 ok rfl ty_zc_80 ?_
              intro i33 hi33 ok
              refine S_st (j := 0) (cs' := [.str x32.Name.URI, .str x32.Name.Local, .str x32.Value]) ok rfl rfl rfl hi33 rfl ty_sz_80 rfl rfl (fun ok => ?_)
              refine S_nil ?_
              refine C_seq ?_
              refine C_reg (mdl []) ?_
              refine S_faP rfl ty_fd_45_0 ty_sz_3 ?_
              refine S_ldP (j := 1) ok rfl rfl rfl hi2 (p_one (v := .int .i64 x1.1.Kind) ty_ag_3 ty_sz_3 rfl) ?_
              refine S_bin rfl rfl (ev_eql ..) ?_
              refine S_m (v := .bool _) rfl ?_
              refine S_two (b := (x1.1.Kind == (2 : Int))) 6 38 (.bool ((x1.1.Kind == (2 : Int)) && ((x32.Name.URI == p1.Name.URI) && ((x32.Name.Local == p1.Name.Local) && true)))) (fun hb34 => ?_) (fun hb34 => ?_) ?_
              ·
                refine S_on rfl rfl hb34 ?_
                refine S_in ?_
                refine S_faP rfl ty_fd_80_0 ty_sz_24 ?_
                refine S_nil ?_
                refine S_on rfl rfl hb34 ?_
                refine S_in ?_
                refine S_ldP (j := 0) ok rfl rfl rfl hi33 (p_agg (vs := c_T_api_Name x32.Name) ty_ag_24 ty_sz_24 rfl rfl) ?_
                refine S_nil ?_
                refine S_on rfl rfl hb34 ?_
                refine S_in ?_
                refine S_faQ rfl ty_fd_26_2 ty_sz_24 rfl ?_
                refine S_nil ?_
                refine S_on rfl rfl hb34 ?_
                refine S_in ?_
                refine S_ldQ rfl (p_agg (vs := c_T_api_Name p1.Name) ty_ag_24 ty_sz_24 rfl rfl) ?_
                refine S_nil ?_
                refine S_on rfl rfl hb34 ?_
                refine S_in ?_
                refine S_bin rfl rfl (e_agg (b := ((x32.Name.URI == p1.Name.URI) && ((x32.Name.Local == p1.Name.Local) && true))) ty_qg_24 ty_sf_24 (by simp only [c_T_api_Name, ev_eqF_cons, ev_eqF_nil, ev_part, ty_sf_24, ty_qg_24, ty_ag_9, ty_sz_9, ty_st_9, ty_ag_9, ty_sz_9, ty_st_9, ev_eq_int, ev_eq_str, ev_eq_bool, ev_eq_agg, ev_eq_int2, ev_eq_str2, ev_eq_bool2, List.drop_zero, List.drop_succ_cons, List.length_cons, List.length_nil, List.take_succ_cons, List.take_zero, Option.isSome_some, if_true, Option.bind_some, Option.map_some, Nat.reduceAdd, Nat.reduceLeDiff])) ?_
                refine S_nil ?_
                refine S_pickT (v := .bool _) rfl hb34 rfl ?_
                refine S_nil ?_
                refine .hd (and_t hb34) ?_
                repeat (first | with_reducible exact WS.refl _ | refine WS.add ?_ rfl)
              ·
                refine S_off rfl rfl hb34 ?_
                refine S_offD ?_
                refine S_off rfl rfl hb34 ?_
                refine S_offD ?_
                refine S_off rfl rfl hb34 ?_
                refine S_offD ?_
                refine S_off rfl rfl hb34 ?_
                refine S_offD ?_
                refine S_off rfl rfl hb34 ?_
                refine S_offD ?_
                refine S_pickF (v := .bool _) rfl hb34 rfl ?_
                refine S_nil ?_
                refine .hd (and_f hb34) ?_
                repeat (first | with_reducible exact WS.refl _ | refine WS.add ?_ rfl)
              refine S_nil ?_
              refine C_if (b := ((x1.1.Kind == (2 : Int)) && ((x32.Name.URI == p1.Name.URI) && ((x32.Name.Local == p1.Name.Local) && true)))) rfl hF (fun hb35 hF => ?_) (fun hb35 hF => ?_)
              ·
                refine C_seq ?_
                refine C_reg (mdl []) ?_
                refine S_faP rfl ty_fd_80_1 ty_sz_9 ?_
                refine S_ldP (j := 0) ok rfl rfl rfl hi33 (p_one (v := .str x32.Value) ty_ag_9 ty_sz_9 rfl) ?_
                refine S_a (v := .str _) rfl ?_
                refine S_a (v := .int _ _) rfl ?_
                refine S_nil ?_
                refine WP_ret ?_
                replace hF := hG28 _ (F_some hF)
                repeat (first | with_reducible refine Exit.sel_ret ?_ | with_reducible refine Exit.blk_ret ?_)
                refine C_ret (fn := Tryd.f18) rfl (.tmp (v := .str x32.Value) rfl (.tmp (v := .int .i64 (0 : Int)) rfl .nil)) ?_
                exact ⟨_, _, (.tupC (.cons (.refl _) (.cons (.refl _) (.nil)))), ok.wh, _, F_some hF, rfl, rfl⟩
              ·
                refine WP_skip ?_
                refine C_reg (mdl []) ?_
                refine S_bin rfl rfl (ev_add ..) ?_
                refine S_m (v := .int _ _) rfl ?_
                refine S_nil ?_
                refine ih30 (IntKind.wrap .i64 (a26 + (1 : Int))) _ hF ?_
                have hwo : WO [(i33, .cells [.str x32.Name.URI, .str x32.Name.Local, .str x32.Value]), (i2, .cells [.int .i64 x1.1.Kind, .str x1.1.Name.URI, .str x1.1.Name.Local, .sl 3 (List.map c_T_api_Attr x1.1.Attrs) 0, .sl 6 (List.map c_T_api_Node x1.1.Kids) 0, .str x1.1.Text])] [(i2, .cells [.int .i64 x1.1.Kind, .str x1.1.Name.URI, .str x1.1.Name.Local, .sl 3 (List.map c_T_api_Attr x1.1.Attrs) 0, .sl 6 (List.map c_T_api_Node x1.1.Kids) 0, .str x1.1.Text])] := (.drop (.keep .nil))
                exact ⟨(hwo.spec ok).1, WS.mk' (.cons (.refl _) (.cons (.refl _) (.cons (.refl _) (.cons (.refl _) (.cons (.refl _) .nil))))) ok hwo⟩
            ·
              refine WP_exit ?_
              simp only [Exit.sel, Exit.blk, if_true, if_false, reduceIte, Nat.reduceEqDiff, Nat.succ_ne_zero, Nat.zero_ne_one, Nat.one_ne_zero]
              replace hF := hG28 _ (F_some hF)
              have hwo : WO [(i2, .cells [.int .i64 x1.1.Kind, .str x1.1.Name.URI, .str x1.1.Name.Local, .sl 3 (List.map c_T_api_Attr x1.1.Attrs) 0, .sl 6 (List.map c_T_api_Node x1.1.Kids) 0, .str x1.1.Text])] [] := (.drop .nil)
              exact ⟨(), hF, (hwo.spec ok).1, WS.mk' .nil ok hwo⟩
        ·
          rintro ⟨⟩ s' hF ⟨ok, hws⟩
          refine WP_ws hws ?_
          clear hws s'
          refine C_seq ?_
          refine C_reg (mdl []) ?_
          refine S_a (v := .str ([] : List UInt8)) rfl ?_
          refine S_a (v := .int _ _) rfl ?_
          refine S_nil ?_
          refine WP_ret ?_
          repeat (first | with_reducible refine Exit.sel_ret ?_ | with_reducible refine Exit.blk_ret ?_)
          refine C_ret (fn := Tryd.f18) rfl (.tmp (v := .str ([] : List UInt8)) rfl (.tmp (v := .int .i64 (7 : Int)) rfl .nil)) ?_
          exact ⟨_, _, (.tupC (.cons (.refl _) (.cons (.refl _) (.nil)))), ok.wh, _, F_some hF, rfl, rfl⟩
      ·
        refine WP_skip ?_
        have hwo : WO [(i2, .cells [.int .i64 x1.1.Kind, .str x1.1.Name.URI, .str x1.1.Name.Local, .sl 3 (List.map c_T_api_Attr x1.1.Attrs) 0, .sl 6 (List.map c_T_api_Node x1.1.Kids) 0, .str x1.1.Text])] [(i2, .cells [.int .i64 x1.1.Kind, .str x1.1.Name.URI, .str x1.1.Name.Local, .sl 3 (List.map c_T_api_Attr x1.1.Attrs) 0, .sl 6 (List.map c_T_api_Node x1.1.Kids) 0, .str x1.1.Text])] := (.keep .nil)
        exact ⟨(), hF, (hwo.spec ok).1, WS.mk' (.cons (.refl _) .nil) ok hwo⟩
    ·
      rintro ⟨⟩ s' hF ⟨ok, hws⟩
      refine WP_ws hws ?_
      clear hws s'
      refine C_seq ?_
      refine C_seq ?_
      refine C_reg (mdl []) ?_
      refine S_faP rfl ty_fd_45_0 ty_sz_3 ?_
      refine S_ldP (j := 0) ok rfl rfl rfl hi2 (p_one (v := .int .i64 x1.1.Kind) ty_ag_3 ty_sz_3 rfl) ?_
      refine S_bin rfl rfl (ev_eql ..) ?_
      refine S_m (v := .bool _) rfl ?_
      refine S_two (b := (x1.1.Kind == (3 : Int))) 4 49 (.bool ((x1.1.Kind == (3 : Int)) || (x1.1.Kind == (4 : Int)))) (fun hb36 => ?_) (fun hb36 => ?_) ?_
      ·
        refine S_off rfl rfl hb36 ?_
        refine S_offD ?_
        refine S_off rfl rfl hb36 ?_
        refine S_offD ?_
        refine S_off rfl rfl hb36 ?_
        refine S_offD ?_
        refine S_pickT (v := .bool _) rfl hb36 rfl ?_
        refine S_nil ?_
        refine .hd (or_t hb36) ?_
        repeat (first | with_reducible exact WS.refl _ | refine WS.add ?_ rfl)
      ·
        refine S_on rfl rfl hb36 ?_
        refine S_in ?_
        refine S_faP rfl ty_fd_45_0 ty_sz_3 ?_
        refine S_nil ?_
        refine S_on rfl rfl hb36 ?_
        refine S_in ?_
        refine S_ldP (j := 0) ok rfl rfl rfl hi2 (p_one (v := .int .i64 x1.1.Kind) ty_ag_3 ty_sz_3 rfl) ?_
        refine S_nil ?_
        refine S_on rfl rfl hb36 ?_
        refine S_in ?_
        refine S_bin rfl rfl (ev_eql ..) ?_
        refine S_nil ?_
        refine S_pickF (v := .bool _) rfl hb36 rfl ?_
        refine S_nil ?_
        refine .hd (or_f hb36) ?_
        repeat (first | with_reducible exact WS.refl _ | refine WS.add ?_ rfl)
      refine S_m (v := .bool _) rfl ?_
      refine S_two (b := ((x1.1.Kind == (3 : Int)) || (x1.1.Kind == (4 : Int)))) 4 54 (.bool (((x1.1.Kind == (3 : Int)) || (x1.1.Kind == (4 : Int))) || (x1.1.Kind == (5 : Int)))) (fun hb37 => ?_) (fun hb37 => ?_) ?_
      ·
        refine S_off rfl rfl hb37 ?_
        refine S_offD ?_
        refine S_off rfl rfl hb37 ?_
        refine S_offD ?_
        refine S_off rfl rfl hb37 ?_
        refine S_offD ?_
        refine S_pickT (v := .bool _) rfl hb37 rfl ?_
        refine S_nil ?_
        refine .hd (or_t hb37) ?_
        repeat (first | with_reducible exact WS.refl _ | refine WS.add ?_ rfl)
      ·
        refine S_on rfl rfl hb37 ?_
        refine S_in ?_
        refine S_faP rfl ty_fd_45_0 ty_sz_3 ?_
        refine S_nil ?_
        refine S_on rfl rfl hb37 ?_
        refine S_in ?_
        refine S_ldP (j := 0) ok rfl rfl rfl hi2 (p_one (v := .int .i64 x1.1.Kind) ty_ag_3 ty_sz_3 rfl) ?_
        refine S_nil ?_
        refine S_on rfl rfl hb37 ?_
        refine S_in ?_
        refine S_bin rfl rfl (ev_eql ..) ?_
        refine S_nil ?_
        refine S_pickF (v := .bool _) rfl hb37 rfl ?_
        refine S_nil ?_
        refine .hd (or_f hb37) ?_
        repeat (first | with_reducible exact WS.refl _ | refine WS.add ?_ rfl)
      refine S_nil ?_
      refine C_if (b := (((x1.1.Kind == (3 : Int)) || (x1.1.Kind == (4 : Int))) || (x1.1.Kind == (5 : Int)))) rfl hF (fun hb38 hF => ?_) (fun hb38 hF => ?_)
      ·
        refine C_seq ?_
        refine C_reg (mdl []) ?_
        refine S_faP rfl ty_fd_45_4 ty_sz_9 ?_
        refine S_ldP (j := 0) ok rfl rfl rfl hi2 (p_one (v := .str x1.1.Text) ty_ag_9 ty_sz_9 rfl) ?_
        refine S_a (v := .str _) rfl ?_
        refine S_a (v := .int _ _) rfl ?_
        refine S_nil ?_
        refine WP_ret ?_
        repeat (first | with_reducible refine Exit.sel_ret ?_ | with_reducible refine Exit.blk_ret ?_)
        refine C_ret (fn := Tryd.f18) rfl (.tmp (v := .str x1.1.Text) rfl (.tmp (v := .int .i64 (0 : Int)) rfl .nil)) ?_
        exact ⟨_, _, (.tupC (.cons (.refl _) (.cons (.refl _) (.nil)))), ok.wh, _, F_some hF, rfl, rfl⟩
      ·
        refine WP_skip ?_
        refine C_seq ?_
        refine C_reg (mdl []) ?_
        refine S_ldP (j := 0) ok rfl rfl rfl hi2 (p_agg (vs := c_T_api_Node x1.1) ty_ag_45 ty_sz_45 rfl (c_T_api_Node_eq x1.1).symm) ?_
        refine S_call (F_trail_texts_ok _ hF fun x39 _ hF => ?_) (.cons (.refl _) (.nil))
        refine S_a (v := .str _) rfl ?_
        refine S_a (v := .int _ _) rfl ?_
        refine S_nil ?_
        refine WP_ret ?_
        repeat (first | with_reducible refine Exit.sel_ret ?_ | with_reducible refine Exit.blk_ret ?_)
        refine C_ret (fn := Tryd.f18) rfl (.tmp (v := .str x39) rfl (.tmp (v := .int .i64 (0 : Int)) rfl .nil)) ?_
        exact ⟨_, _, (.tupC (.cons (.refl _) (.cons (.refl _) (.nil)))), ok.wh, _, F_some hF, rfl, rfl⟩
theorem F_trail_Value_ok {β : Type} {f : (List UInt8) × Int → Option β} {G : β → Prop} {R : D → Heap → Prop} {p0 : T_api_Node} {p1 : T_trail_Trail} (h : Heap) (hF : OptP ((F_trail_Value p0 p1).bind f) G) (hk : ∀ r, F_trail_Value p0 p1 = some r → OptP (f r) G → R (.tup [.str r.1, .int .i64 r.2]) h) : CallsA Tryd.prog 18 [.agg (c_T_api_Node p0), .agg (c_T_trail_Trail p1)] h R := by
  obtain ⟨r0, hr, hF⟩ := F_bind hF
  refine (F_trail_Value_w (G := fun r => r = r0) p0 p1 h ⟨r0, hr, rfl⟩).mono ?_
  rintro _ _ ⟨r, rfl, rfl, rfl⟩
  exact hk _ hr hF
theorem F_lecternref05_At_w (p0 : T_api_Node) (p1 : List Int) {G : T_api_Node × Bool → Prop} (h : Heap) (hF : OptP (F_lecternref05_At p0 p1) G) : CallsA Tryd.prog 20 [.agg (c_T_api_Node p0), .sl 1 (List.map c_i64 p1) 0] h fun d h' => ∃ r, G r ∧ d = .tup [.agg (c_T_api_Node r.1), .bool r.2] ∧ h' = h := by
  refine CallsA.ret ?_
  refine C_body Tryd.func20 rfl en_20 Tryd.ntmps20 rfl (fun ok => ?_)
  rw [F_lecternref05_At] at hF
  refine C_seq ?_
  refine C_reg (mdl [(2, 1), (4, 1)]) ?_
  refine S_box1 (cs := [.int .i64 p0.Kind, .str p0.Name.URI, .str p0.Name.Local, .sl 3 (List.map c_T_api_Attr p0.Attrs) 0, .sl 6 (List.map c_T_api_Node p0.Kids) 0, .str p0.Text]) ok rfl rfl rfl (c_T_api_Node_eq p0) ?_
  intro i1 hi1 ok
  refine S_all1 ok rfl ty_zc_45 ?_
  intro i2 hi2 ok
  refine S_a (v := .bool _) rfl ?_
  refine S_nil ?_
  refine C_join hF (fun (v : Int × (List UInt8) × (List UInt8) × (List T_api_Attr) × (List T_api_Node) × (List UInt8) × Int × (List UInt8) × (List UInt8) × (List T_api_Attr) × (List T_api_Node) × (List UInt8)) s' => match v with | (a21, a22, a23, a24, a25, a26, a27, a28, a29, a30, a31, a32) => OK h [(i2, .cells [.int .i64 a27, .str a28, .str a29, .sl 3 (List.map c_T_api_Attr a30) 0, .sl 6 (List.map c_T_api_Node a31) 0, .str a32]), (i1, .cells [.int .i64 a21, .str a22, .str a23, .sl 3 (List.map c_T_api_Attr a24) 0, .sl 6 (List.map c_T_api_Node a25) 0, .str a26])] ∧ WS s' ⟨mkSl 31 [(2, .ptr i1 0), (4, .ptr i2 0)], Hp h [(i2, .cells [.int .i64 a27, .str a28, .str a29, .sl 3 (List.map c_T_api_Attr a30) 0, .sl 6 (List.map c_T_api_Node a31) 0, .str a32]), (i1, .cells [.int .i64 a21, .str a22, .str a23, .sl 3 (List.map c_T_api_Attr a24) 0, .sl 6 (List.map c_T_api_Node a25) 0, .str a26])]⟩) (fun J33 hF => ?_) ?_
  ·
    refine C_seq ?_
    refine C_reg (mdl []) ?_
    refine S_m (v := .sl _ _ _) rfl ?_
    refine S_lenL rfl ty_sl_22 ?_
    refine S_m (v := .int _ _) rfl ?_
    refine S_nil ?_
    refine WP_block ?_
    refine C_loop (σ := Int × (List UInt8) × (List UInt8) × (List T_api_Attr) × (List T_api_Node) × (List UInt8) × Int × (List UInt8) × (List UInt8) × (List T_api_Attr) × (List T_api_Node) × (List UInt8) × Int) hF (fun (v : Int × (List UInt8) × (List UInt8) × (List T_api_Attr) × (List T_api_Node) × (List UInt8) × Int × (List UInt8) × (List UInt8) × (List T_api_Attr) × (List T_api_Node) × (List UInt8) × Int) s' => match v with | (a34, a35, a36, a37, a38, a39, a40, a41, a42, a43, a44, a45, a46) => OK h [(i2, .cells [.int .i64 a40, .str a41, .str a42, .sl 3 (List.map c_T_api_Attr a43) 0, .sl 6 (List.map c_T_api_Node a44) 0, .str a45]), (i1, .cells [.int .i64 a34, .str a35, .str a36, .sl 3 (List.map c_T_api_Attr a37) 0, .sl 6 (List.map c_T_api_Node a38) 0, .str a39])] ∧ WS s' ⟨mkSl 31 [(2, .ptr i1 0), (4, .ptr i2 0), (8, .sl 1 (List.map c_i64 p1) 0), (9, .int .i64 (p1.length : Int)), (10, .int .i64 a46)], Hp h [(i2, .cells [.int .i64 a40, .str a41, .str a42, .sl 3 (List.map c_T_api_Attr a43) 0, .sl 6 (List.map c_T_api_Node a44) 0, .str a45]), (i1, .cells [.int .i64 a34, .str a35, .str a36, .sl 3 (List.map c_T_api_Attr a37) 0, .sl 6 (List.map c_T_api_Node a38) 0, .str a39])]⟩) ?_ ?_
    ·
      have hwo : WO [(i2, .cells [.int .i64 (0 : Int), .str ([] : List UInt8), .str ([] : List UInt8), .snil, .snil, .str ([] : List UInt8)]), (i1, .cells [.int .i64 p0.Kind, .str p0.Name.URI, .str p0.Name.Local, .sl 3 (List.map c_T_api_Attr p0.Attrs) 0, .sl 6 (List.map c_T_api_Node p0.Kids) 0, .str p0.Text])] [(i2, .cells [.int .i64 (0 : Int), .str ([] : List UInt8), .str ([] : List UInt8), .sl 3 (List.map c_T_api_Attr ([] : List T_api_Attr)) 0, .sl 6 (List.map c_T_api_Node ([] : List T_api_Node)) 0, .str ([] : List UInt8)]), (i1, .cells [.int .i64 p0.Kind, .str p0.Name.URI, .str p0.Name.Local, .sl 3 (List.map c_T_api_Attr p0.Attrs) 0, .sl 6 (List.map c_T_api_Node p0.Kids) 0, .str p0.Text])] := (.weak (.cons (.refl _) (.cons (.refl _) (.cons (.refl _) (.cons (.nil _) (.cons (.nil _) (.cons (.refl _) (.nil))))))) (.keep .nil))
      exact ⟨(hwo.spec ok).1, WS.mk' (.cons (.refl _) (.cons (.refl _) (.cons (.refl _) (.cons (.refl _) (.cons (.refl _) .nil))))) ok hwo⟩
    ·
      rintro G47 hG48 rec49 ⟨a34, a35, a36, a37, a38, a39, a40, a41, a42, a43, a44, a45, a46⟩ s' ih50 hF ⟨ok, hws⟩
      refine WP_ws hws ?_
      clear hws s'
      rw [F_lecternref05_At_l0] at hF
      refine C_seq ?_
      refine C_reg (mdl []) ?_
      refine S_bin rfl rfl (ev_lss ..) ?_
      refine S_nil ?_
      refine C_seq ?_
      refine C_if (b := (decide (a46 < (p1.length : Int)))) rfl hF (fun hb51 hF => ?_) (fun hb51 hF => ?_)
      ·
        refine WP_skip ?_
        refine C_seq ?_
        refine WP_block ?_
        refine C_seq ?_
        refine C_reg (mdl []) ?_
        refine S_ix rfl rfl ty_sl_22 ty_sz_3 hF (fun x52 _ hF => ?_)
        refine S_ldQ rfl (p_one ty_ag_3 ty_sz_3 rfl) ?_
        refine S_a (v := .int _ _) rfl ?_
        refine S_nil ?_
        refine C_seq ?_
        refine C_seq ?_
        refine C_reg (mdl []) ?_
        refine S_m (v := .int _ _) rfl ?_
        refine S_bin rfl rfl (ev_lss ..) ?_
        refine S_m (v := .bool _) rfl ?_
        refine S_two (b := (decide (x52 < (0 : Int)))) 6 22 (.bool ((decide (x52 < (0 : Int))) || (decide ((a38.length : Int) ≤ x52)))) (fun hb53 => ?_) (fun hb53 => ?_) ?_
        ·
          refine S_off rfl rfl hb53 ?_
          refine S_offD ?_
          refine S_off rfl rfl hb53 ?_
          refine S_offD ?_
          refine S_off rfl rfl hb53 ?_
          refine S_offD ?_
          refine S_off rfl rfl hb53 ?_
          refine S_offD ?_
          refine S_off rfl rfl hb53 ?_
          refine S_offD ?_
          refine S_pickT (v := .bool _) rfl hb53 rfl ?_
          refine S_nil ?_
          refine .hd (or_t hb53) ?_
          repeat (first | with_reducible exact WS.refl _ | refine WS.add ?_ rfl)
        ·
          refine S_on rfl rfl hb53 ?_
          refine S_in ?_
          refine S_m (v := .int _ _) rfl ?_
          refine S_nil ?_
          refine S_on rfl rfl hb53 ?_
          refine S_in ?_
          refine S_faP rfl ty_fd_45_3 ty_sz_43 ?_
          refine S_nil ?_
          refine S_on rfl rfl hb53 ?_
          refine S_in ?_
          refine S_ldP (j := 1) ok rfl rfl rfl hi1 (p_one (v := .sl 6 (List.map c_T_api_Node a38) 0) ty_ag_43 ty_sz_43 rfl) ?_
          refine S_nil ?_
          refine S_on rfl rfl hb53 ?_
          refine S_in ?_
          refine S_lenL rfl ty_sl_43 ?_
          refine S_nil ?_
          refine S_on rfl rfl hb53 ?_
          refine S_in ?_
          refine S_bin rfl rfl (ev_geq ..) ?_
          refine S_nil ?_
          refine S_pickF (v := .bool _) rfl hb53 rfl ?_
          refine S_nil ?_
          refine .hd (or_f hb53) ?_
          repeat (first | with_reducible exact WS.refl _ | refine WS.add ?_ rfl)
        refine S_nil ?_
        refine C_if (b := ((decide (x52 < (0 : Int))) || (decide ((a38.length : Int) ≤ x52)))) rfl hF (fun hb54 hF => ?_) (fun hb54 hF => ?_)
        ·
          refine C_seq ?_
          refine C_reg (mdl []) ?_
          refine S_bld (v := .agg [.int .i64 (0 : Int), .str ([] : List UInt8), .str ([] : List UInt8), .snil, .snil, .str ([] : List UInt8)]) (b_st ty_zc_45 ty_pl_45 rfl) ?_
          refine S_one 23 (v := .agg (c_T_api_Node (⟨(0 : Int), (⟨([] : List UInt8), ([] : List UInt8)⟩ : T_api_Name), ([] : List T_api_Attr), ([] : List T_api_Node), ([] : List UInt8)⟩ : T_api_Node))) (Wd.toE (.aggC (.cons (.refl _) (.cons (.refl _) (.cons (.refl _) (.cons (.nil _) (.cons (.nil _) (.cons (.refl _) (.nil)))))))) (c_T_api_Node_eq _)) ?_
          refine S_st (j := 0) (cs' := [.int .i64 (⟨(0 : Int), (⟨([] : List UInt8), ([] : List UInt8)⟩ : T_api_Name), ([] : List T_api_Attr), ([] : List T_api_Node), ([] : List UInt8)⟩ : T_api_Node).Kind, .str (⟨(0 : Int), (⟨([] : List UInt8), ([] : List UInt8)⟩ : T_api_Name), ([] : List T_api_Attr), ([] : List T_api_Node), ([] : List UInt8)⟩ : T_api_Node).Name.URI, .str (⟨(0 : Int), (⟨([] : List UInt8), ([] : List UInt8)⟩ : T_api_Name), ([] : List T_api_Attr), ([] : List T_api_Node), ([] : List UInt8)⟩ : T_api_Node).Name.Local, .sl 3 (List.map c_T_api_Attr (⟨(0 : Int), (⟨([] : List UInt8), ([] : List UInt8)⟩ : T_api_Name), ([] : List T_api_Attr), ([] : List T_api_Node), ([] : List UInt8)⟩ : T_api_Node).Attrs) 0, .sl 6 (List.map c_T_api_Node (⟨(0 : Int), (⟨([] : List UInt8), ([] : List UInt8)⟩ : T_api_Name), ([] : List T_api_Attr), ([] : List T_api_Node), ([] : List UInt8)⟩ : T_api_Node).Kids) 0, .str (⟨(0 : Int), (⟨([] : List UInt8), ([] : List UInt8)⟩ : T_api_Name), ([] : List T_api_Attr), ([] : List T_api_Node), ([] : List UInt8)⟩ : T_api_Node).Text]) ok rfl (congrArg D.agg (c_T_api_Node_eq (⟨(0 : Int), (⟨([] : List UInt8), ([] : List UInt8)⟩ : T_api_Name), ([] : List T_api_Attr), ([] : List T_api_Node), ([] : List UInt8)⟩ : T_api_Node))) rfl hi2 rfl ty_sz_45 rfl rfl (fun ok => ?_)
          refine S_a (v := .bool _) rfl ?_
          refine S_nil ?_
          refine WP_ret ?_
          replace hF := hG48 _ (F_some hF)
          repeat (first | with_reducible refine Exit.sel_ret ?_ | with_reducible refine Exit.blk_ret ?_)
          refine C_ret (fn := Tryd.f20) rfl (.cell rfl (ld_ptr (j := 0) ok rfl hi2 (p_agg (vs := [.int .i64 (⟨(0 : Int), (⟨([] : List UInt8), ([] : List UInt8)⟩ : T_api_Name), ([] : List T_api_Attr), ([] : List T_api_Node), ([] : List UInt8)⟩ : T_api_Node).Kind, .str (⟨(0 : Int), (⟨([] : List UInt8), ([] : List UInt8)⟩ : T_api_Name), ([] : List T_api_Attr), ([] : List T_api_Node), ([] : List UInt8)⟩ : T_api_Node).Name.URI, .str (⟨(0 : Int), (⟨([] : List UInt8), ([] : List UInt8)⟩ : T_api_Name), ([] : List T_api_Attr), ([] : List T_api_Node), ([] : List UInt8)⟩ : T_api_Node).Name.Local, .sl 3 (List.map c_T_api_Attr (⟨(0 : Int), (⟨([] : List UInt8), ([] : List UInt8)⟩ : T_api_Name), ([] : List T_api_Attr), ([] : List T_api_Node), ([] : List UInt8)⟩ : T_api_Node).Attrs) 0, .sl 6 (List.map c_T_api_Node (⟨(0 : Int), (⟨([] : List UInt8), ([] : List UInt8)⟩ : T_api_Name), ([] : List T_api_Attr), ([] : List T_api_Node), ([] : List UInt8)⟩ : T_api_Node).Kids) 0, .str (⟨(0 : Int), (⟨([] : List UInt8), ([] : List UInt8)⟩ : T_api_Name), ([] : List T_api_Attr), ([] : List T_api_Node), ([] : List UInt8)⟩ : T_api_Node).Text]) ty_ag_45 ty_sz_45 rfl rfl)) (.tmp (v := .bool false) rfl .nil)) ?_
          exact ⟨_, _, (.tupC (.cons (Wd.toE (.aggC (.cons (.refl _) (.cons (.refl _) (.cons (.refl _) (.cons (.refl _) (.cons (.refl _) (.cons (.refl _) (.nil)))))))) (c_T_api_Node_eq _)) (.cons (.refl _) (.nil)))), ok.wh, _, F_some hF, rfl, rfl⟩
        ·
          refine WP_skip ?_
          refine C_reg (mdl []) ?_
          refine S_faP rfl ty_fd_45_3 ty_sz_43 ?_
          refine S_ldP (j := 1) ok rfl rfl rfl hi1 (p_one (v := .sl 6 (List.map c_T_api_Node a38) 0) ty_ag_43 ty_sz_43 rfl) ?_
          refine S_m (v := .int _ _) rfl ?_
          refine S_ix rfl rfl ty_sl_43 ty_sz_45 hF (fun x55 _ hF => ?_)
          refine S_ldQ rfl (p_agg (vs := c_T_api_Node x55) ty_ag_45 ty_sz_45 (by rw [c_T_api_Node_eq]; rfl) (by rw [c_T_api_Node_eq]; rfl)) ?_
          refine S_st (j := 1) (cs' := [.int .i64 x55.Kind, .str x55.Name.URI, .str x55.Name.Local, .sl 3 (List.map c_T_api_Attr x55.Attrs) 0, .sl 6 (List.map c_T_api_Node x55.Kids) 0, .str x55.Text]) ok rfl (congrArg D.agg (c_T_api_Node_eq x55)) rfl hi1 rfl ty_sz_45 rfl rfl (fun ok => ?_)
          refine S_nil ?_
          refine C_reg (mdl []) ?_
          refine S_bin rfl rfl (ev_add ..) ?_
          refine S_m (v := .int _ _) rfl ?_
          refine S_nil ?_
          refine ih50 (x55.Kind, x55.Name.URI, x55.Name.Local, x55.Attrs, x55.Kids, x55.Text, a40, a41, a42, a43, a44, a45, (IntKind.wrap .i64 (a46 + (1 : Int)))) _ hF ?_
          have hwo : WO [(i2, .cells [.int .i64 a40, .str a41, .str a42, .sl 3 (List.map c_T_api_Attr a43) 0, .sl 6 (List.map c_T_api_Node a44) 0, .str a45]), (i1, .cells [.int .i64 x55.Kind, .str x55.Name.URI, .str x55.Name.Local, .sl 3 (List.map c_T_api_Attr x55.Attrs) 0, .sl 6 (List.map c_T_api_Node x55.Kids) 0, .str x55.Text])] [(i2, .cells [.int .i64 a40, .str a41, .str a42, .sl 3 (List.map c_T_api_Attr a43) 0, .sl 6 (List.map c_T_api_Node a44) 0, .str a45]), (i1, .cells [.int .i64 x55.Kind, .str x55.Name.URI, .str x55.Name.Local, .sl 3 (List.map c_T_api_Attr x55.Attrs) 0, .sl 6 (List.map c_T_api_Node x55.Kids) 0, .str x55.Text])] := (.keep (.keep .nil))
          exact ⟨(hwo.spec ok).1, WS.mk' (.cons (.refl _) (.cons (.refl _) (.cons (.refl _) (.cons (.refl _) (.cons (.refl _) .nil))))) ok hwo⟩
      ·
        refine WP_exit ?_
        simp only [Exit.sel, Exit.blk, if_true, if_false, reduceIte, Nat.reduceEqDiff, Nat.succ_ne_zero, Nat.zero_ne_one, Nat.one_ne_zero]
        replace hF := hG48 _ (F_some hF)
        have hwo : WO [(i2, .cells [.int .i64 a40, .str a41, .str a42, .sl 3 (List.map c_T_api_Attr a43) 0, .sl 6 (List.map c_T_api_Node a44) 0, .str a45]), (i1, .cells [.int .i64 a34, .str a35, .str a36, .sl 3 (List.map c_T_api_Attr a37) 0, .sl 6 (List.map c_T_api_Node a38) 0, .str a39])] [(i2, .cells [.int .i64 a40, .str a41, .str a42, .sl 3 (List.map c_T_api_Attr a43) 0, .sl 6 (List.map c_T_api_Node a44) 0, .str a45]), (i1, .cells [.int .i64 a34, .str a35, .str a36, .sl 3 (List.map c_T_api_Attr a37) 0, .sl 6 (List.map c_T_api_Node a38) 0, .str a39])] := (.keep (.keep .nil))
        exact ⟨(a34, a35, a36, a37, a38, a39, a40, a41, a42, a43, a44, a45), hF, (hwo.spec ok).1, WS.mk' (.cons (.refl _) (.cons (.refl _) .nil)) ok hwo⟩
  ·
    rintro ⟨a21, a22, a23, a24, a25, a26, a27, a28, a29, a30, a31, a32⟩ s' hF ⟨ok, hws⟩
    refine WP_ws hws ?_
    clear hws s'
    refine C_seq ?_
    refine C_reg (mdl []) ?_
    refine S_ldP (j := 1) ok rfl rfl rfl hi1 (p_agg (vs := c_T_api_Node (⟨a21, (⟨a22, a23⟩ : T_api_Name), a24, a25, a26⟩ : T_api_Node)) ty_ag_45 ty_sz_45 rfl (c_T_api_Node_eq (⟨a21, (⟨a22, a23⟩ : T_api_Name), a24, a25, a26⟩ : T_api_Node)).symm) ?_
    refine S_st (j := 0) (cs' := [.int .i64 (⟨a21, (⟨a22, a23⟩ : T_api_Name), a24, a25, a26⟩ : T_api_Node).Kind, .str (⟨a21, (⟨a22, a23⟩ : T_api_Name), a24, a25, a26⟩ : T_api_Node).Name.URI, .str (⟨a21, (⟨a22, a23⟩ : T_api_Name), a24, a25, a26⟩ : T_api_Node).Name.Local, .sl 3 (List.map c_T_api_Attr (⟨a21, (⟨a22, a23⟩ : T_api_Name), a24, a25, a26⟩ : T_api_Node).Attrs) 0, .sl 6 (List.map c_T_api_Node (⟨a21, (⟨a22, a23⟩ : T_api_Name), a24, a25, a26⟩ : T_api_Node).Kids) 0, .str (⟨a21, (⟨a22, a23⟩ : T_api_Name), a24, a25, a26⟩ : T_api_Node).Text]) ok rfl (congrArg D.agg (c_T_api_Node_eq (⟨a21, (⟨a22, a23⟩ : T_api_Name), a24, a25, a26⟩ : T_api_Node))) rfl hi2 rfl ty_sz_45 rfl rfl (fun ok => ?_)
    refine S_a (v := .bool _) rfl ?_
    refine S_nil ?_
    refine WP_ret ?_
    repeat (first | with_reducible refine Exit.sel_ret ?_ | with_reducible refine Exit.blk_ret ?_)
    refine C_ret (fn := Tryd.f20) rfl (.cell rfl (ld_ptr (j := 0) ok rfl hi2 (p_agg (vs := [.int .i64 (⟨a21, (⟨a22, a23⟩ : T_api_Name), a24, a25, a26⟩ : T_api_Node).Kind, .str (⟨a21, (⟨a22, a23⟩ : T_api_Name), a24, a25, a26⟩ : T_api_Node).Name.URI, .str (⟨a21, (⟨a22, a23⟩ : T_api_Name), a24, a25, a26⟩ : T_api_Node).Name.Local, .sl 3 (List.map c_T_api_Attr (⟨a21, (⟨a22, a23⟩ : T_api_Name), a24, a25, a26⟩ : T_api_Node).Attrs) 0, .sl 6 (List.map c_T_api_Node (⟨a21, (⟨a22, a23⟩ : T_api_Name), a24, a25, a26⟩ : T_api_Node).Kids) 0, .str (⟨a21, (⟨a22, a23⟩ : T_api_Name), a24, a25, a26⟩ : T_api_Node).Text]) ty_ag_45 ty_sz_45 rfl rfl)) (.tmp (v := .bool true) rfl .nil)) ?_
    exact ⟨_, _, (.tupC (.cons (Wd.toE (.aggC (.cons (.refl _) (.cons (.refl _) (.cons (.refl _) (.cons (.refl _) (.cons (.refl _) (.cons (.refl _) (.nil)))))))) (c_T_api_Node_eq _)) (.cons (.refl _) (.nil)))), ok.wh, _, F_some hF, rfl, rfl⟩
theorem F_lecternref05_At_ok {β : Type} {f : T_api_Node × Bool → Option β} {G : β → Prop} {R : D → Heap → Prop} {p0 : T_api_Node} {p1 : List Int} (h : Heap) (hF : OptP ((F_lecternref05_At p0 p1).bind f) G) (hk : ∀ r, F_lecternref05_At p0 p1 = some r → OptP (f r) G → R (.tup [.agg (c_T_api_Node r.1), .bool r.2]) h) : CallsA Tryd.prog 20 [.agg (c_T_api_Node p0), .sl 1 (List.map c_i64 p1) 0] h R := by
  obtain ⟨r0, hr, hF⟩ := F_bind hF
  refine (F_lecternref05_At_w (G := fun r => r = r0) p0 p1 h ⟨r0, hr, rfl⟩).mono ?_
  rintro _ _ ⟨r, rfl, rfl, rfl⟩
  exact hk _ hr hF
theorem F_lecternref05_Flat_i : ∀ (N : Nat) (v : T_api_Node) (G : (List T_api_Node) → Prop) (h : Heap), OptP (iter F_lecternref05_Flat_b N v) G → CallsA Tryd.prog 39 [.agg (c_T_api_Node v)] h fun d h' => ∃ r, G r ∧ d = .sl 6 (List.map c_T_api_Node r) 0 ∧ h' = h := by
  intro N
  induction N with
  | zero => intro v G h hF; exact F_none hF
  | succ N ih0 =>
  intro p0 G h hF
  show CallsA Tryd.prog 39 [.agg (c_T_api_Node p0)] h fun d h' => ∃ r, G r ∧ d = .sl 6 (List.map c_T_api_Node r) 0 ∧ h' = h
  replace hF : OptP (F_lecternref05_Flat_b (iter F_lecternref05_Flat_b N) p0) G := hF
  refine CallsA.ret ?_
  refine C_body Tryd.func39 rfl en_39 Tryd.ntmps39 rfl (fun ok => ?_)
  rw [F_lecternref05_Flat_b] at hF
  refine C_seq ?_
  refine C_reg (mdl []) ?_
  refine S_box0 rfl rfl rfl rfl ?_
  refine S_a (v := .snil) rfl ?_
  refine S_one 2 (v := .sl 6 (List.map c_T_api_Node ([] : List T_api_Node)) 0) (.nil _) ?_
  refine S_nil ?_
  refine C_seq ?_
  refine C_reg (mdl [(7, 2)]) ?_
  refine S_ldQ rfl (p_agg (vs := c_T_api_Node p0) ty_ag_45 ty_sz_45 (by rw [c_T_api_Node_eq]; rfl) (by rw [c_T_api_Node_eq]; rfl)) ?_
  refine S_same (d := 6) (v := .agg [.int .i64 p0.Kind, .str p0.Name.URI, .str p0.Name.Local, .sl 3 (List.map c_T_api_Attr p0.Attrs) 0, .sl 6 (List.map c_T_api_Node p0.Kids) 0, .str p0.Text]) (congrArg D.agg (c_T_api_Node_eq p0)) ?_
  refine S_lit2 (cs := [.int .i64 p0.Kind, .str p0.Name.URI, .str p0.Name.Local, .sl 3 (List.map c_T_api_Attr p0.Attrs) 0, .sl 6 (List.map c_T_api_Node p0.Kids) 0, .str p0.Text]) (es := (List.map c_T_api_Node [p0])) ok rfl ty_el_43 rfl (by kernel_rfl) (by simp only [List.map_cons, List.map_nil, c_T_api_Node_eq]; rfl) ?_
  intro r1 hr1 ok
  refine S_a (v := .sl _ _ _) rfl ?_
  refine S_nil ?_
  refine C_join hF (fun (a10 : (List T_api_Node)) s' => ∃ g11 : Nat, g11 ≠ 0 ∧ OK h [(g11, .room)] ∧ WS s' ⟨mkSl 21 [(3, .sl 6 (List.map c_T_api_Node a10) g11)], Hp h [(g11, .room)]⟩) (fun J12 hF => ?_) ?_
  ·
    refine C_seq ?_
    refine C_reg (mdl []) ?_
    refine S_faQ rfl ty_fd_45_3 ty_sz_43 (by rw [c_T_api_Node_eq]; rfl) ?_
    refine S_ldQ rfl (p_one ty_ag_43 ty_sz_43 (congrArg (List.drop 4) (c_T_api_Node_eq p0))) ?_
    refine S_lenL rfl ty_sl_43 ?_
    refine S_m (v := .int _ _) rfl ?_
    refine S_nil ?_
    refine WP_block ?_
    refine C_loop (σ := (List T_api_Node) × Int) hF (fun (v : (List T_api_Node) × Int) s' => match v with | (a13, a15) => ∃ g14 : Nat, g14 ≠ 0 ∧ OK h [(g14, .room)] ∧ WS s' ⟨mkSl 21 [(3, .sl 6 (List.map c_T_api_Node a13) g14), (9, .sl 6 (List.map c_T_api_Node p0.Kids) 0), (10, .int .i64 (p0.Kids.length : Int)), (11, .int .i64 a15)], Hp h [(g14, .room)]⟩) ?_ ?_
    ·
      have hwo : WO [(r1, .room)] [(r1, .room)] := (.keep .nil)
      exact ⟨r1, hr1, (hwo.spec ok).1, WS.mk' (.cons (.refl _) (.cons (.refl _) (.cons (.refl _) (.cons (.refl _) .nil)))) ok hwo⟩
    ·
      rintro G16 hG17 rec18 ⟨a13, a15⟩ s' ih19 hF ⟨g14, hg14, ok, hws⟩
      refine WP_ws hws ?_
      clear hws s'
      rw [F_lecternref05_Flat_l0] at hF
      refine C_seq ?_
      refine C_reg (mdl []) ?_
      refine S_bin rfl rfl (ev_lss ..) ?_
      refine S_nil ?_
      refine C_seq ?_
      refine C_if (b := (decide (a15 < (p0.Kids.length : Int)))) rfl hF (fun hb20 hF => ?_) (fun hb20 hF => ?_)
      ·
        refine WP_skip ?_
        refine C_seq ?_
        refine WP_block ?_
        refine C_seq ?_
        refine C_reg (mdl [(5, 1)]) ?_
        refine S_ix rfl rfl ty_sl_43 ty_sz_45 hF (fun x21 _ hF => ?_)
        refine S_ldQ rfl (p_agg (vs := c_T_api_Node x21) ty_ag_45 ty_sz_45 (by rw [c_T_api_Node_eq]; rfl) (by rw [c_T_api_Node_eq]; rfl)) ?_
        refine S_all1 ok rfl ty_zc_45 ?_
        intro i22 hi22 ok
        refine S_st (j := 0) (cs' := [.int .i64 x21.Kind, .str x21.Name.URI, .str x21.Name.Local, .sl 3 (List.map c_T_api_Attr x21.Attrs) 0, .sl 6 (List.map c_T_api_Node x21.Kids) 0, .str x21.Text]) ok rfl (congrArg D.agg (c_T_api_Node_eq x21)) rfl hi22 rfl ty_sz_45 rfl rfl (fun ok => ?_)
        refine S_nil ?_
        refine C_reg (mdl [(18, 2)]) ?_
        refine S_m (v := .sl _ _ _) rfl ?_
        refine S_ldP (j := 0) ok rfl rfl rfl hi22 (p_agg (vs := c_T_api_Node x21) ty_ag_45 ty_sz_45 rfl (c_T_api_Node_eq x21).symm) ?_
        refine S_call (ok_of (enc := fun r => .sl 6 (List.map c_T_api_Node r) 0) (fun G h hF => ih0 x21 G h hF) _ hF fun x23 _ hF => ?_) (.cons (.refl _) (.nil))
        refine S_app (j := 1) ok rfl rfl rfl rfl hg14 ty_el_43 ty_ni_43 hF ?_
        intro r24 hr24 ok hF
        refine S_a (v := .sl _ _ _) rfl ?_
        refine S_nil ?_
        refine C_reg (mdl []) ?_
        refine S_bin rfl rfl (ev_add ..) ?_
        refine S_m (v := .int _ _) rfl ?_
        refine S_nil ?_
        refine ih19 ((a13 ++ x23), (IntKind.wrap .i64 (a15 + (1 : Int)))) _ hF ?_
        have hwo : WO [(i22, .cells [.int .i64 x21.Kind, .str x21.Name.URI, .str x21.Name.Local, .sl 3 (List.map c_T_api_Attr x21.Attrs) 0, .sl 6 (List.map c_T_api_Node x21.Kids) 0, .str x21.Text]), (r24, .room)] [(r24, .room)] := (.drop (.keep .nil))
        exact ⟨r24, hr24, (hwo.spec ok).1, WS.mk' (.cons (.refl _) (.cons (.refl _) (.cons (.refl _) (.cons (.refl _) .nil)))) ok hwo⟩
      ·
        refine WP_exit ?_
        simp only [Exit.sel, Exit.blk, if_true, if_false, reduceIte, Nat.reduceEqDiff, Nat.succ_ne_zero, Nat.zero_ne_one, Nat.one_ne_zero]
        replace hF := hG17 _ (F_some hF)
        have hwo : WO [(g14, .room)] [(g14, .room)] := (.keep .nil)
        exact ⟨a13, hF, g14, hg14, (hwo.spec ok).1, WS.mk' (.cons (.refl _) .nil) ok hwo⟩
  ·
    rintro a10 s' hF ⟨g11, hg11, ok, hws⟩
    refine WP_ws hws ?_
    clear hws s'
    refine C_seq ?_
    refine C_reg (mdl []) ?_
    refine S_m (v := .sl _ _ _) rfl ?_
    refine S_one 20 (v := .sl 6 (List.map c_T_api_Node a10) 0) (.zero _ _ _) ?_
    refine S_a (v := .sl _ _ _) rfl ?_
    refine S_nil ?_
    refine WP_ret ?_
    repeat (first | with_reducible refine Exit.sel_ret ?_ | with_reducible refine Exit.blk_ret ?_)
    refine C_ret (fn := Tryd.f39) rfl (.tmp (v := .sl 6 (List.map c_T_api_Node a10) 0) rfl .nil) ?_
    exact ⟨_, _, (.refl _), ok.wh, _, F_some hF, rfl, rfl⟩
theorem F_lecternref05_Flat_w (p0 : T_api_Node) {G : (List T_api_Node) → Prop} (h : Heap) (hF : OptP (F_lecternref05_Flat p0) G) : CallsA Tryd.prog 39 [.agg (c_T_api_Node p0)] h fun d h' => ∃ r, G r ∧ d = .sl 6 (List.map c_T_api_Node r) 0 ∧ h' = h := F_lecternref05_Flat_i FUEL p0 G h hF
theorem F_lecternref05_Flat_ok {β : Type} {f : (List T_api_Node) → Option β} {G : β → Prop} {R : D → Heap → Prop} {p0 : T_api_Node} (h : Heap) (hF : OptP ((F_lecternref05_Flat p0).bind f) G) (hk : ∀ r, F_lecternref05_Flat p0 = some r → OptP (f r) G → R (.sl 6 (List.map c_T_api_Node r) 0) h) : CallsA Tryd.prog 39 [.agg (c_T_api_Node p0)] h R := by
  obtain ⟨r0, hr, hF⟩ := F_bind hF
  refine (F_lecternref05_Flat_w (G := fun r => r = r0) p0 h ⟨r0, hr, rfl⟩).mono ?_
  rintro _ _ ⟨r, rfl, rfl, rfl⟩
  exact hk _ hr hF
end Go.Proofs.YtggnjahdjmncaaaDoor
