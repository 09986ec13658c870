/- The walks. No condition. -/
import Derived.Test.YtocfjohangcajaaDoorPf
import Derived.Test.YtocfjohangcajaaDoorTy
set_option linter.unusedVariables false
set_option linter.unusedSimpArgs false
set_option maxRecDepth 20000
set_option maxHeartbeats 8000000
namespace Go.Proofs.YtocfjohangcajaaDoor
theorem F_trace_reader_look_w (p0 : T_trace_reader) (q0 : Nat) (b0_2 : Nat) (b0_2r : Nat) {G : Int × Int × Int → Prop} (h : Heap) (O : List (Nat × AObj)) (hq0 : q0 ≠ 0) (zb0_2 : b0_2 = 0 → p0.f = []) (zb0_2r : b0_2r = 0 → p0.f = []) (ok : OK h ((q0, .cells [.str p0.s, .int .i64 p0.at_, mslO 2 b0_2 p0.f, .cplx .f64 p0.pen.1 p0.pen.2, .int .i64 p0.n, .bool p0.open_]) :: mo b0_2 cR_T_trace_Stroke (tagR (some b0_2r) p0.f) :: (b0_2r, .room) :: O)) (hF : OptP (F_trace_reader_look p0) G) : CallsA Tryd.prog 29 [.ptr q0 0] (Hp h ((q0, .cells [.str p0.s, .int .i64 p0.at_, mslO 2 b0_2 p0.f, .cplx .f64 p0.pen.1 p0.pen.2, .int .i64 p0.n, .bool p0.open_]) :: mo b0_2 cR_T_trace_Stroke (tagR (some b0_2r) p0.f) :: (b0_2r, .room) :: O)) fun d h' => ∃ r, G r ∧ d = .tup [.int .i64 r.1, .int .i64 r.2.1, .int .i64 r.2.2] ∧ OK h ((q0, .cells [.str p0.s, .int .i64 p0.at_, mslO 2 b0_2 p0.f, .cplx .f64 p0.pen.1 p0.pen.2, .int .i64 p0.n, .bool p0.open_]) :: mo b0_2 cR_T_trace_Stroke (tagR (some b0_2r) p0.f) :: (b0_2r, .room) :: O) ∧ h' = Hp h ((q0, .cells [.str p0.s, .int .i64 p0.at_, mslO 2 b0_2 p0.f, .cplx .f64 p0.pen.1 p0.pen.2, .int .i64 p0.n, .bool p0.open_]) :: mo b0_2 cR_T_trace_Stroke (tagR (some b0_2r) p0.f) :: (b0_2r, .room) :: O) := by
  refine CallsA.ret ?_
  refine C_bodyO Tryd.func29 rfl en_29 Tryd.ntmps29 rfl ?_
  rw [F_trace_reader_look] at hF
  refine C_seq ?_
  refine C_reg (mdl []) ?_
  refine S_a (v := .int _ _) rfl ?_
  refine S_a (v := .int _ _) rfl ?_
  refine S_a (v := .int _ _) rfl ?_
  refine S_nil ?_
  refine C_seq ?_
  refine C_reg (mdl []) ?_
  refine S_m (v := .ptr _ _) rfl ?_
  refine S_nilc (v := .ptr _ _) rfl rfl ?_
  refine S_faP rfl ty_fd_70_1 ty_sz_3 ?_
  refine S_ldP (j := 0) ok rfl rfl rfl hq0 (p_one (v := .int .i64 p0.at_) ty_ag_3 ty_sz_3 rfl) ?_
  refine S_a (v := .int _ _) rfl ?_
  refine S_nil ?_
  refine C_join hF (fun (a8 : Int) s' => OK h ((q0, .cells [.str p0.s, .int .i64 p0.at_, mslO 2 b0_2 p0.f, .cplx .f64 p0.pen.1 p0.pen.2, .int .i64 p0.n, .bool p0.open_]) :: mo b0_2 cR_T_trace_Stroke (tagR (some b0_2r) p0.f) :: (b0_2r, .room) :: O) ∧ WS s' ⟨mkSl 109 [(0, .ptr q0 0), (3, .int .i64 a8)], Hp h ((q0, .cells [.str p0.s, .int .i64 p0.at_, mslO 2 b0_2 p0.f, .cplx .f64 p0.pen.1 p0.pen.2, .int .i64 p0.n, .bool p0.open_]) :: mo b0_2 cR_T_trace_Stroke (tagR (some b0_2r) p0.f) :: (b0_2r, .room) :: O)⟩) (fun J9 hF => ?_) ?_
  ·
    refine WP_block ?_
    refine C_loop (σ := Int) hF (fun (a10 : Int) s' => OK h ((q0, .cells [.str p0.s, .int .i64 p0.at_, mslO 2 b0_2 p0.f, .cplx .f64 p0.pen.1 p0.pen.2, .int .i64 p0.n, .bool p0.open_]) :: mo b0_2 cR_T_trace_Stroke (tagR (some b0_2r) p0.f) :: (b0_2r, .room) :: O) ∧ WS s' ⟨mkSl 109 [(0, .ptr q0 0), (3, .int .i64 a10)], Hp h ((q0, .cells [.str p0.s, .int .i64 p0.at_, mslO 2 b0_2 p0.f, .cplx .f64 p0.pen.1 p0.pen.2, .int .i64 p0.n, .bool p0.open_]) :: mo b0_2 cR_T_trace_Stroke (tagR (some b0_2r) p0.f) :: (b0_2r, .room) :: O)⟩) ?_ ?_
    ·
      have hwo : WO ((q0, .cells [.str p0.s, .int .i64 p0.at_, mslO 2 b0_2 p0.f, .cplx .f64 p0.pen.1 p0.pen.2, .int .i64 p0.n, .bool p0.open_]) :: mo b0_2 cR_T_trace_Stroke (tagR (some b0_2r) p0.f) :: (b0_2r, .room) :: O) ((q0, .cells [.str p0.s, .int .i64 p0.at_, mslO 2 b0_2 p0.f, .cplx .f64 p0.pen.1 p0.pen.2, .int .i64 p0.n, .bool p0.open_]) :: mo b0_2 cR_T_trace_Stroke (tagR (some b0_2r) p0.f) :: (b0_2r, .room) :: O) := (.keep (.keep (.keep (.refl O))))
      exact ⟨(hwo.spec ok).1, WS.mk' (.cons (.refl _) (.cons (.refl _) .nil)) ok hwo⟩
    ·
      rintro G11 hG12 rec13 a10 s' ih14 hF ⟨ok, hws⟩
      refine WP_ws hws ?_
      clear hws s'
      rw [F_trace_reader_look_l0] at hF
      refine C_seq ?_
      refine C_seq ?_
      refine C_reg (mdl []) ?_
      refine S_m (v := .int _ _) rfl ?_
      refine S_m (v := .ptr _ _) rfl ?_
      refine S_nilc (v := .ptr _ _) rfl rfl ?_
      refine S_faP rfl ty_fd_70_0 ty_sz_9 ?_
      refine S_ldP (j := 0) ok rfl rfl rfl hq0 (p_one (v := .str p0.s) ty_ag_9 ty_sz_9 rfl) ?_
      refine S_lenS rfl ty_st_9 ?_
      refine S_bin rfl rfl (ev_lss ..) ?_
      refine S_m (v := .bool _) rfl ?_
      refine S_twoJ 9 26 hF (fun J16 hb15 hF => ?_) (fun J16 hb15 hF => ?_) (fun v17 hF => ?_)
      ·
        refine S_on rfl rfl hb15 ?_
        refine S_in ?_
        refine S_m (v := .ptr _ _) rfl ?_
        refine S_nil ?_
        refine S_on rfl rfl hb15 ?_
        refine S_in ?_
        refine S_nilc (v := .ptr _ _) rfl rfl ?_
        refine S_nil ?_
        refine S_on rfl rfl hb15 ?_
        refine S_in ?_
        refine S_faP rfl ty_fd_70_0 ty_sz_9 ?_
        refine S_nil ?_
        refine S_on rfl rfl hb15 ?_
        refine S_in ?_
        refine S_ldP (j := 0) ok rfl rfl rfl hq0 (p_one (v := .str p0.s) ty_ag_9 ty_sz_9 rfl) ?_
        refine S_nil ?_
        refine S_on rfl rfl hb15 ?_
        refine S_in ?_
        refine S_m (v := .int _ _) rfl ?_
        refine S_nil ?_
        refine S_on rfl rfl hb15 ?_
        refine S_in ?_
        refine S_ixS rfl rfl ty_st_9 hF (fun x18 _ hF => ?_)
        refine S_nil ?_
        refine S_on rfl rfl hb15 ?_
        refine S_in ?_
        refine S_call (L_IndexByte_ok _ hF fun x19 _ hF => ?_) (.cons (.refl _) (.cons (.refl _) (.nil)))
        refine S_nil ?_
        refine S_on rfl rfl hb15 ?_
        refine S_in ?_
        refine S_bin rfl rfl (ev_geq ..) ?_
        refine S_nil ?_
        refine S_pickT (v := .bool _) rfl hb15 rfl ?_
        refine S_nil ?_
        refine ⟨_, hF, .hd (.refl _) ?_⟩
        repeat (first | with_reducible exact WS.refl _ | refine WS.add ?_ rfl | exact WS.refl _)
      ·
        refine S_off rfl rfl hb15 ?_
        refine S_offD ?_
        refine S_off rfl rfl hb15 ?_
        refine S_offD ?_
        refine S_off rfl rfl hb15 ?_
        refine S_offD ?_
        refine S_off rfl rfl hb15 ?_
        refine S_offD ?_
        refine S_off rfl rfl hb15 ?_
        refine S_offD ?_
        refine S_off rfl rfl hb15 ?_
        refine S_offD ?_
        refine S_off rfl rfl hb15 ?_
        refine S_offD ?_
        refine S_off rfl rfl hb15 ?_
        refine S_offD ?_
        refine S_pickF (v := .bool _) rfl hb15 rfl ?_
        refine S_nil ?_
        refine ⟨_, hF, .hd (.refl _) ?_⟩
        repeat (first | with_reducible exact WS.refl _ | refine WS.add ?_ rfl | exact WS.refl _)
      ·
        refine S_nil ?_
        refine C_if (b := v17) rfl hF (fun hb20 hF => ?_) (fun hb20 hF => ?_)
        ·
          refine WP_skip ?_
          refine WP_block ?_
          refine C_reg (mdl []) ?_
          refine S_m (v := .int _ _) rfl ?_
          refine S_bin rfl rfl (ev_add ..) ?_
          refine S_a (v := .int _ _) rfl ?_
          refine S_nil ?_
          refine ih14 (IntKind.wrap .i64 (a10 + (1 : Int))) _ hF ?_
          have hwo : WO ((q0, .cells [.str p0.s, .int .i64 p0.at_, mslO 2 b0_2 p0.f, .cplx .f64 p0.pen.1 p0.pen.2, .int .i64 p0.n, .bool p0.open_]) :: mo b0_2 cR_T_trace_Stroke (tagR (some b0_2r) p0.f) :: (b0_2r, .room) :: O) ((q0, .cells [.str p0.s, .int .i64 p0.at_, mslO 2 b0_2 p0.f, .cplx .f64 p0.pen.1 p0.pen.2, .int .i64 p0.n, .bool p0.open_]) :: mo b0_2 cR_T_trace_Stroke (tagR (some b0_2r) p0.f) :: (b0_2r, .room) :: O) := (.keep (.keep (.keep (.refl O))))
          exact ⟨(hwo.spec ok).1, WS.mk' (.cons (.refl _) (.cons (.refl _) .nil)) ok hwo⟩
        ·
          refine WP_exit ?_
          simp only [Exit.sel, Exit.blk, Exit.jmp, if_true, if_false, reduceIte, Nat.reduceEqDiff, Nat.succ_ne_zero, Nat.zero_ne_one, Nat.one_ne_zero]
          replace hF := hG12 _ (F_some hF)
          have hwo : WO ((q0, .cells [.str p0.s, .int .i64 p0.at_, mslO 2 b0_2 p0.f, .cplx .f64 p0.pen.1 p0.pen.2, .int .i64 p0.n, .bool p0.open_]) :: mo b0_2 cR_T_trace_Stroke (tagR (some b0_2r) p0.f) :: (b0_2r, .room) :: O) ((q0, .cells [.str p0.s, .int .i64 p0.at_, mslO 2 b0_2 p0.f, .cplx .f64 p0.pen.1 p0.pen.2, .int .i64 p0.n, .bool p0.open_]) :: mo b0_2 cR_T_trace_Stroke (tagR (some b0_2r) p0.f) :: (b0_2r, .room) :: O) := (.keep (.keep (.keep (.refl O))))
          exact ⟨a10, hF, (hwo.spec ok).1, WS.mk' (.cons (.refl _) (.cons (.refl _) .nil)) ok hwo⟩
  ·
    rintro a8 s' hF ⟨ok, hws⟩
    refine WP_ws hws ?_
    clear hws s'
    refine C_seq ?_
    refine C_seq ?_
    refine C_reg (mdl []) ?_
    refine S_m (v := .int _ _) rfl ?_
    refine S_m (v := .ptr _ _) rfl ?_
    refine S_nilc (v := .ptr _ _) rfl rfl ?_
    refine S_faP rfl ty_fd_70_0 ty_sz_9 ?_
    refine S_ldP (j := 0) ok rfl rfl rfl hq0 (p_one (v := .str p0.s) ty_ag_9 ty_sz_9 rfl) ?_
    refine S_lenS rfl ty_st_9 ?_
    refine S_bin rfl rfl (ev_eql ..) ?_
    refine S_nil ?_
    refine C_if (b := (a8 == (p0.s.length : Int))) rfl hF (fun hb21 hF => ?_) (fun hb21 hF => ?_)
    ·
      refine C_seq ?_
      refine C_reg (mdl []) ?_
      refine S_m (v := .int _ _) rfl ?_
      refine S_m (v := .int _ _) rfl ?_
      refine S_a (v := .int _ _) rfl ?_
      refine S_a (v := .int _ _) rfl ?_
      refine S_a (v := .int _ _) rfl ?_
      refine S_nil ?_
      refine WP_ret ?_
      repeat (first | with_reducible refine Exit.sel_ret ?_ | with_reducible refine Exit.blk_ret ?_ | with_reducible refine Exit.jmp_ret ?_)
      have hwo : WO ((q0, .cells [.str p0.s, .int .i64 p0.at_, mslO 2 b0_2 p0.f, .cplx .f64 p0.pen.1 p0.pen.2, .int .i64 p0.n, .bool p0.open_]) :: mo b0_2 cR_T_trace_Stroke (tagR (some b0_2r) p0.f) :: (b0_2r, .room) :: O) ((q0, .cells [.str p0.s, .int .i64 p0.at_, mslO 2 b0_2 p0.f, .cplx .f64 p0.pen.1 p0.pen.2, .int .i64 p0.n, .bool p0.open_]) :: mo b0_2 cR_T_trace_Stroke (tagR (some b0_2r) p0.f) :: (b0_2r, .room) :: O) := (.keep (.keep (.keep (.refl O))))
      refine C_ret (fn := Tryd.f29) rfl (.tmp (v := .int .i64 (0 : Int)) rfl (.tmp (v := .int .i64 a8) rfl (.tmp (v := .int .i64 a8) rfl .nil))) ?_
      exact ⟨_, _, (.tupC (.cons (.refl _) (.cons (.refl _) (.cons (.refl _) (.nil))))), (hwo.spec ok).2.2, _, F_some hF, rfl, (hwo.spec ok).1, rfl⟩
    ·
      refine WP_skip ?_
      refine C_seq ?_
      refine C_seq ?_
      refine C_reg (mdl []) ?_
      refine S_m (v := .ptr _ _) rfl ?_
      refine S_nilc (v := .ptr _ _) rfl rfl ?_
      refine S_faP rfl ty_fd_70_0 ty_sz_9 ?_
      refine S_ldP (j := 0) ok rfl rfl rfl hq0 (p_one (v := .str p0.s) ty_ag_9 ty_sz_9 rfl) ?_
      refine S_m (v := .int _ _) rfl ?_
      refine S_ixS rfl rfl ty_st_9 hF (fun x22 _ hF => ?_)
      refine S_call (L_IndexByte_ok _ hF fun x23 _ hF => ?_) (.cons (.refl _) (.cons (.refl _) (.nil)))
      refine S_bin rfl rfl (ev_geq ..) ?_
      refine S_nil ?_
      refine C_if (b := (decide ((0 : Int) ≤ x23))) rfl hF (fun hb24 hF => ?_) (fun hb24 hF => ?_)
      ·
        refine C_seq ?_
        refine C_reg (mdl []) ?_
        refine S_m (v := .int _ _) rfl ?_
        refine S_m (v := .int _ _) rfl ?_
        refine S_bin rfl rfl (ev_add ..) ?_
        refine S_a (v := .int _ _) rfl ?_
        refine S_a (v := .int _ _) rfl ?_
        refine S_a (v := .int _ _) rfl ?_
        refine S_nil ?_
        refine WP_ret ?_
        repeat (first | with_reducible refine Exit.sel_ret ?_ | with_reducible refine Exit.blk_ret ?_ | with_reducible refine Exit.jmp_ret ?_)
        have hwo : WO ((q0, .cells [.str p0.s, .int .i64 p0.at_, mslO 2 b0_2 p0.f, .cplx .f64 p0.pen.1 p0.pen.2, .int .i64 p0.n, .bool p0.open_]) :: mo b0_2 cR_T_trace_Stroke (tagR (some b0_2r) p0.f) :: (b0_2r, .room) :: O) ((q0, .cells [.str p0.s, .int .i64 p0.at_, mslO 2 b0_2 p0.f, .cplx .f64 p0.pen.1 p0.pen.2, .int .i64 p0.n, .bool p0.open_]) :: mo b0_2 cR_T_trace_Stroke (tagR (some b0_2r) p0.f) :: (b0_2r, .room) :: O) := (.keep (.keep (.keep (.refl O))))
        refine C_ret (fn := Tryd.f29) rfl (.tmp (v := .int .i64 (1 : Int)) rfl (.tmp (v := .int .i64 a8) rfl (.tmp (v := .int .i64 (IntKind.wrap .i64 (a8 + (1 : Int)))) rfl .nil))) ?_
        exact ⟨_, _, (.tupC (.cons (.refl _) (.cons (.refl _) (.cons (.refl _) (.nil))))), (hwo.spec ok).2.2, _, F_some hF, rfl, (hwo.spec ok).1, rfl⟩
      ·
        refine WP_skip ?_
        refine C_seq ?_
        refine C_reg (mdl []) ?_
        refine S_m (v := .int _ _) rfl ?_
        refine S_a (v := .int _ _) rfl ?_
        refine S_nil ?_
        refine C_join hF (fun (a31 : Int) s' => OK h ((q0, .cells [.str p0.s, .int .i64 p0.at_, mslO 2 b0_2 p0.f, .cplx .f64 p0.pen.1 p0.pen.2, .int .i64 p0.n, .bool p0.open_]) :: mo b0_2 cR_T_trace_Stroke (tagR (some b0_2r) p0.f) :: (b0_2r, .room) :: O) ∧ WS s' ⟨mkSl 109 [(0, .ptr q0 0), (3, .int .i64 a8), (4, .int .i64 a31)], Hp h ((q0, .cells [.str p0.s, .int .i64 p0.at_, mslO 2 b0_2 p0.f, .cplx .f64 p0.pen.1 p0.pen.2, .int .i64 p0.n, .bool p0.open_]) :: mo b0_2 cR_T_trace_Stroke (tagR (some b0_2r) p0.f) :: (b0_2r, .room) :: O)⟩) (fun J32 hF => ?_) ?_
        ·
          refine C_seq ?_
          refine C_reg (mdl []) ?_
          refine S_m (v := .ptr _ _) rfl ?_
          refine S_nilc (v := .ptr _ _) rfl rfl ?_
          refine S_faP rfl ty_fd_70_0 ty_sz_9 ?_
          refine S_ldP (j := 0) ok rfl rfl rfl hq0 (p_one (v := .str p0.s) ty_ag_9 ty_sz_9 rfl) ?_
          refine S_m (v := .int _ _) rfl ?_
          refine S_ixS rfl rfl ty_st_9 hF (fun x33 _ hF => ?_)
          refine S_bin rfl rfl (ev_eql ..) ?_
          refine S_m (v := .bool _) rfl ?_
          refine S_twoJ 8 65 hF (fun J35 hb34 hF => ?_) (fun J35 hb34 hF => ?_) (fun v36 hF => ?_)
          ·
            refine S_off rfl rfl hb34 ?_
            refine S_offD ?_
            refine S_off rfl rfl hb34 ?_
            refine S_offD ?_
            refine S_off rfl rfl hb34 ?_
            refine S_offD ?_
            refine S_off rfl rfl hb34 ?_
            refine S_offD ?_
            refine S_off rfl rfl hb34 ?_
            refine S_offD ?_
            refine S_off rfl rfl hb34 ?_
            refine S_offD ?_
            refine S_off rfl rfl hb34 ?_
            refine S_offD ?_
            refine S_pickT (v := .bool _) rfl hb34 rfl ?_
            refine S_nil ?_
            refine ⟨_, hF, .hd (.refl _) ?_⟩
            repeat (first | with_reducible exact WS.refl _ | refine WS.add ?_ rfl | exact WS.refl _)
          ·
            refine S_on rfl rfl hb34 ?_
            refine S_in ?_
            refine S_m (v := .ptr _ _) rfl ?_
            refine S_nil ?_
            refine S_on rfl rfl hb34 ?_
            refine S_in ?_
            refine S_nilc (v := .ptr _ _) rfl rfl ?_
            refine S_nil ?_
            refine S_on rfl rfl hb34 ?_
            refine S_in ?_
            refine S_faP rfl ty_fd_70_0 ty_sz_9 ?_
            refine S_nil ?_
            refine S_on rfl rfl hb34 ?_
            refine S_in ?_
            refine S_ldP (j := 0) ok rfl rfl rfl hq0 (p_one (v := .str p0.s) ty_ag_9 ty_sz_9 rfl) ?_
            refine S_nil ?_
            refine S_on rfl rfl hb34 ?_
            refine S_in ?_
            refine S_m (v := .int _ _) rfl ?_
            refine S_nil ?_
            refine S_on rfl rfl hb34 ?_
            refine S_in ?_
            refine S_ixS rfl rfl ty_st_9 hF (fun x37 _ hF => ?_)
            refine S_nil ?_
            refine S_on rfl rfl hb34 ?_
            refine S_in ?_
            refine S_bin rfl rfl (ev_eql ..) ?_
            refine S_nil ?_
            refine S_pickF (v := .bool _) rfl hb34 rfl ?_
            refine S_nil ?_
            refine ⟨_, hF, .hd (.refl _) ?_⟩
            repeat (first | with_reducible exact WS.refl _ | refine WS.add ?_ rfl | exact WS.refl _)
          ·
            refine S_nil ?_
            refine C_if (b := v36) rfl hF (fun hb38 hF => ?_) (fun hb38 hF => ?_)
            ·
              refine C_reg (mdl []) ?_
              refine S_m (v := .int _ _) rfl ?_
              refine S_bin rfl rfl (ev_add ..) ?_
              refine S_a (v := .int _ _) rfl ?_
              refine S_nil ?_
              have hwo : WO ((q0, .cells [.str p0.s, .int .i64 p0.at_, mslO 2 b0_2 p0.f, .cplx .f64 p0.pen.1 p0.pen.2, .int .i64 p0.n, .bool p0.open_]) :: mo b0_2 cR_T_trace_Stroke (tagR (some b0_2r) p0.f) :: (b0_2r, .room) :: O) ((q0, .cells [.str p0.s, .int .i64 p0.at_, mslO 2 b0_2 p0.f, .cplx .f64 p0.pen.1 p0.pen.2, .int .i64 p0.n, .bool p0.open_]) :: mo b0_2 cR_T_trace_Stroke (tagR (some b0_2r) p0.f) :: (b0_2r, .room) :: O) := (.keep (.keep (.keep (.refl O))))
              exact ⟨(IntKind.wrap .i64 (a8 + (1 : Int))), hF, (hwo.spec ok).1, WS.mk' (.cons (.refl _) (.cons (.refl _) (.cons (.refl _) .nil))) ok hwo⟩
            ·
              refine WP_skip ?_
              have hwo : WO ((q0, .cells [.str p0.s, .int .i64 p0.at_, mslO 2 b0_2 p0.f, .cplx .f64 p0.pen.1 p0.pen.2, .int .i64 p0.n, .bool p0.open_]) :: mo b0_2 cR_T_trace_Stroke (tagR (some b0_2r) p0.f) :: (b0_2r, .room) :: O) ((q0, .cells [.str p0.s, .int .i64 p0.at_, mslO 2 b0_2 p0.f, .cplx .f64 p0.pen.1 p0.pen.2, .int .i64 p0.n, .bool p0.open_]) :: mo b0_2 cR_T_trace_Stroke (tagR (some b0_2r) p0.f) :: (b0_2r, .room) :: O) := (.keep (.keep (.keep (.refl O))))
              exact ⟨a8, hF, (hwo.spec ok).1, WS.mk' (.cons (.refl _) (.cons (.refl _) (.cons (.refl _) .nil))) ok hwo⟩
        ·
          rintro a31 s' hF ⟨ok, hws⟩
          refine WP_ws hws ?_
          clear hws s'
          refine C_seq ?_
          refine C_reg (mdl []) ?_
          refine S_m (v := .int _ _) rfl ?_
          refine S_a (v := .int _ _) rfl ?_
          refine S_nil ?_
          refine C_join hF (fun (a49 : Int) s' => OK h ((q0, .cells [.str p0.s, .int .i64 p0.at_, mslO 2 b0_2 p0.f, .cplx .f64 p0.pen.1 p0.pen.2, .int .i64 p0.n, .bool p0.open_]) :: mo b0_2 cR_T_trace_Stroke (tagR (some b0_2r) p0.f) :: (b0_2r, .room) :: O) ∧ WS s' ⟨mkSl 109 [(3, .int .i64 a8), (4, .int .i64 a49), (5, .int .i64 a31)], Hp h ((q0, .cells [.str p0.s, .int .i64 p0.at_, mslO 2 b0_2 p0.f, .cplx .f64 p0.pen.1 p0.pen.2, .int .i64 p0.n, .bool p0.open_]) :: mo b0_2 cR_T_trace_Stroke (tagR (some b0_2r) p0.f) :: (b0_2r, .room) :: O)⟩) (fun J50 hF => ?_) ?_
          ·
            refine WP_block ?_
            refine C_loop (σ := Int) hF (fun (a51 : Int) s' => OK h ((q0, .cells [.str p0.s, .int .i64 p0.at_, mslO 2 b0_2 p0.f, .cplx .f64 p0.pen.1 p0.pen.2, .int .i64 p0.n, .bool p0.open_]) :: mo b0_2 cR_T_trace_Stroke (tagR (some b0_2r) p0.f) :: (b0_2r, .room) :: O) ∧ WS s' ⟨mkSl 109 [(0, .ptr q0 0), (3, .int .i64 a8), (4, .int .i64 a51), (5, .int .i64 a31)], Hp h ((q0, .cells [.str p0.s, .int .i64 p0.at_, mslO 2 b0_2 p0.f, .cplx .f64 p0.pen.1 p0.pen.2, .int .i64 p0.n, .bool p0.open_]) :: mo b0_2 cR_T_trace_Stroke (tagR (some b0_2r) p0.f) :: (b0_2r, .room) :: O)⟩) ?_ ?_
            ·
              have hwo : WO ((q0, .cells [.str p0.s, .int .i64 p0.at_, mslO 2 b0_2 p0.f, .cplx .f64 p0.pen.1 p0.pen.2, .int .i64 p0.n, .bool p0.open_]) :: mo b0_2 cR_T_trace_Stroke (tagR (some b0_2r) p0.f) :: (b0_2r, .room) :: O) ((q0, .cells [.str p0.s, .int .i64 p0.at_, mslO 2 b0_2 p0.f, .cplx .f64 p0.pen.1 p0.pen.2, .int .i64 p0.n, .bool p0.open_]) :: mo b0_2 cR_T_trace_Stroke (tagR (some b0_2r) p0.f) :: (b0_2r, .room) :: O) := (.keep (.keep (.keep (.refl O))))
              exact ⟨(hwo.spec ok).1, WS.mk' (.cons (.refl _) (.cons (.refl _) (.cons (.refl _) (.cons (.refl _) .nil)))) ok hwo⟩
            ·
              rintro G52 hG53 rec54 a51 s' ih55 hF ⟨ok, hws⟩
              refine WP_ws hws ?_
              clear hws s'
              rw [F_trace_reader_look_l1] at hF
              refine C_seq ?_
              refine C_seq ?_
              refine C_reg (mdl []) ?_
              refine S_m (v := .int _ _) rfl ?_
              refine S_m (v := .ptr _ _) rfl ?_
              refine S_nilc (v := .ptr _ _) rfl rfl ?_
              refine S_faP rfl ty_fd_70_0 ty_sz_9 ?_
              refine S_ldP (j := 0) ok rfl rfl rfl hq0 (p_one (v := .str p0.s) ty_ag_9 ty_sz_9 rfl) ?_
              refine S_lenS rfl ty_st_9 ?_
              refine S_bin rfl rfl (ev_lss ..) ?_
              refine S_m (v := .bool _) rfl ?_
              refine S_twoJ 8 84 hF (fun J57 hb56 hF => ?_) (fun J57 hb56 hF => ?_) (fun v58 hF => ?_)
              ·
                refine S_on rfl rfl hb56 ?_
                refine S_in ?_
                refine S_m (v := .ptr _ _) rfl ?_
                refine S_nil ?_
                refine S_on rfl rfl hb56 ?_
                refine S_in ?_
                refine S_nilc (v := .ptr _ _) rfl rfl ?_
                refine S_nil ?_
                refine S_on rfl rfl hb56 ?_
                refine S_in ?_
                refine S_faP rfl ty_fd_70_0 ty_sz_9 ?_
                refine S_nil ?_
                refine S_on rfl rfl hb56 ?_
                refine S_in ?_
                refine S_ldP (j := 0) ok rfl rfl rfl hq0 (p_one (v := .str p0.s) ty_ag_9 ty_sz_9 rfl) ?_
                refine S_nil ?_
                refine S_on rfl rfl hb56 ?_
                refine S_in ?_
                refine S_m (v := .int _ _) rfl ?_
                refine S_nil ?_
                refine S_on rfl rfl hb56 ?_
                refine S_in ?_
                refine S_ixS rfl rfl ty_st_9 hF (fun x59 _ hF => ?_)
                refine S_nil ?_
                refine S_on rfl rfl hb56 ?_
                refine S_in ?_
                refine S_bin rfl rfl (ev_geq ..) ?_
                refine S_nil ?_
                refine S_pickT (v := .bool _) rfl hb56 rfl ?_
                refine S_nil ?_
                refine ⟨_, hF, .hd (.refl _) ?_⟩
                repeat (first | with_reducible exact WS.refl _ | refine WS.add ?_ rfl | exact WS.refl _)
              ·
                refine S_off rfl rfl hb56 ?_
                refine S_offD ?_
                refine S_off rfl rfl hb56 ?_
                refine S_offD ?_
                refine S_off rfl rfl hb56 ?_
                refine S_offD ?_
                refine S_off rfl rfl hb56 ?_
                refine S_offD ?_
                refine S_off rfl rfl hb56 ?_
                refine S_offD ?_
                refine S_off rfl rfl hb56 ?_
                refine S_offD ?_
                refine S_off rfl rfl hb56 ?_
                refine S_offD ?_
                refine S_pickF (v := .bool _) rfl hb56 rfl ?_
                refine S_nil ?_
                refine ⟨_, hF, .hd (.refl _) ?_⟩
                repeat (first | with_reducible exact WS.refl _ | refine WS.add ?_ rfl | exact WS.refl _)
              ·
                refine S_m (v := .bool _) rfl ?_
                refine S_twoJ 8 93 hF (fun J61 hb60 hF => ?_) (fun J61 hb60 hF => ?_) (fun v62 hF => ?_)
                ·
                  refine S_on rfl rfl hb60 ?_
                  refine S_in ?_
                  refine S_m (v := .ptr _ _) rfl ?_
                  refine S_nil ?_
                  refine S_on rfl rfl hb60 ?_
                  refine S_in ?_
                  refine S_nilc (v := .ptr _ _) rfl rfl ?_
                  refine S_nil ?_
                  refine S_on rfl rfl hb60 ?_
                  refine S_in ?_
                  refine S_faP rfl ty_fd_70_0 ty_sz_9 ?_
                  refine S_nil ?_
                  refine S_on rfl rfl hb60 ?_
                  refine S_in ?_
                  refine S_ldP (j := 0) ok rfl rfl rfl hq0 (p_one (v := .str p0.s) ty_ag_9 ty_sz_9 rfl) ?_
                  refine S_nil ?_
                  refine S_on rfl rfl hb60 ?_
                  refine S_in ?_
                  refine S_m (v := .int _ _) rfl ?_
                  refine S_nil ?_
                  refine S_on rfl rfl hb60 ?_
                  refine S_in ?_
                  refine S_ixS rfl rfl ty_st_9 hF (fun x63 _ hF => ?_)
                  refine S_nil ?_
                  refine S_on rfl rfl hb60 ?_
                  refine S_in ?_
                  refine S_bin rfl rfl (ev_leq ..) ?_
                  refine S_nil ?_
                  refine S_pickT (v := .bool _) rfl hb60 rfl ?_
                  refine S_nil ?_
                  refine ⟨_, hF, .hd (.refl _) ?_⟩
                  repeat (first | with_reducible exact WS.refl _ | refine WS.add ?_ rfl | exact WS.refl _)
                ·
                  refine S_off rfl rfl hb60 ?_
                  refine S_offD ?_
                  refine S_off rfl rfl hb60 ?_
                  refine S_offD ?_
                  refine S_off rfl rfl hb60 ?_
                  refine S_offD ?_
                  refine S_off rfl rfl hb60 ?_
                  refine S_offD ?_
                  refine S_off rfl rfl hb60 ?_
                  refine S_offD ?_
                  refine S_off rfl rfl hb60 ?_
                  refine S_offD ?_
                  refine S_off rfl rfl hb60 ?_
                  refine S_offD ?_
                  refine S_pickF (v := .bool _) rfl hb60 rfl ?_
                  refine S_nil ?_
                  refine ⟨_, hF, .hd (.refl _) ?_⟩
                  repeat (first | with_reducible exact WS.refl _ | refine WS.add ?_ rfl | exact WS.refl _)
                ·
                  refine S_nil ?_
                  refine C_if (b := v62) rfl hF (fun hb64 hF => ?_) (fun hb64 hF => ?_)
                  ·
                    refine WP_skip ?_
                    refine WP_block ?_
                    refine C_reg (mdl []) ?_
                    refine S_m (v := .int _ _) rfl ?_
                    refine S_bin rfl rfl (ev_add ..) ?_
                    refine S_a (v := .int _ _) rfl ?_
                    refine S_nil ?_
                    refine ih55 (IntKind.wrap .i64 (a51 + (1 : Int))) _ hF ?_
                    have hwo : WO ((q0, .cells [.str p0.s, .int .i64 p0.at_, mslO 2 b0_2 p0.f, .cplx .f64 p0.pen.1 p0.pen.2, .int .i64 p0.n, .bool p0.open_]) :: mo b0_2 cR_T_trace_Stroke (tagR (some b0_2r) p0.f) :: (b0_2r, .room) :: O) ((q0, .cells [.str p0.s, .int .i64 p0.at_, mslO 2 b0_2 p0.f, .cplx .f64 p0.pen.1 p0.pen.2, .int .i64 p0.n, .bool p0.open_]) :: mo b0_2 cR_T_trace_Stroke (tagR (some b0_2r) p0.f) :: (b0_2r, .room) :: O) := (.keep (.keep (.keep (.refl O))))
                    exact ⟨(hwo.spec ok).1, WS.mk' (.cons (.refl _) (.cons (.refl _) (.cons (.refl _) (.cons (.refl _) .nil)))) ok hwo⟩
                  ·
                    refine WP_exit ?_
                    simp only [Exit.sel, Exit.blk, Exit.jmp, if_true, if_false, reduceIte, Nat.reduceEqDiff, Nat.succ_ne_zero, Nat.zero_ne_one, Nat.one_ne_zero]
                    replace hF := hG53 _ (F_some hF)
                    have hwo : WO ((q0, .cells [.str p0.s, .int .i64 p0.at_, mslO 2 b0_2 p0.f, .cplx .f64 p0.pen.1 p0.pen.2, .int .i64 p0.n, .bool p0.open_]) :: mo b0_2 cR_T_trace_Stroke (tagR (some b0_2r) p0.f) :: (b0_2r, .room) :: O) ((q0, .cells [.str p0.s, .int .i64 p0.at_, mslO 2 b0_2 p0.f, .cplx .f64 p0.pen.1 p0.pen.2, .int .i64 p0.n, .bool p0.open_]) :: mo b0_2 cR_T_trace_Stroke (tagR (some b0_2r) p0.f) :: (b0_2r, .room) :: O) := (.keep (.keep (.keep (.refl O))))
                    exact ⟨a51, hF, (hwo.spec ok).1, WS.mk' (.cons (.refl _) (.cons (.refl _) (.cons (.refl _) .nil))) ok hwo⟩
          ·
            rintro a49 s' hF ⟨ok, hws⟩
            refine WP_ws hws ?_
            clear hws s'
            refine C_seq ?_
            refine C_seq ?_
            refine C_reg (mdl []) ?_
            refine S_m (v := .int _ _) rfl ?_
            refine S_m (v := .int _ _) rfl ?_
            refine S_bin rfl rfl (ev_eql ..) ?_
            refine S_m (v := .bool _) rfl ?_
            refine S_two (b := (a49 == a31)) 5 104 (.bool ((a49 == a31) || (decide ((IntKind.wrap .i64 (a31 + (7 : Int))) < a49)))) (fun hb65 => ?_) (fun hb65 => ?_) ?_
            ·
              refine S_off rfl rfl hb65 ?_
              refine S_offD ?_
              refine S_off rfl rfl hb65 ?_
              refine S_offD ?_
              refine S_off rfl rfl hb65 ?_
              refine S_offD ?_
              refine S_off rfl rfl hb65 ?_
              refine S_offD ?_
              refine S_pickT (v := .bool _) rfl hb65 rfl ?_
              refine S_nil ?_
              refine .hd (or_t hb65) ?_
              repeat (first | with_reducible exact WS.refl _ | refine WS.add ?_ rfl | exact WS.refl _)
            ·
              refine S_on rfl rfl hb65 ?_
              refine S_in ?_
              refine S_m (v := .int _ _) rfl ?_
              refine S_nil ?_
              refine S_on rfl rfl hb65 ?_
              refine S_in ?_
              refine S_m (v := .int _ _) rfl ?_
              refine S_nil ?_
              refine S_on rfl rfl hb65 ?_
              refine S_in ?_
              refine S_bin rfl rfl (ev_add ..) ?_
              refine S_nil ?_
              refine S_on rfl rfl hb65 ?_
              refine S_in ?_
              refine S_bin rfl rfl (ev_gtr ..) ?_
              refine S_nil ?_
              refine S_pickF (v := .bool _) rfl hb65 rfl ?_
              refine S_nil ?_
              refine .hd (or_f hb65) ?_
              repeat (first | with_reducible exact WS.refl _ | refine WS.add ?_ rfl | exact WS.refl _)
            refine S_nil ?_
            refine C_if (b := ((a49 == a31) || (decide ((IntKind.wrap .i64 (a31 + (7 : Int))) < a49)))) rfl hF (fun hb66 hF => ?_) (fun hb66 hF => ?_)
            ·
              refine C_seq ?_
              refine C_reg (mdl []) ?_
              refine S_m (v := .int _ _) rfl ?_
              refine S_m (v := .int _ _) rfl ?_
              refine S_a (v := .int _ _) rfl ?_
              refine S_a (v := .int _ _) rfl ?_
              refine S_a (v := .int _ _) rfl ?_
              refine S_nil ?_
              refine WP_ret ?_
              repeat (first | with_reducible refine Exit.sel_ret ?_ | with_reducible refine Exit.blk_ret ?_ | with_reducible refine Exit.jmp_ret ?_)
              have hwo : WO ((q0, .cells [.str p0.s, .int .i64 p0.at_, mslO 2 b0_2 p0.f, .cplx .f64 p0.pen.1 p0.pen.2, .int .i64 p0.n, .bool p0.open_]) :: mo b0_2 cR_T_trace_Stroke (tagR (some b0_2r) p0.f) :: (b0_2r, .room) :: O) ((q0, .cells [.str p0.s, .int .i64 p0.at_, mslO 2 b0_2 p0.f, .cplx .f64 p0.pen.1 p0.pen.2, .int .i64 p0.n, .bool p0.open_]) :: mo b0_2 cR_T_trace_Stroke (tagR (some b0_2r) p0.f) :: (b0_2r, .room) :: O) := (.keep (.keep (.keep (.refl O))))
              refine C_ret (fn := Tryd.f29) rfl (.tmp (v := .int .i64 (3 : Int)) rfl (.tmp (v := .int .i64 a8) rfl (.tmp (v := .int .i64 a8) rfl .nil))) ?_
              exact ⟨_, _, (.tupC (.cons (.refl _) (.cons (.refl _) (.cons (.refl _) (.nil))))), (hwo.spec ok).2.2, _, F_some hF, rfl, (hwo.spec ok).1, rfl⟩
            ·
              refine WP_skip ?_
              refine C_seq ?_
              refine C_reg (mdl []) ?_
              refine S_m (v := .int _ _) rfl ?_
              refine S_m (v := .int _ _) rfl ?_
              refine S_a (v := .int _ _) rfl ?_
              refine S_a (v := .int _ _) rfl ?_
              refine S_a (v := .int _ _) rfl ?_
              refine S_nil ?_
              refine WP_ret ?_
              repeat (first | with_reducible refine Exit.sel_ret ?_ | with_reducible refine Exit.blk_ret ?_ | with_reducible refine Exit.jmp_ret ?_)
              have hwo : WO ((q0, .cells [.str p0.s, .int .i64 p0.at_, mslO 2 b0_2 p0.f, .cplx .f64 p0.pen.1 p0.pen.2, .int .i64 p0.n, .bool p0.open_]) :: mo b0_2 cR_T_trace_Stroke (tagR (some b0_2r) p0.f) :: (b0_2r, .room) :: O) ((q0, .cells [.str p0.s, .int .i64 p0.at_, mslO 2 b0_2 p0.f, .cplx .f64 p0.pen.1 p0.pen.2, .int .i64 p0.n, .bool p0.open_]) :: mo b0_2 cR_T_trace_Stroke (tagR (some b0_2r) p0.f) :: (b0_2r, .room) :: O) := (.keep (.keep (.keep (.refl O))))
              refine C_ret (fn := Tryd.f29) rfl (.tmp (v := .int .i64 (2 : Int)) rfl (.tmp (v := .int .i64 a8) rfl (.tmp (v := .int .i64 a49) rfl .nil))) ?_
              exact ⟨_, _, (.tupC (.cons (.refl _) (.cons (.refl _) (.cons (.refl _) (.nil))))), (hwo.spec ok).2.2, _, F_some hF, rfl, (hwo.spec ok).1, rfl⟩
theorem F_trace_reader_look_ok {β : Type} {f0 : Int × Int × Int → Option β} {G : β → Prop} {R : D → Heap → Prop} {p0 : T_trace_reader} {q0 : Nat} {b0_2 : Nat} {b0_2r : Nat} (h : Heap) (O : List (Nat × AObj)) (hq0 : q0 ≠ 0) (zb0_2 : b0_2 = 0 → p0.f = []) (zb0_2r : b0_2r = 0 → p0.f = []) (ok : OK h ((q0, .cells [.str p0.s, .int .i64 p0.at_, mslO 2 b0_2 p0.f, .cplx .f64 p0.pen.1 p0.pen.2, .int .i64 p0.n, .bool p0.open_]) :: mo b0_2 cR_T_trace_Stroke (tagR (some b0_2r) p0.f) :: (b0_2r, .room) :: O)) (hF : OptP ((F_trace_reader_look p0).bind f0) G) (hk : ∀ r, F_trace_reader_look p0 = some r → OK h ((q0, .cells [.str p0.s, .int .i64 p0.at_, mslO 2 b0_2 p0.f, .cplx .f64 p0.pen.1 p0.pen.2, .int .i64 p0.n, .bool p0.open_]) :: mo b0_2 cR_T_trace_Stroke (tagR (some b0_2r) p0.f) :: (b0_2r, .room) :: O) → OptP (f0 r) G → R (.tup [.int .i64 r.1, .int .i64 r.2.1, .int .i64 r.2.2]) (Hp h ((q0, .cells [.str p0.s, .int .i64 p0.at_, mslO 2 b0_2 p0.f, .cplx .f64 p0.pen.1 p0.pen.2, .int .i64 p0.n, .bool p0.open_]) :: mo b0_2 cR_T_trace_Stroke (tagR (some b0_2r) p0.f) :: (b0_2r, .room) :: O))) : CallsA Tryd.prog 29 [.ptr q0 0] (Hp h ((q0, .cells [.str p0.s, .int .i64 p0.at_, mslO 2 b0_2 p0.f, .cplx .f64 p0.pen.1 p0.pen.2, .int .i64 p0.n, .bool p0.open_]) :: mo b0_2 cR_T_trace_Stroke (tagR (some b0_2r) p0.f) :: (b0_2r, .room) :: O)) R := by
  obtain ⟨r0, hr, hF⟩ := F_bind hF
  refine (F_trace_reader_look_w (G := fun r => r = r0) p0 q0 b0_2 b0_2r h O hq0 zb0_2 zb0_2r ok ⟨r0, hr, rfl⟩).mono ?_
  rintro _ _ ⟨r, rfl, rfl, ok', rfl⟩
  exact hk _ hr ok' hF
theorem F_trace_reader_number_w (p0 : T_trace_reader) (q0 : Nat) (b0_2 : Nat) (b0_2r : Nat) {G : (Nat × Int × Bool) × T_trace_reader → Prop} (h : Heap) (O : List (Nat × AObj)) (hq0 : q0 ≠ 0) (zb0_2 : b0_2 = 0 → p0.f = []) (zb0_2r : b0_2r = 0 → p0.f = []) (ok : OK h ((q0, .cells [.str p0.s, .int .i64 p0.at_, mslO 2 b0_2 p0.f, .cplx .f64 p0.pen.1 p0.pen.2, .int .i64 p0.n, .bool p0.open_]) :: mo b0_2 cR_T_trace_Stroke (tagR (some b0_2r) p0.f) :: (b0_2r, .room) :: O)) (hF : OptP (F_trace_reader_number p0) G) : CallsA Tryd.prog 52 [.ptr q0 0] (Hp h ((q0, .cells [.str p0.s, .int .i64 p0.at_, mslO 2 b0_2 p0.f, .cplx .f64 p0.pen.1 p0.pen.2, .int .i64 p0.n, .bool p0.open_]) :: mo b0_2 cR_T_trace_Stroke (tagR (some b0_2r) p0.f) :: (b0_2r, .room) :: O)) fun d h' => ∃ r, G r ∧ d = .tup [.float .f64 r.1.1, .int .i64 r.1.2.1, .bool r.1.2.2] ∧ ∃ b0_2' b0_2r' : Nat, (b0_2' = 0 → r.2.f = []) ∧ (b0_2r' = 0 → r.2.f = []) ∧ OK h ((q0, .cells [.str r.2.s, .int .i64 r.2.at_, mslO 2 b0_2' r.2.f, .cplx .f64 r.2.pen.1 r.2.pen.2, .int .i64 r.2.n, .bool r.2.open_]) :: mo b0_2' cR_T_trace_Stroke (tagR (some b0_2r') r.2.f) :: (b0_2r', .room) :: O) ∧ h' = Hp h ((q0, .cells [.str r.2.s, .int .i64 r.2.at_, mslO 2 b0_2' r.2.f, .cplx .f64 r.2.pen.1 r.2.pen.2, .int .i64 r.2.n, .bool r.2.open_]) :: mo b0_2' cR_T_trace_Stroke (tagR (some b0_2r') r.2.f) :: (b0_2r', .room) :: O) := by
  refine CallsA.ret ?_
  refine C_bodyO Tryd.func52 rfl en_52 Tryd.ntmps52 rfl ?_
  rw [F_trace_reader_number] at hF
  refine C_seq ?_
  refine C_reg (mdl []) ?_
  refine S_a (v := .float _ _) rfl ?_
  refine S_a (v := .int _ _) rfl ?_
  refine S_a (v := .bool _) rfl ?_
  refine S_nil ?_
  refine C_seq ?_
  refine C_reg (mdl []) ?_
  refine S_m (v := .ptr _ _) rfl ?_
  obtain ⟨hpe, ok⟩ := Hp_pull 2 ok rfl
  rw [hpe]; clear hpe
  obtain ⟨hpe, ok⟩ := Hp_pull 2 ok rfl
  rw [hpe]; clear hpe
  obtain ⟨hpe, ok⟩ := Hp_pull 2 ok rfl
  rw [hpe]; clear hpe
  refine S_call (F_trace_reader_look_ok (p0 := p0) (q0 := q0) (b0_2 := b0_2) (b0_2r := b0_2r) h (O) hq0 zb0_2 zb0_2r ok hF fun x1 _  ok hF => ?_) (.cons (.refl _) (.nil))
  refine S_m (v := .tup _) rfl ?_
  refine S_ext rfl rfl ?_
  refine S_ext rfl rfl ?_
  refine S_ext rfl rfl ?_
  refine S_a (v := .int _ _) rfl ?_
  refine S_a (v := .int _ _) rfl ?_
  refine S_a (v := .int _ _) rfl ?_
  refine S_nil ?_
  refine C_seq ?_
  refine C_seq ?_
  refine C_reg (mdl []) ?_
  refine S_m (v := .int _ _) rfl ?_
  refine S_bin rfl rfl (ev_neq ..) ?_
  refine S_nil ?_
  refine C_if (b := (x1.1 != (2 : Int))) rfl hF (fun hb2 hF => ?_) (fun hb2 hF => ?_)
  ·
    refine C_seq ?_
    refine C_reg (mdl []) ?_
    refine S_m (v := .int _ _) rfl ?_
    refine S_a (v := .float _ _) rfl ?_
    refine S_a (v := .int _ _) rfl ?_
    refine S_a (v := .bool _) rfl ?_
    refine S_nil ?_
    refine WP_ret ?_
    repeat (first | with_reducible refine Exit.sel_ret ?_ | with_reducible refine Exit.blk_ret ?_ | with_reducible refine Exit.jmp_ret ?_)
    have hwo : WO ((q0, .cells [.str p0.s, .int .i64 p0.at_, mslO 2 b0_2 p0.f, .cplx .f64 p0.pen.1 p0.pen.2, .int .i64 p0.n, .bool p0.open_]) :: mo b0_2 cR_T_trace_Stroke (tagR (some b0_2r) p0.f) :: (b0_2r, .room) :: O) ((q0, .cells [.str p0.s, .int .i64 p0.at_, mslO 2 b0_2 p0.f, .cplx .f64 p0.pen.1 p0.pen.2, .int .i64 p0.n, .bool p0.open_]) :: mo b0_2 cR_T_trace_Stroke (tagR (some b0_2r) p0.f) :: (b0_2r, .room) :: O) := (.keep (.keep (.keep (.refl O))))
    refine C_ret (fn := Tryd.f52) rfl (.tmp (v := .float .f64 (0 : Nat)) rfl (.tmp (v := .int .i64 x1.2.1) rfl (.tmp (v := .bool false) rfl .nil))) ?_
    exact ⟨_, _, (.tupC (.cons (.refl _) (.cons (.refl _) (.cons (.refl _) (.nil))))), (hwo.spec ok).2.2, _, F_some hF, rfl, b0_2, b0_2r, zb0_2, zb0_2r, (hwo.spec ok).1, rfl⟩
  ·
    refine WP_skip ?_
    refine C_seq ?_
    refine C_reg (mdl []) ?_
    refine S_m (v := .ptr _ _) rfl ?_
    refine S_nilc (v := .ptr _ _) rfl rfl ?_
    refine S_faP rfl ty_fd_70_0 ty_sz_9 ?_
    refine S_ldP (j := 0) ok rfl rfl rfl hq0 (p_one (v := .str p0.s) ty_ag_9 ty_sz_9 rfl) ?_
    refine S_m (v := .int _ _) rfl ?_
    refine S_m (v := .int _ _) rfl ?_
    refine S_slS rfl ty_st_9 (bd_at rfl) (bd_at rfl) hF (fun x3 _ hF => ?_)
    refine S_call (L_Atoi_ok _ hF fun x4 _ hF => ?_) (.cons (.refl _) (.nil))
    refine S_m (v := .tup _) rfl ?_
    refine S_ext rfl rfl ?_
    refine S_ext rfl rfl ?_
    refine S_a (v := .int _ _) rfl ?_
    refine S_a (v := ifD _) rfl ?_
    refine S_nil ?_
    refine C_seq ?_
    refine C_reg (mdl []) ?_
    refine S_m (v := .ptr _ _) rfl ?_
    refine S_m (v := .int _ _) rfl ?_
    refine S_nilc (v := .ptr _ _) rfl rfl ?_
    refine S_faP rfl ty_fd_70_1 ty_sz_3 ?_
    refine S_st (j := 0) (cs' := [.str p0.s, .int .i64 x1.2.2, mslO 2 b0_2 p0.f, .cplx .f64 p0.pen.1 p0.pen.2, .int .i64 p0.n, .bool p0.open_]) ok rfl rfl rfl hq0 rfl ty_sz_3 rfl rfl (fun ok => ?_)
    refine S_nil ?_
    refine C_seq ?_
    refine C_reg (mdl []) ?_
    refine S_m (v := .int _ _) rfl ?_
    refine S_conv rfl (e_i2f ty_ki_40 ty_fa_40 ty_un_3) ?_
    refine S_m (v := .int _ _) rfl ?_
    refine S_a (v := .float _ _) rfl ?_
    refine S_a (v := .int _ _) rfl ?_
    refine S_a (v := .bool _) rfl ?_
    refine S_nil ?_
    refine WP_ret ?_
    repeat (first | with_reducible refine Exit.sel_ret ?_ | with_reducible refine Exit.blk_ret ?_ | with_reducible refine Exit.jmp_ret ?_)
    have hwo : WO ((q0, .cells [.str p0.s, .int .i64 x1.2.2, mslO 2 b0_2 p0.f, .cplx .f64 p0.pen.1 p0.pen.2, .int .i64 p0.n, .bool p0.open_]) :: mo b0_2 cR_T_trace_Stroke (tagR (some b0_2r) p0.f) :: (b0_2r, .room) :: O) ((q0, .cells [.str p0.s, .int .i64 x1.2.2, mslO 2 b0_2 p0.f, .cplx .f64 p0.pen.1 p0.pen.2, .int .i64 p0.n, .bool p0.open_]) :: mo b0_2 cR_T_trace_Stroke (tagR (some b0_2r) p0.f) :: (b0_2r, .room) :: O) := (.keep (.keep (.keep (.refl O))))
    refine C_ret (fn := Tryd.f52) rfl (.tmp (v := .float .f64 (i2f x4.1)) rfl (.tmp (v := .int .i64 x1.2.1) rfl (.tmp (v := .bool true) rfl .nil))) ?_
    exact ⟨_, _, (.tupC (.cons (.refl _) (.cons (.refl _) (.cons (.refl _) (.nil))))), (hwo.spec ok).2.2, _, F_some hF, rfl, b0_2, b0_2r, zb0_2, zb0_2r, (hwo.spec ok).1, rfl⟩
theorem F_trace_reader_number_ok {β : Type} {f0 : (Nat × Int × Bool) × T_trace_reader → Option β} {G : β → Prop} {R : D → Heap → Prop} {p0 : T_trace_reader} {q0 : Nat} {b0_2 : Nat} {b0_2r : Nat} (h : Heap) (O : List (Nat × AObj)) (hq0 : q0 ≠ 0) (zb0_2 : b0_2 = 0 → p0.f = []) (zb0_2r : b0_2r = 0 → p0.f = []) (ok : OK h ((q0, .cells [.str p0.s, .int .i64 p0.at_, mslO 2 b0_2 p0.f, .cplx .f64 p0.pen.1 p0.pen.2, .int .i64 p0.n, .bool p0.open_]) :: mo b0_2 cR_T_trace_Stroke (tagR (some b0_2r) p0.f) :: (b0_2r, .room) :: O)) (hF : OptP ((F_trace_reader_number p0).bind f0) G) (hk : ∀ r b0_2' b0_2r', F_trace_reader_number p0 = some r → (b0_2' = 0 → r.2.f = []) → (b0_2r' = 0 → r.2.f = []) → OK h ((q0, .cells [.str r.2.s, .int .i64 r.2.at_, mslO 2 b0_2' r.2.f, .cplx .f64 r.2.pen.1 r.2.pen.2, .int .i64 r.2.n, .bool r.2.open_]) :: mo b0_2' cR_T_trace_Stroke (tagR (some b0_2r') r.2.f) :: (b0_2r', .room) :: O) → OptP (f0 r) G → R (.tup [.float .f64 r.1.1, .int .i64 r.1.2.1, .bool r.1.2.2]) (Hp h ((q0, .cells [.str r.2.s, .int .i64 r.2.at_, mslO 2 b0_2' r.2.f, .cplx .f64 r.2.pen.1 r.2.pen.2, .int .i64 r.2.n, .bool r.2.open_]) :: mo b0_2' cR_T_trace_Stroke (tagR (some b0_2r') r.2.f) :: (b0_2r', .room) :: O))) : CallsA Tryd.prog 52 [.ptr q0 0] (Hp h ((q0, .cells [.str p0.s, .int .i64 p0.at_, mslO 2 b0_2 p0.f, .cplx .f64 p0.pen.1 p0.pen.2, .int .i64 p0.n, .bool p0.open_]) :: mo b0_2 cR_T_trace_Stroke (tagR (some b0_2r) p0.f) :: (b0_2r, .room) :: O)) R := by
  obtain ⟨r0, hr, hF⟩ := F_bind hF
  refine (F_trace_reader_number_w (G := fun r => r = r0) p0 q0 b0_2 b0_2r h O hq0 zb0_2 zb0_2r ok ⟨r0, hr, rfl⟩).mono ?_
  rintro _ _ ⟨r, rfl, rfl, b0_2', b0_2r', y0, y1, ok', rfl⟩
  exact hk _ _ _ hr y0 y1 ok' hF
theorem F_trace_reader_spot_w (p0 : T_trace_reader) (p1 : Int) (q0 : Nat) (b0_2 : Nat) (b0_2r : Nat) {G : ((Nat × Nat) × Int × Bool) × T_trace_reader → Prop} (h : Heap) (O : List (Nat × AObj)) (hq0 : q0 ≠ 0) (zb0_2 : b0_2 = 0 → p0.f = []) (zb0_2r : b0_2r = 0 → p0.f = []) (ok : OK h ((q0, .cells [.str p0.s, .int .i64 p0.at_, mslO 2 b0_2 p0.f, .cplx .f64 p0.pen.1 p0.pen.2, .int .i64 p0.n, .bool p0.open_]) :: mo b0_2 cR_T_trace_Stroke (tagR (some b0_2r) p0.f) :: (b0_2r, .room) :: O)) (hF : OptP (F_trace_reader_spot p0 p1) G) : CallsA Tryd.prog 43 [.ptr q0 0, .int .u8 p1] (Hp h ((q0, .cells [.str p0.s, .int .i64 p0.at_, mslO 2 b0_2 p0.f, .cplx .f64 p0.pen.1 p0.pen.2, .int .i64 p0.n, .bool p0.open_]) :: mo b0_2 cR_T_trace_Stroke (tagR (some b0_2r) p0.f) :: (b0_2r, .room) :: O)) fun d h' => ∃ r, G r ∧ d = .tup [.cplx .f64 r.1.1.1 r.1.1.2, .int .i64 r.1.2.1, .bool r.1.2.2] ∧ ∃ b0_2' b0_2r' : Nat, (b0_2' = 0 → r.2.f = []) ∧ (b0_2r' = 0 → r.2.f = []) ∧ OK h ((q0, .cells [.str r.2.s, .int .i64 r.2.at_, mslO 2 b0_2' r.2.f, .cplx .f64 r.2.pen.1 r.2.pen.2, .int .i64 r.2.n, .bool r.2.open_]) :: mo b0_2' cR_T_trace_Stroke (tagR (some b0_2r') r.2.f) :: (b0_2r', .room) :: O) ∧ h' = Hp h ((q0, .cells [.str r.2.s, .int .i64 r.2.at_, mslO 2 b0_2' r.2.f, .cplx .f64 r.2.pen.1 r.2.pen.2, .int .i64 r.2.n, .bool r.2.open_]) :: mo b0_2' cR_T_trace_Stroke (tagR (some b0_2r') r.2.f) :: (b0_2r', .room) :: O) := by
  refine CallsA.ret ?_
  refine C_bodyO Tryd.func43 rfl en_43 Tryd.ntmps43 rfl ?_
  rw [F_trace_reader_spot] at hF
  refine C_seq ?_
  refine C_reg (mdl []) ?_
  refine S_a (v := .cplx _ _ _) rfl ?_
  refine S_a (v := .int _ _) rfl ?_
  refine S_a (v := .bool _) rfl ?_
  refine S_nil ?_
  refine C_seq ?_
  refine C_reg (mdl []) ?_
  refine S_m (v := .ptr _ _) rfl ?_
  obtain ⟨hpe, ok⟩ := Hp_pull 2 ok rfl
  rw [hpe]; clear hpe
  obtain ⟨hpe, ok⟩ := Hp_pull 2 ok rfl
  rw [hpe]; clear hpe
  obtain ⟨hpe, ok⟩ := Hp_pull 2 ok rfl
  rw [hpe]; clear hpe
  refine S_call (F_trace_reader_number_ok (p0 := p0) (q0 := q0) (b0_2 := b0_2) (b0_2r := b0_2r) h (O) hq0 zb0_2 zb0_2r ok hF fun x1 u2 r3 _ zu2 zr3 ok hF => ?_) (.cons (.refl _) (.nil))
  refine S_m (v := .tup _) rfl ?_
  refine S_ext rfl rfl ?_
  refine S_ext rfl rfl ?_
  refine S_ext rfl rfl ?_
  refine S_a (v := .float _ _) rfl ?_
  refine S_a (v := .int _ _) rfl ?_
  refine S_a (v := .bool _) rfl ?_
  refine S_nil ?_
  refine C_seq ?_
  refine C_seq ?_
  refine C_reg (mdl []) ?_
  refine S_m (v := .bool _) rfl ?_
  refine S_un rfl (ev_not _) ?_
  refine S_nil ?_
  refine C_if (b := (!x1.1.2.2)) rfl hF (fun hb4 hF => ?_) (fun hb4 hF => ?_)
  ·
    refine C_seq ?_
    refine C_reg (mdl []) ?_
    refine S_m (v := .int _ _) rfl ?_
    refine S_a (v := .cplx _ _ _) rfl ?_
    refine S_a (v := .int _ _) rfl ?_
    refine S_a (v := .bool _) rfl ?_
    refine S_nil ?_
    refine WP_ret ?_
    repeat (first | with_reducible refine Exit.sel_ret ?_ | with_reducible refine Exit.blk_ret ?_ | with_reducible refine Exit.jmp_ret ?_)
    have hwo : WO ((q0, .cells [.str x1.2.s, .int .i64 x1.2.at_, mslO 2 u2 x1.2.f, .cplx .f64 x1.2.pen.1 x1.2.pen.2, .int .i64 x1.2.n, .bool x1.2.open_]) :: mo u2 cR_T_trace_Stroke (tagR (some r3) x1.2.f) :: (r3, .room) :: O) ((q0, .cells [.str x1.2.s, .int .i64 x1.2.at_, mslO 2 u2 x1.2.f, .cplx .f64 x1.2.pen.1 x1.2.pen.2, .int .i64 x1.2.n, .bool x1.2.open_]) :: mo u2 cR_T_trace_Stroke (tagR (some r3) x1.2.f) :: (r3, .room) :: O) := (.keep (.keep (.keep (.refl O))))
    refine C_ret (fn := Tryd.f43) rfl (.tmp (v := .cplx .f64 ((0, 0) : Nat × Nat).1 ((0, 0) : Nat × Nat).2) rfl (.tmp (v := .int .i64 x1.1.2.1) rfl (.tmp (v := .bool false) rfl .nil))) ?_
    exact ⟨_, _, (.tupC (.cons (.refl _) (.cons (.refl _) (.cons (.refl _) (.nil))))), (hwo.spec ok).2.2, _, F_some hF, rfl, u2, r3, zu2, zr3, (hwo.spec ok).1, rfl⟩
  ·
    refine WP_skip ?_
    refine C_seq ?_
    refine C_reg (mdl []) ?_
    refine S_m (v := .float _ _) rfl ?_
    refine S_cplx (a := x1.1.1) (b := (0 : Nat)) rfl rfl ?_
    refine S_a (v := .cplx _ _ _) rfl ?_
    refine S_nil ?_
    refine C_seq ?_
    refine C_seq ?_
    refine C_reg (mdl []) ?_
    refine S_m (v := .int _ _) rfl ?_
    refine S_nil ?_
    refine WP_block ?_
    refine C_seq ?_
    refine C_reg (mdl []) ?_
    refine S_bin rfl rfl (ev_eql ..) ?_
    refine S_a (v := .bool _) rfl ?_
    refine S_nil ?_
    refine C_if (b := (p1 == (72 : Int))) rfl hF (fun hb5 hF => ?_) (fun hb5 hF => ?_)
    ·
      refine C_seq ?_
      refine C_reg (mdl []) ?_
      refine S_m (v := .float _ _) rfl ?_
      refine S_m (v := .ptr _ _) rfl ?_
      refine S_nilc (v := .ptr _ _) rfl rfl ?_
      refine S_faP rfl ty_fd_70_3 ty_sz_45 ?_
      refine S_ldP (j := 0) ok rfl rfl rfl hq0 (p_one (v := .cplx .f64 x1.2.pen.1 x1.2.pen.2) ty_ag_45 ty_sz_45 rfl) ?_
      refine S_imag (a := x1.2.pen) rfl ?_
      refine S_cplx (a := x1.1.1) (b := x1.2.pen.2) rfl rfl ?_
      refine S_m (v := .int _ _) rfl ?_
      refine S_a (v := .cplx _ _ _) rfl ?_
      refine S_a (v := .int _ _) rfl ?_
      refine S_a (v := .bool _) rfl ?_
      refine S_nil ?_
      refine WP_ret ?_
      repeat (first | with_reducible refine Exit.sel_ret ?_ | with_reducible refine Exit.blk_ret ?_ | with_reducible refine Exit.jmp_ret ?_)
      have hwo : WO ((q0, .cells [.str x1.2.s, .int .i64 x1.2.at_, mslO 2 u2 x1.2.f, .cplx .f64 x1.2.pen.1 x1.2.pen.2, .int .i64 x1.2.n, .bool x1.2.open_]) :: mo u2 cR_T_trace_Stroke (tagR (some r3) x1.2.f) :: (r3, .room) :: O) ((q0, .cells [.str x1.2.s, .int .i64 x1.2.at_, mslO 2 u2 x1.2.f, .cplx .f64 x1.2.pen.1 x1.2.pen.2, .int .i64 x1.2.n, .bool x1.2.open_]) :: mo u2 cR_T_trace_Stroke (tagR (some r3) x1.2.f) :: (r3, .room) :: O) := (.keep (.keep (.keep (.refl O))))
      refine C_ret (fn := Tryd.f43) rfl (.tmp (v := .cplx .f64 ((x1.1.1, x1.2.pen.2) : Nat × Nat).1 ((x1.1.1, x1.2.pen.2) : Nat × Nat).2) rfl (.tmp (v := .int .i64 x1.1.2.1) rfl (.tmp (v := .bool true) rfl .nil))) ?_
      exact ⟨_, _, (.tupC (.cons (.refl _) (.cons (.refl _) (.cons (.refl _) (.nil))))), (hwo.spec ok).2.2, _, F_some hF, rfl, u2, r3, zu2, zr3, (hwo.spec ok).1, rfl⟩
    ·
      refine C_seq ?_
      refine C_reg (mdl []) ?_
      refine S_bin rfl rfl (ev_eql ..) ?_
      refine S_a (v := .bool _) rfl ?_
      refine S_nil ?_
      refine C_if (b := (p1 == (86 : Int))) rfl hF (fun hb6 hF => ?_) (fun hb6 hF => ?_)
      ·
        refine C_seq ?_
        refine C_reg (mdl []) ?_
        refine S_m (v := .ptr _ _) rfl ?_
        refine S_nilc (v := .ptr _ _) rfl rfl ?_
        refine S_faP rfl ty_fd_70_3 ty_sz_45 ?_
        refine S_ldP (j := 0) ok rfl rfl rfl hq0 (p_one (v := .cplx .f64 x1.2.pen.1 x1.2.pen.2) ty_ag_45 ty_sz_45 rfl) ?_
        refine S_real (a := x1.2.pen) rfl ?_
        refine S_m (v := .float _ _) rfl ?_
        refine S_cplx (a := x1.2.pen.1) (b := x1.1.1) rfl rfl ?_
        refine S_m (v := .int _ _) rfl ?_
        refine S_a (v := .cplx _ _ _) rfl ?_
        refine S_a (v := .int _ _) rfl ?_
        refine S_a (v := .bool _) rfl ?_
        refine S_nil ?_
        refine WP_ret ?_
        repeat (first | with_reducible refine Exit.sel_ret ?_ | with_reducible refine Exit.blk_ret ?_ | with_reducible refine Exit.jmp_ret ?_)
        have hwo : WO ((q0, .cells [.str x1.2.s, .int .i64 x1.2.at_, mslO 2 u2 x1.2.f, .cplx .f64 x1.2.pen.1 x1.2.pen.2, .int .i64 x1.2.n, .bool x1.2.open_]) :: mo u2 cR_T_trace_Stroke (tagR (some r3) x1.2.f) :: (r3, .room) :: O) ((q0, .cells [.str x1.2.s, .int .i64 x1.2.at_, mslO 2 u2 x1.2.f, .cplx .f64 x1.2.pen.1 x1.2.pen.2, .int .i64 x1.2.n, .bool x1.2.open_]) :: mo u2 cR_T_trace_Stroke (tagR (some r3) x1.2.f) :: (r3, .room) :: O) := (.keep (.keep (.keep (.refl O))))
        refine C_ret (fn := Tryd.f43) rfl (.tmp (v := .cplx .f64 ((x1.2.pen.1, x1.1.1) : Nat × Nat).1 ((x1.2.pen.1, x1.1.1) : Nat × Nat).2) rfl (.tmp (v := .int .i64 x1.1.2.1) rfl (.tmp (v := .bool true) rfl .nil))) ?_
        exact ⟨_, _, (.tupC (.cons (.refl _) (.cons (.refl _) (.cons (.refl _) (.nil))))), (hwo.spec ok).2.2, _, F_some hF, rfl, u2, r3, zu2, zr3, (hwo.spec ok).1, rfl⟩
      ·
        refine C_seq ?_
        refine C_reg (mdl []) ?_
        refine S_bin rfl rfl (ev_eql ..) ?_
        refine S_a (v := .bool _) rfl ?_
        refine S_nil ?_
        refine C_if (b := (p1 == (118 : Int))) rfl hF (fun hb7 hF => ?_) (fun hb7 hF => ?_)
        ·
          refine C_seq ?_
          refine C_reg (mdl []) ?_
          refine S_m (v := .ptr _ _) rfl ?_
          refine S_nilc (v := .ptr _ _) rfl rfl ?_
          refine S_faP rfl ty_fd_70_3 ty_sz_45 ?_
          refine S_ldP (j := 0) ok rfl rfl rfl hq0 (p_one (v := .cplx .f64 x1.2.pen.1 x1.2.pen.2) ty_ag_45 ty_sz_45 rfl) ?_
          refine S_m (v := .float _ _) rfl ?_
          refine S_cplx (a := (0 : Nat)) (b := x1.1.1) rfl rfl ?_
          refine S_cadd (a := x1.2.pen) (b := (((0 : Nat), x1.1.1) : Nat × Nat)) rfl rfl hF (fun x8 _ hF => ?_)
          refine S_m (v := .int _ _) rfl ?_
          refine S_a (v := .cplx _ _ _) rfl ?_
          refine S_a (v := .int _ _) rfl ?_
          refine S_a (v := .bool _) rfl ?_
          refine S_nil ?_
          refine WP_ret ?_
          repeat (first | with_reducible refine Exit.sel_ret ?_ | with_reducible refine Exit.blk_ret ?_ | with_reducible refine Exit.jmp_ret ?_)
          have hwo : WO ((q0, .cells [.str x1.2.s, .int .i64 x1.2.at_, mslO 2 u2 x1.2.f, .cplx .f64 x1.2.pen.1 x1.2.pen.2, .int .i64 x1.2.n, .bool x1.2.open_]) :: mo u2 cR_T_trace_Stroke (tagR (some r3) x1.2.f) :: (r3, .room) :: O) ((q0, .cells [.str x1.2.s, .int .i64 x1.2.at_, mslO 2 u2 x1.2.f, .cplx .f64 x1.2.pen.1 x1.2.pen.2, .int .i64 x1.2.n, .bool x1.2.open_]) :: mo u2 cR_T_trace_Stroke (tagR (some r3) x1.2.f) :: (r3, .room) :: O) := (.keep (.keep (.keep (.refl O))))
          refine C_ret (fn := Tryd.f43) rfl (.tmp (v := .cplx .f64 x8.1 x8.2) rfl (.tmp (v := .int .i64 x1.1.2.1) rfl (.tmp (v := .bool true) rfl .nil))) ?_
          exact ⟨_, _, (.tupC (.cons (.refl _) (.cons (.refl _) (.cons (.refl _) (.nil))))), (hwo.spec ok).2.2, _, F_some hF, rfl, u2, r3, zu2, zr3, (hwo.spec ok).1, rfl⟩
        ·
          refine C_seq ?_
          refine C_reg (mdl []) ?_
          refine S_bin rfl rfl (ev_eql ..) ?_
          refine S_a (v := .bool _) rfl ?_
          refine S_nil ?_
          refine C_if (b := (p1 == (104 : Int))) rfl hF (fun hb9 hF => ?_) (fun hb9 hF => ?_)
          ·
            refine C_seq ?_
            refine C_reg (mdl []) ?_
            refine S_m (v := .ptr _ _) rfl ?_
            refine S_nilc (v := .ptr _ _) rfl rfl ?_
            refine S_faP rfl ty_fd_70_3 ty_sz_45 ?_
            refine S_ldP (j := 0) ok rfl rfl rfl hq0 (p_one (v := .cplx .f64 x1.2.pen.1 x1.2.pen.2) ty_ag_45 ty_sz_45 rfl) ?_
            refine S_m (v := .cplx _ _ _) rfl ?_
            refine S_cadd (a := x1.2.pen) (b := ((x1.1.1, (0 : Nat)) : Nat × Nat)) rfl rfl hF (fun x10 _ hF => ?_)
            refine S_m (v := .int _ _) rfl ?_
            refine S_a (v := .cplx _ _ _) rfl ?_
            refine S_a (v := .int _ _) rfl ?_
            refine S_a (v := .bool _) rfl ?_
            refine S_nil ?_
            refine WP_ret ?_
            repeat (first | with_reducible refine Exit.sel_ret ?_ | with_reducible refine Exit.blk_ret ?_ | with_reducible refine Exit.jmp_ret ?_)
            have hwo : WO ((q0, .cells [.str x1.2.s, .int .i64 x1.2.at_, mslO 2 u2 x1.2.f, .cplx .f64 x1.2.pen.1 x1.2.pen.2, .int .i64 x1.2.n, .bool x1.2.open_]) :: mo u2 cR_T_trace_Stroke (tagR (some r3) x1.2.f) :: (r3, .room) :: O) ((q0, .cells [.str x1.2.s, .int .i64 x1.2.at_, mslO 2 u2 x1.2.f, .cplx .f64 x1.2.pen.1 x1.2.pen.2, .int .i64 x1.2.n, .bool x1.2.open_]) :: mo u2 cR_T_trace_Stroke (tagR (some r3) x1.2.f) :: (r3, .room) :: O) := (.keep (.keep (.keep (.refl O))))
            refine C_ret (fn := Tryd.f43) rfl (.tmp (v := .cplx .f64 x10.1 x10.2) rfl (.tmp (v := .int .i64 x1.1.2.1) rfl (.tmp (v := .bool true) rfl .nil))) ?_
            exact ⟨_, _, (.tupC (.cons (.refl _) (.cons (.refl _) (.cons (.refl _) (.nil))))), (hwo.spec ok).2.2, _, F_some hF, rfl, u2, r3, zu2, zr3, (hwo.spec ok).1, rfl⟩
          ·
            refine WP_skip ?_
            refine C_seq ?_
            refine C_reg (mdl []) ?_
            refine S_m (v := .ptr _ _) rfl ?_
            obtain ⟨hpe, ok⟩ := Hp_pull 2 ok rfl
            rw [hpe]; clear hpe
            obtain ⟨hpe, ok⟩ := Hp_pull 2 ok rfl
            rw [hpe]; clear hpe
            obtain ⟨hpe, ok⟩ := Hp_pull 2 ok rfl
            rw [hpe]; clear hpe
            refine S_call (F_trace_reader_number_ok (p0 := x1.2) (q0 := q0) (b0_2 := u2) (b0_2r := r3) h (O) hq0 zu2 zr3 ok hF fun x11 u12 r13 _ zu12 zr13 ok hF => ?_) (.cons (.refl _) (.nil))
            refine S_m (v := .tup _) rfl ?_
            refine S_ext rfl rfl ?_
            refine S_ext rfl rfl ?_
            refine S_ext rfl rfl ?_
            refine S_a (v := .float _ _) rfl ?_
            refine S_a (v := .int _ _) rfl ?_
            refine S_a (v := .bool _) rfl ?_
            refine S_nil ?_
            refine C_seq ?_
            refine C_seq ?_
            refine C_reg (mdl []) ?_
            refine S_m (v := .bool _) rfl ?_
            refine S_un rfl (ev_not _) ?_
            refine S_nil ?_
            refine C_if (b := (!x11.1.2.2)) rfl hF (fun hb14 hF => ?_) (fun hb14 hF => ?_)
            ·
              refine C_seq ?_
              refine C_reg (mdl []) ?_
              refine S_m (v := .int _ _) rfl ?_
              refine S_bin rfl rfl (ev_sub ..) ?_
              refine S_a (v := .cplx _ _ _) rfl ?_
              refine S_a (v := .int _ _) rfl ?_
              refine S_a (v := .bool _) rfl ?_
              refine S_nil ?_
              refine WP_ret ?_
              repeat (first | with_reducible refine Exit.sel_ret ?_ | with_reducible refine Exit.blk_ret ?_ | with_reducible refine Exit.jmp_ret ?_)
              have hwo : WO ((q0, .cells [.str x11.2.s, .int .i64 x11.2.at_, mslO 2 u12 x11.2.f, .cplx .f64 x11.2.pen.1 x11.2.pen.2, .int .i64 x11.2.n, .bool x11.2.open_]) :: mo u12 cR_T_trace_Stroke (tagR (some r13) x11.2.f) :: (r13, .room) :: O) ((q0, .cells [.str x11.2.s, .int .i64 x11.2.at_, mslO 2 u12 x11.2.f, .cplx .f64 x11.2.pen.1 x11.2.pen.2, .int .i64 x11.2.n, .bool x11.2.open_]) :: mo u12 cR_T_trace_Stroke (tagR (some r13) x11.2.f) :: (r13, .room) :: O) := (.keep (.keep (.keep (.refl O))))
              refine C_ret (fn := Tryd.f43) rfl (.tmp (v := .cplx .f64 ((0, 0) : Nat × Nat).1 ((0, 0) : Nat × Nat).2) rfl (.tmp (v := .int .i64 (IntKind.wrap .i64 ((-1 : Int) - x11.1.2.1))) rfl (.tmp (v := .bool false) rfl .nil))) ?_
              exact ⟨_, _, (.tupC (.cons (.refl _) (.cons (.refl _) (.cons (.refl _) (.nil))))), (hwo.spec ok).2.2, _, F_some hF, rfl, u12, r13, zu12, zr13, (hwo.spec ok).1, rfl⟩
            ·
              refine WP_skip ?_
              refine C_seq ?_
              refine C_reg (mdl []) ?_
              refine S_m (v := .cplx _ _ _) rfl ?_
              refine S_m (v := .float _ _) rfl ?_
              refine S_cplx (a := (0 : Nat)) (b := x11.1.1) rfl rfl ?_
              refine S_cadd (a := ((x1.1.1, (0 : Nat)) : Nat × Nat)) (b := (((0 : Nat), x11.1.1) : Nat × Nat)) rfl rfl hF (fun x15 _ hF => ?_)
              refine S_a (v := .cplx _ _ _) rfl ?_
              refine S_nil ?_
              refine C_join hF (fun (a19 : (Nat × Nat)) s' => OK h ((q0, .cells [.str x11.2.s, .int .i64 x11.2.at_, mslO 2 u12 x11.2.f, .cplx .f64 x11.2.pen.1 x11.2.pen.2, .int .i64 x11.2.n, .bool x11.2.open_]) :: mo u12 cR_T_trace_Stroke (tagR (some r13) x11.2.f) :: (r13, .room) :: O) ∧ WS s' ⟨mkSl 91 [(8, .int .i64 x11.1.2.1), (10, .cplx .f64 a19.1 a19.2)], Hp h ((q0, .cells [.str x11.2.s, .int .i64 x11.2.at_, mslO 2 u12 x11.2.f, .cplx .f64 x11.2.pen.1 x11.2.pen.2, .int .i64 x11.2.n, .bool x11.2.open_]) :: mo u12 cR_T_trace_Stroke (tagR (some r13) x11.2.f) :: (r13, .room) :: O)⟩) (fun J20 hF => ?_) ?_
              ·
                refine C_seq ?_
                refine C_reg (mdl []) ?_
                refine S_m (v := .int _ _) rfl ?_
                refine S_bin rfl rfl (ev_eql ..) ?_
                refine S_m (v := .bool _) rfl ?_
                refine S_two (b := (p1 == (109 : Int))) 3 82 (.bool ((p1 == (109 : Int)) || (p1 == (108 : Int)))) (fun hb21 => ?_) (fun hb21 => ?_) ?_
                ·
                  refine S_off rfl rfl hb21 ?_
                  refine S_offD ?_
                  refine S_off rfl rfl hb21 ?_
                  refine S_offD ?_
                  refine S_pickT (v := .bool _) rfl hb21 rfl ?_
                  refine S_nil ?_
                  refine .hd (or_t hb21) ?_
                  repeat (first | with_reducible exact WS.refl _ | refine WS.add ?_ rfl | exact WS.refl _)
                ·
                  refine S_on rfl rfl hb21 ?_
                  refine S_in ?_
                  refine S_m (v := .int _ _) rfl ?_
                  refine S_nil ?_
                  refine S_on rfl rfl hb21 ?_
                  refine S_in ?_
                  refine S_bin rfl rfl (ev_eql ..) ?_
                  refine S_nil ?_
                  refine S_pickF (v := .bool _) rfl hb21 rfl ?_
                  refine S_nil ?_
                  refine .hd (or_f hb21) ?_
                  repeat (first | with_reducible exact WS.refl _ | refine WS.add ?_ rfl | exact WS.refl _)
                refine S_nil ?_
                refine C_if (b := ((p1 == (109 : Int)) || (p1 == (108 : Int)))) rfl hF (fun hb22 hF => ?_) (fun hb22 hF => ?_)
                ·
                  refine C_reg (mdl []) ?_
                  refine S_m (v := .cplx _ _ _) rfl ?_
                  refine S_m (v := .ptr _ _) rfl ?_
                  refine S_nilc (v := .ptr _ _) rfl rfl ?_
                  refine S_faP rfl ty_fd_70_3 ty_sz_45 ?_
                  refine S_ldP (j := 0) ok rfl rfl rfl hq0 (p_one (v := .cplx .f64 x11.2.pen.1 x11.2.pen.2) ty_ag_45 ty_sz_45 rfl) ?_
                  refine S_cadd (a := x15) (b := x11.2.pen) rfl rfl hF (fun x23 _ hF => ?_)
                  refine S_a (v := .cplx _ _ _) rfl ?_
                  refine S_nil ?_
                  have hwo : WO ((q0, .cells [.str x11.2.s, .int .i64 x11.2.at_, mslO 2 u12 x11.2.f, .cplx .f64 x11.2.pen.1 x11.2.pen.2, .int .i64 x11.2.n, .bool x11.2.open_]) :: mo u12 cR_T_trace_Stroke (tagR (some r13) x11.2.f) :: (r13, .room) :: O) ((q0, .cells [.str x11.2.s, .int .i64 x11.2.at_, mslO 2 u12 x11.2.f, .cplx .f64 x11.2.pen.1 x11.2.pen.2, .int .i64 x11.2.n, .bool x11.2.open_]) :: mo u12 cR_T_trace_Stroke (tagR (some r13) x11.2.f) :: (r13, .room) :: O) := (.keep (.keep (.keep (.refl O))))
                  exact ⟨x23, hF, (hwo.spec ok).1, WS.mk' (.cons (.refl _) (.cons (.refl _) .nil)) ok hwo⟩
                ·
                  refine WP_skip ?_
                  have hwo : WO ((q0, .cells [.str x11.2.s, .int .i64 x11.2.at_, mslO 2 u12 x11.2.f, .cplx .f64 x11.2.pen.1 x11.2.pen.2, .int .i64 x11.2.n, .bool x11.2.open_]) :: mo u12 cR_T_trace_Stroke (tagR (some r13) x11.2.f) :: (r13, .room) :: O) ((q0, .cells [.str x11.2.s, .int .i64 x11.2.at_, mslO 2 u12 x11.2.f, .cplx .f64 x11.2.pen.1 x11.2.pen.2, .int .i64 x11.2.n, .bool x11.2.open_]) :: mo u12 cR_T_trace_Stroke (tagR (some r13) x11.2.f) :: (r13, .room) :: O) := (.keep (.keep (.keep (.refl O))))
                  exact ⟨x15, hF, (hwo.spec ok).1, WS.mk' (.cons (.refl _) (.cons (.refl _) .nil)) ok hwo⟩
              ·
                rintro a19 s' hF ⟨ok, hws⟩
                refine WP_ws hws ?_
                clear hws s'
                refine C_seq ?_
                refine C_reg (mdl []) ?_
                refine S_m (v := .cplx _ _ _) rfl ?_
                refine S_m (v := .int _ _) rfl ?_
                refine S_a (v := .cplx _ _ _) rfl ?_
                refine S_a (v := .int _ _) rfl ?_
                refine S_a (v := .bool _) rfl ?_
                refine S_nil ?_
                refine WP_ret ?_
                repeat (first | with_reducible refine Exit.sel_ret ?_ | with_reducible refine Exit.blk_ret ?_ | with_reducible refine Exit.jmp_ret ?_)
                have hwo : WO ((q0, .cells [.str x11.2.s, .int .i64 x11.2.at_, mslO 2 u12 x11.2.f, .cplx .f64 x11.2.pen.1 x11.2.pen.2, .int .i64 x11.2.n, .bool x11.2.open_]) :: mo u12 cR_T_trace_Stroke (tagR (some r13) x11.2.f) :: (r13, .room) :: O) ((q0, .cells [.str x11.2.s, .int .i64 x11.2.at_, mslO 2 u12 x11.2.f, .cplx .f64 x11.2.pen.1 x11.2.pen.2, .int .i64 x11.2.n, .bool x11.2.open_]) :: mo u12 cR_T_trace_Stroke (tagR (some r13) x11.2.f) :: (r13, .room) :: O) := (.keep (.keep (.keep (.refl O))))
                refine C_ret (fn := Tryd.f43) rfl (.tmp (v := .cplx .f64 a19.1 a19.2) rfl (.tmp (v := .int .i64 x11.1.2.1) rfl (.tmp (v := .bool true) rfl .nil))) ?_
                exact ⟨_, _, (.tupC (.cons (.refl _) (.cons (.refl _) (.cons (.refl _) (.nil))))), (hwo.spec ok).2.2, _, F_some hF, rfl, u12, r13, zu12, zr13, (hwo.spec ok).1, rfl⟩
theorem F_trace_reader_spot_ok {β : Type} {f0 : ((Nat × Nat) × Int × Bool) × T_trace_reader → Option β} {G : β → Prop} {R : D → Heap → Prop} {p0 : T_trace_reader} {p1 : Int} {q0 : Nat} {b0_2 : Nat} {b0_2r : Nat} (h : Heap) (O : List (Nat × AObj)) (hq0 : q0 ≠ 0) (zb0_2 : b0_2 = 0 → p0.f = []) (zb0_2r : b0_2r = 0 → p0.f = []) (ok : OK h ((q0, .cells [.str p0.s, .int .i64 p0.at_, mslO 2 b0_2 p0.f, .cplx .f64 p0.pen.1 p0.pen.2, .int .i64 p0.n, .bool p0.open_]) :: mo b0_2 cR_T_trace_Stroke (tagR (some b0_2r) p0.f) :: (b0_2r, .room) :: O)) (hF : OptP ((F_trace_reader_spot p0 p1).bind f0) G) (hk : ∀ r b0_2' b0_2r', F_trace_reader_spot p0 p1 = some r → (b0_2' = 0 → r.2.f = []) → (b0_2r' = 0 → r.2.f = []) → OK h ((q0, .cells [.str r.2.s, .int .i64 r.2.at_, mslO 2 b0_2' r.2.f, .cplx .f64 r.2.pen.1 r.2.pen.2, .int .i64 r.2.n, .bool r.2.open_]) :: mo b0_2' cR_T_trace_Stroke (tagR (some b0_2r') r.2.f) :: (b0_2r', .room) :: O) → OptP (f0 r) G → R (.tup [.cplx .f64 r.1.1.1 r.1.1.2, .int .i64 r.1.2.1, .bool r.1.2.2]) (Hp h ((q0, .cells [.str r.2.s, .int .i64 r.2.at_, mslO 2 b0_2' r.2.f, .cplx .f64 r.2.pen.1 r.2.pen.2, .int .i64 r.2.n, .bool r.2.open_]) :: mo b0_2' cR_T_trace_Stroke (tagR (some b0_2r') r.2.f) :: (b0_2r', .room) :: O))) : CallsA Tryd.prog 43 [.ptr q0 0, .int .u8 p1] (Hp h ((q0, .cells [.str p0.s, .int .i64 p0.at_, mslO 2 b0_2 p0.f, .cplx .f64 p0.pen.1 p0.pen.2, .int .i64 p0.n, .bool p0.open_]) :: mo b0_2 cR_T_trace_Stroke (tagR (some b0_2r) p0.f) :: (b0_2r, .room) :: O)) R := by
  obtain ⟨r0, hr, hF⟩ := F_bind hF
  refine (F_trace_reader_spot_w (G := fun r => r = r0) p0 p1 q0 b0_2 b0_2r h O hq0 zb0_2 zb0_2r ok ⟨r0, hr, rfl⟩).mono ?_
  rintro _ _ ⟨r, rfl, rfl, b0_2', b0_2r', y0, y1, ok', rfl⟩
  exact hk _ _ _ hr y0 y1 ok' hF
theorem F_math_Trunc_w (p0 : Nat) {G : Nat → Prop} (h : Heap) (hF : OptP (F_math_Trunc p0) G) : CallsA Tryd.prog 57 [.float .f64 p0] h fun d h' => ∃ r, G r ∧ d = .float .f64 r ∧ h' = h := by
  refine CallsA.ret ?_
  refine C_body Tryd.func57 rfl en_57 Tryd.ntmps57 rfl (fun ok => ?_)
  rw [F_math_Trunc] at hF
  refine C_seq ?_
  refine C_reg (mdl []) ?_
  refine S_a (v := .float _ _) rfl ?_
  refine S_nil ?_
  refine C_seq ?_
  refine C_tt rfl rfl ?_
  refine C_seq ?_
  refine C_reg (mdl []) ?_
  refine S_m (v := .float _ _) rfl ?_
  refine S_call (L_archTrunc_ok _ hF fun x1 _ hF => ?_) (.cons (.refl _) (.nil))
  refine S_a (v := .float _ _) rfl ?_
  refine S_nil ?_
  refine WP_ret ?_
  repeat (first | with_reducible refine Exit.sel_ret ?_ | with_reducible refine Exit.blk_ret ?_ | with_reducible refine Exit.jmp_ret ?_)
  refine C_ret (fn := Tryd.f57) rfl (.tmp (v := .float .f64 x1) rfl .nil) ?_
  exact ⟨_, _, (.refl _), ok.wh, _, F_some hF, rfl, rfl⟩
theorem F_math_Trunc_ok {β : Type} {f : Nat → Option β} {G : β → Prop} {R : D → Heap → Prop} {p0 : Nat} (h : Heap) (hF : OptP ((F_math_Trunc p0).bind f) G) (hk : ∀ r, F_math_Trunc p0 = some r → OptP (f r) G → R (.float .f64 r) h) : CallsA Tryd.prog 57 [.float .f64 p0] h R := by
  obtain ⟨r0, hr, hF⟩ := F_bind hF
  refine (F_math_Trunc_w (G := fun r => r = r0) p0 h ⟨r0, hr, rfl⟩).mono ?_
  rintro _ _ ⟨r, rfl, rfl, rfl⟩
  exact hk _ hr hF
theorem F_math_Abs_w (p0 : Nat) {G : Nat → Prop} (h : Heap) (hF : OptP (F_math_Abs p0) G) : CallsA Tryd.prog 58 [.float .f64 p0] h fun d h' => ∃ r, G r ∧ d = .float .f64 r ∧ h' = h := by
  refine CallsA.ret ?_
  refine C_body Tryd.func58 rfl en_58 Tryd.ntmps58 rfl (fun ok => ?_)
  rw [F_math_Abs] at hF
  refine C_seq ?_
  refine C_reg (mdl []) ?_
  refine S_a (v := .float _ _) rfl ?_
  refine S_nil ?_
  refine C_seq ?_
  refine C_reg (mdl []) ?_
  refine S_m (v := .float _ _) rfl ?_
  refine S_call (L_bits_ok _ hF fun x1 _ hF => ?_) (.cons (.refl _) (.nil))
  refine S_bin rfl rfl (e_andNot ..) ?_
  refine S_call (L_frombits_ok _ hF fun x2 _ hF => ?_) (.cons (.refl _) (.nil))
  refine S_a (v := .float _ _) rfl ?_
  refine S_nil ?_
  refine WP_ret ?_
  repeat (first | with_reducible refine Exit.sel_ret ?_ | with_reducible refine Exit.blk_ret ?_ | with_reducible refine Exit.jmp_ret ?_)
  refine C_ret (fn := Tryd.f58) rfl (.tmp (v := .float .f64 x2) rfl .nil) ?_
  exact ⟨_, _, (.refl _), ok.wh, _, F_some hF, rfl, rfl⟩
theorem F_math_Abs_ok {β : Type} {f : Nat → Option β} {G : β → Prop} {R : D → Heap → Prop} {p0 : Nat} (h : Heap) (hF : OptP ((F_math_Abs p0).bind f) G) (hk : ∀ r, F_math_Abs p0 = some r → OptP (f r) G → R (.float .f64 r) h) : CallsA Tryd.prog 58 [.float .f64 p0] h R := by
  obtain ⟨r0, hr, hF⟩ := F_bind hF
  refine (F_math_Abs_w (G := fun r => r = r0) p0 h ⟨r0, hr, rfl⟩).mono ?_
  rintro _ _ ⟨r, rfl, rfl, rfl⟩
  exact hk _ hr hF
theorem F_trace_part_w (p0 : Nat) {G : Bool → Prop} (h : Heap) (hF : OptP (F_trace_part p0) G) : CallsA Tryd.prog 50 [.float .f64 p0] h fun d h' => ∃ r, G r ∧ d = .bool r ∧ h' = h := by
  refine CallsA.ret ?_
  refine C_body Tryd.func50 rfl en_50 Tryd.ntmps50 rfl (fun ok => ?_)
  rw [F_trace_part] at hF
  refine C_seq ?_
  refine C_reg (mdl []) ?_
  refine S_a (v := .bool _) rfl ?_
  refine S_nil ?_
  refine C_seq ?_
  refine C_reg (mdl []) ?_
  refine S_m (v := .float _ _) rfl ?_
  refine S_m (v := .float _ _) rfl ?_
  refine S_call (F_math_Trunc_ok _ hF fun x1 _ hF => ?_) (.cons (.refl _) (.nil))
  refine S_bin rfl rfl (e_feq (a := p0) (b := x1)) ?_
  refine S_m (v := .bool _) rfl ?_
  refine S_twoJ 4 11 hF (fun J3 hb2 hF => ?_) (fun J3 hb2 hF => ?_) (fun v4 hF => ?_)
  ·
    refine S_on rfl rfl hb2 ?_
    refine S_in ?_
    refine S_m (v := .float _ _) rfl ?_
    refine S_nil ?_
    refine S_on rfl rfl hb2 ?_
    refine S_in ?_
    refine S_call (F_math_Abs_ok _ hF fun x5 _ hF => ?_) (.cons (.refl _) (.nil))
    refine S_nil ?_
    refine S_on rfl rfl hb2 ?_
    refine S_in ?_
    refine S_bin rfl rfl (e_fle (a := x5) (b := (4696837146684686336 : Nat))) ?_
    refine S_nil ?_
    refine S_pickT (v := .bool _) rfl hb2 rfl ?_
    refine S_nil ?_
    refine ⟨_, hF, .hd (.refl _) ?_⟩
    repeat (first | with_reducible exact WS.refl _ | refine WS.add ?_ rfl | exact WS.refl _)
  ·
    refine S_off rfl rfl hb2 ?_
    refine S_offD ?_
    refine S_off rfl rfl hb2 ?_
    refine S_offD ?_
    refine S_off rfl rfl hb2 ?_
    refine S_offD ?_
    refine S_pickF (v := .bool _) rfl hb2 rfl ?_
    refine S_nil ?_
    refine ⟨_, hF, .hd (.refl _) ?_⟩
    repeat (first | with_reducible exact WS.refl _ | refine WS.add ?_ rfl | exact WS.refl _)
  ·
    refine S_a (v := .bool _) rfl ?_
    refine S_nil ?_
    refine WP_ret ?_
    repeat (first | with_reducible refine Exit.sel_ret ?_ | with_reducible refine Exit.blk_ret ?_ | with_reducible refine Exit.jmp_ret ?_)
    refine C_ret (fn := Tryd.f50) rfl (.tmp (v := .bool v4) rfl .nil) ?_
    exact ⟨_, _, (.refl _), ok.wh, _, F_some hF, rfl, rfl⟩
theorem F_trace_part_ok {β : Type} {f : Bool → Option β} {G : β → Prop} {R : D → Heap → Prop} {p0 : Nat} (h : Heap) (hF : OptP ((F_trace_part p0).bind f) G) (hk : ∀ r, F_trace_part p0 = some r → OptP (f r) G → R (.bool r) h) : CallsA Tryd.prog 50 [.float .f64 p0] h R := by
  obtain ⟨r0, hr, hF⟩ := F_bind hF
  refine (F_trace_part_w (G := fun r => r = r0) p0 h ⟨r0, hr, rfl⟩).mono ?_
  rintro _ _ ⟨r, rfl, rfl, rfl⟩
  exact hk _ hr hF
theorem F_trace_spot_w (p0 : Nat × Nat) {G : Bool → Prop} (h : Heap) (hF : OptP (F_trace_spot p0) G) : CallsA Tryd.prog 39 [.cplx .f64 p0.1 p0.2] h fun d h' => ∃ r, G r ∧ d = .bool r ∧ h' = h := by
  refine CallsA.ret ?_
  refine C_body Tryd.func39 rfl en_39 Tryd.ntmps39 rfl (fun ok => ?_)
  rw [F_trace_spot] at hF
  refine C_seq ?_
  refine C_reg (mdl []) ?_
  refine S_a (v := .bool _) rfl ?_
  refine S_nil ?_
  refine C_seq ?_
  refine C_reg (mdl []) ?_
  refine S_m (v := .cplx _ _ _) rfl ?_
  refine S_real (a := p0) rfl ?_
  refine S_call (F_trace_part_ok _ hF fun x1 _ hF => ?_) (.cons (.refl _) (.nil))
  refine S_m (v := .bool _) rfl ?_
  refine S_twoJ 4 10 hF (fun J3 hb2 hF => ?_) (fun J3 hb2 hF => ?_) (fun v4 hF => ?_)
  ·
    refine S_on rfl rfl hb2 ?_
    refine S_in ?_
    refine S_m (v := .cplx _ _ _) rfl ?_
    refine S_nil ?_
    refine S_on rfl rfl hb2 ?_
    refine S_in ?_
    refine S_imag (a := p0) rfl ?_
    refine S_nil ?_
    refine S_on rfl rfl hb2 ?_
    refine S_in ?_
    refine S_call (F_trace_part_ok _ hF fun x5 _ hF => ?_) (.cons (.refl _) (.nil))
    refine S_nil ?_
    refine S_pickT (v := .bool _) rfl hb2 rfl ?_
    refine S_nil ?_
    refine ⟨_, hF, .hd (.refl _) ?_⟩
    repeat (first | with_reducible exact WS.refl _ | refine WS.add ?_ rfl | exact WS.refl _)
  ·
    refine S_off rfl rfl hb2 ?_
    refine S_offD ?_
    refine S_off rfl rfl hb2 ?_
    refine S_offD ?_
    refine S_off rfl rfl hb2 ?_
    refine S_offD ?_
    refine S_pickF (v := .bool _) rfl hb2 rfl ?_
    refine S_nil ?_
    refine ⟨_, hF, .hd (.refl _) ?_⟩
    repeat (first | with_reducible exact WS.refl _ | refine WS.add ?_ rfl | exact WS.refl _)
  ·
    refine S_a (v := .bool _) rfl ?_
    refine S_nil ?_
    refine WP_ret ?_
    repeat (first | with_reducible refine Exit.sel_ret ?_ | with_reducible refine Exit.blk_ret ?_ | with_reducible refine Exit.jmp_ret ?_)
    refine C_ret (fn := Tryd.f39) rfl (.tmp (v := .bool v4) rfl .nil) ?_
    exact ⟨_, _, (.refl _), ok.wh, _, F_some hF, rfl, rfl⟩
theorem F_trace_spot_ok {β : Type} {f : Bool → Option β} {G : β → Prop} {R : D → Heap → Prop} {p0 : Nat × Nat} (h : Heap) (hF : OptP ((F_trace_spot p0).bind f) G) (hk : ∀ r, F_trace_spot p0 = some r → OptP (f r) G → R (.bool r) h) : CallsA Tryd.prog 39 [.cplx .f64 p0.1 p0.2] h R := by
  obtain ⟨r0, hr, hF⟩ := F_bind hF
  refine (F_trace_spot_w (G := fun r => r = r0) p0 h ⟨r0, hr, rfl⟩).mono ?_
  rintro _ _ ⟨r, rfl, rfl, rfl⟩
  exact hk _ hr hF
theorem F_trace_reader_spots_w (p0 : T_trace_reader) (p1 : Int) (q0 : Nat) (b0_2 : Nat) (b0_2r : Nat) {G : (Int × Int) × T_trace_reader → Prop} (h : Heap) (O : List (Nat × AObj)) (hq0 : q0 ≠ 0) (zb0_2 : b0_2 = 0 → p0.f = []) (zb0_2r : b0_2r = 0 → p0.f = []) (ok : OK h ((q0, .cells [.str p0.s, .int .i64 p0.at_, mslO 2 b0_2 p0.f, .cplx .f64 p0.pen.1 p0.pen.2, .int .i64 p0.n, .bool p0.open_]) :: mo b0_2 cR_T_trace_Stroke (tagR (some b0_2r) p0.f) :: (b0_2r, .room) :: O)) (hF : OptP (F_trace_reader_spots p0 p1) G) : CallsA Tryd.prog 30 [.ptr q0 0, .int .u8 p1] (Hp h ((q0, .cells [.str p0.s, .int .i64 p0.at_, mslO 2 b0_2 p0.f, .cplx .f64 p0.pen.1 p0.pen.2, .int .i64 p0.n, .bool p0.open_]) :: mo b0_2 cR_T_trace_Stroke (tagR (some b0_2r) p0.f) :: (b0_2r, .room) :: O)) fun d h' => ∃ r, G r ∧ d = .tup [.int .i64 r.1.1, .int .i64 r.1.2] ∧ ∃ b0_2' b0_2r' : Nat, (b0_2' = 0 → r.2.f = []) ∧ (b0_2r' = 0 → r.2.f = []) ∧ OK h ((q0, .cells [.str r.2.s, .int .i64 r.2.at_, mslO 2 b0_2' r.2.f, .cplx .f64 r.2.pen.1 r.2.pen.2, .int .i64 r.2.n, .bool r.2.open_]) :: mo b0_2' cR_T_trace_Stroke (tagR (some b0_2r') r.2.f) :: (b0_2r', .room) :: O) ∧ h' = Hp h ((q0, .cells [.str r.2.s, .int .i64 r.2.at_, mslO 2 b0_2' r.2.f, .cplx .f64 r.2.pen.1 r.2.pen.2, .int .i64 r.2.n, .bool r.2.open_]) :: mo b0_2' cR_T_trace_Stroke (tagR (some b0_2r') r.2.f) :: (b0_2r', .room) :: O) := by
  refine CallsA.ret ?_
  refine C_bodyO Tryd.func30 rfl en_30 Tryd.ntmps30 rfl ?_
  rw [F_trace_reader_spots] at hF
  refine C_seq ?_
  refine C_reg (mdl []) ?_
  refine S_a (v := .int _ _) rfl ?_
  refine S_a (v := .int _ _) rfl ?_
  refine S_nil ?_
  refine WP_scope ?_
  refine JW_step ?_
  refine C_seq ?_
  refine C_reg (mdl []) ?_
  refine S_a (v := .bool _) rfl ?_
  refine S_nil ?_
  refine C_seq ?_
  refine WP_label ?_
  refine C_gloop (σ := (List UInt8) × Int × (List T_trace_Stroke) × (Nat × Nat) × Int × Bool × Bool) hF (fun (v : (List UInt8) × Int × (List T_trace_Stroke) × (Nat × Nat) × Int × Bool × Bool) s' => match v with | (a1, a2, a4, a6, a7, a8, a9) => ∃ g3 g5 : Nat, (g3 = 0 → a4 = []) ∧ (g5 = 0 → a4 = []) ∧ OK h ((q0, .cells [.str a1, .int .i64 a2, mslO 2 g3 a4, .cplx .f64 a6.1 a6.2, .int .i64 a7, .bool a8]) :: mo g3 cR_T_trace_Stroke (tagR (some g5) a4) :: (g5, .room) :: O) ∧ WS s' ⟨mkSl 101 [(0, .ptr q0 0), (1, .int .u8 p1), (6, .bool a9)], Hp h ((q0, .cells [.str a1, .int .i64 a2, mslO 2 g3 a4, .cplx .f64 a6.1 a6.2, .int .i64 a7, .bool a8]) :: mo g3 cR_T_trace_Stroke (tagR (some g5) a4) :: (g5, .room) :: O)⟩) ?_ ?_
  ·
    have hwo : WO ((q0, .cells [.str p0.s, .int .i64 p0.at_, mslO 2 b0_2 p0.f, .cplx .f64 p0.pen.1 p0.pen.2, .int .i64 p0.n, .bool p0.open_]) :: mo b0_2 cR_T_trace_Stroke (tagR (some b0_2r) p0.f) :: (b0_2r, .room) :: O) ((q0, .cells [.str p0.s, .int .i64 p0.at_, mslO 2 b0_2 p0.f, .cplx .f64 p0.pen.1 p0.pen.2, .int .i64 p0.n, .bool p0.open_]) :: mo b0_2 cR_T_trace_Stroke (tagR (some b0_2r) p0.f) :: (b0_2r, .room) :: O) := (.keep (.keep (.keep (.refl O))))
    exact ⟨b0_2, b0_2r, zb0_2, zb0_2r, (hwo.spec ok).1, WS.mk' (.cons (.refl _) (.cons (.refl _) (.cons (.refl _) .nil))) ok hwo⟩
  ·
    rintro G10 hG11 rec12 ⟨a1, a2, a4, a6, a7, a8, a9⟩ s' ih13 hF ⟨g3, g5, zg3, zg5, ok, hws⟩
    refine WP_ws hws ?_
    clear hws s'
    rw [F_trace_reader_spots_l0] at hF
    refine C_seq ?_
    refine C_reg (mdl []) ?_
    refine S_m (v := .ptr _ _) rfl ?_
    refine S_m (v := .int _ _) rfl ?_
    obtain ⟨hpe, ok⟩ := Hp_pull 2 ok rfl
    rw [hpe]; clear hpe
    obtain ⟨hpe, ok⟩ := Hp_pull 2 ok rfl
    rw [hpe]; clear hpe
    obtain ⟨hpe, ok⟩ := Hp_pull 2 ok rfl
    rw [hpe]; clear hpe
    refine S_call (F_trace_reader_spot_ok (p0 := (⟨a1, a2, a4, a6, a7, a8⟩ : T_trace_reader)) (q0 := q0) (b0_2 := g3) (b0_2r := g5) h (O) hq0 zg3 zg5 ok hF fun x14 u15 r16 _ zu15 zr16 ok hF => ?_) (.cons (.refl _) (.cons (.refl _) (.nil)))
    refine S_m (v := .tup _) rfl ?_
    refine S_ext rfl rfl ?_
    refine S_ext rfl rfl ?_
    refine S_ext rfl rfl ?_
    refine S_a (v := .cplx _ _ _) rfl ?_
    refine S_a (v := .int _ _) rfl ?_
    refine S_a (v := .bool _) rfl ?_
    refine S_nil ?_
    refine C_seq ?_
    refine WP_block ?_
    refine C_seq ?_
    refine C_reg (mdl []) ?_
    refine S_m (v := .bool _) rfl ?_
    refine S_un rfl (ev_not _) ?_
    refine S_m (v := .bool _) rfl ?_
    refine S_two (b := (!x14.1.2.2)) 6 27 (.bool ((!x14.1.2.2) && (a9 || (decide (x14.1.2.1 < (0 : Int)))))) (fun hb17 => ?_) (fun hb17 => ?_) ?_
    ·
      refine S_on rfl rfl hb17 ?_
      refine S_in ?_
      refine S_m (v := .bool _) rfl ?_
      refine S_nil ?_
      refine S_on rfl rfl hb17 ?_
      refine S_in ?_
      refine S_m (v := .bool _) rfl ?_
      refine S_nil ?_
      refine S_two (b := a9) 3 26 (.bool (a9 || (decide (x14.1.2.1 < (0 : Int))))) (fun hb19 => ?_) (fun hb19 => ?_) ?_
      ·
        refine S_off rfl rfl hb19 ?_
        refine S_offD ?_
        refine S_off rfl rfl hb19 ?_
        refine S_offD ?_
        refine S_on rfl rfl hb17 ?_
        refine S_in ?_
        refine S_pickT (v := .bool _) rfl hb19 rfl ?_
        refine S_nil ?_
        refine S_nil ?_
        refine .hd (or_t hb19) ?_
        repeat (first | with_reducible exact WS.refl _ | refine WS.add ?_ rfl | exact WS.refl _)
      ·
        refine S_on rfl rfl hb19 ?_
        refine S_in ?_
        refine S_m (v := .int _ _) rfl ?_
        refine S_nil ?_
        refine S_on rfl rfl hb19 ?_
        refine S_in ?_
        refine S_bin rfl rfl (ev_lss ..) ?_
        refine S_nil ?_
        refine S_on rfl rfl hb17 ?_
        refine S_in ?_
        refine S_pickF (v := .bool _) rfl hb19 rfl ?_
        refine S_nil ?_
        refine S_nil ?_
        refine .hd (or_f hb19) ?_
        repeat (first | with_reducible exact WS.refl _ | refine WS.add ?_ rfl | exact WS.refl _)
      refine S_pickT (v := .bool _) rfl hb17 rfl ?_
      refine S_nil ?_
      refine .hd (and_t hb17) ?_
      repeat (first | with_reducible exact WS.refl _ | refine WS.add ?_ rfl | exact WS.refl _)
    ·
      refine S_off rfl rfl hb17 ?_
      refine S_offD ?_
      refine S_off rfl rfl hb17 ?_
      refine S_offD ?_
      refine S_off2 rfl rfl ?_
      refine S_offD ?_
      refine S_off2 rfl rfl ?_
      refine S_offD ?_
      refine S_off rfl rfl hb17 ?_
      refine S_offD ?_
      refine S_pickF (v := .bool _) rfl hb17 rfl ?_
      refine S_nil ?_
      refine .hd (and_f hb17) ?_
      repeat (first | with_reducible exact WS.refl _ | refine WS.add ?_ rfl | exact WS.refl _)
    refine S_a (v := .bool _) rfl ?_
    refine S_nil ?_
    refine C_if (b := ((!x14.1.2.2) && (a9 || (decide (x14.1.2.1 < (0 : Int)))))) rfl hF (fun hb20 hF => ?_) (fun hb20 hF => ?_)
    ·
      refine C_seq ?_
      refine C_reg (mdl []) ?_
      refine S_m (v := .int _ _) rfl ?_
      refine S_m (v := .int _ _) rfl ?_
      refine S_bin rfl rfl (ev_sub ..) ?_
      refine S_max rfl rfl ?_
      refine S_a (v := .int _ _) rfl ?_
      refine S_a (v := .int _ _) rfl ?_
      refine S_nil ?_
      refine WP_ret ?_
      replace hF := hG11 _ (F_some hF)
      repeat (first | with_reducible refine Exit.sel_ret ?_ | with_reducible refine Exit.blk_ret ?_ | with_reducible refine Exit.jmp_ret ?_)
      have hwo : WO ((q0, .cells [.str x14.2.s, .int .i64 x14.2.at_, mslO 2 u15 x14.2.f, .cplx .f64 x14.2.pen.1 x14.2.pen.2, .int .i64 x14.2.n, .bool x14.2.open_]) :: mo u15 cR_T_trace_Stroke (tagR (some r16) x14.2.f) :: (r16, .room) :: O) ((q0, .cells [.str x14.2.s, .int .i64 x14.2.at_, mslO 2 u15 x14.2.f, .cplx .f64 x14.2.pen.1 x14.2.pen.2, .int .i64 x14.2.n, .bool x14.2.open_]) :: mo u15 cR_T_trace_Stroke (tagR (some r16) x14.2.f) :: (r16, .room) :: O) := (.keep (.keep (.keep (.refl O))))
      refine C_ret (fn := Tryd.f30) rfl (.tmp (v := .int .i64 (if (IntKind.wrap .i64 ((-1 : Int) - x14.1.2.1)) > x14.1.2.1 then (IntKind.wrap .i64 ((-1 : Int) - x14.1.2.1)) else x14.1.2.1)) rfl (.tmp (v := .int .i64 (37 : Int)) rfl .nil)) ?_
      exact ⟨_, _, (.tupC (.cons (.refl _) (.cons (.refl _) (.nil)))), (hwo.spec ok).2.2, _, F_some hF, rfl, u15, r16, zu15, zr16, (hwo.spec ok).1, rfl⟩
    ·
      refine C_seq ?_
      refine C_reg (mdl []) ?_
      refine S_m (v := .bool _) rfl ?_
      refine S_un rfl (ev_not _) ?_
      refine S_a (v := .bool _) rfl ?_
      refine S_nil ?_
      refine C_if (b := (!x14.1.2.2)) rfl hF (fun hb21 hF => ?_) (fun hb21 hF => ?_)
      ·
        refine C_seq ?_
        refine C_reg (mdl []) ?_
        refine S_a (v := .int _ _) rfl ?_
        refine S_a (v := .int _ _) rfl ?_
        refine S_nil ?_
        refine WP_ret ?_
        replace hF := hG11 _ (F_some hF)
        repeat (first | with_reducible refine Exit.sel_ret ?_ | with_reducible refine Exit.blk_ret ?_ | with_reducible refine Exit.jmp_ret ?_)
        have hwo : WO ((q0, .cells [.str x14.2.s, .int .i64 x14.2.at_, mslO 2 u15 x14.2.f, .cplx .f64 x14.2.pen.1 x14.2.pen.2, .int .i64 x14.2.n, .bool x14.2.open_]) :: mo u15 cR_T_trace_Stroke (tagR (some r16) x14.2.f) :: (r16, .room) :: O) ((q0, .cells [.str x14.2.s, .int .i64 x14.2.at_, mslO 2 u15 x14.2.f, .cplx .f64 x14.2.pen.1 x14.2.pen.2, .int .i64 x14.2.n, .bool x14.2.open_]) :: mo u15 cR_T_trace_Stroke (tagR (some r16) x14.2.f) :: (r16, .room) :: O) := (.keep (.keep (.keep (.refl O))))
        refine C_ret (fn := Tryd.f30) rfl (.tmp (v := .int .i64 (0 : Int)) rfl (.tmp (v := .int .i64 (0 : Int)) rfl .nil)) ?_
        exact ⟨_, _, (.tupC (.cons (.refl _) (.cons (.refl _) (.nil)))), (hwo.spec ok).2.2, _, F_some hF, rfl, u15, r16, zu15, zr16, (hwo.spec ok).1, rfl⟩
      ·
        refine C_seq ?_
        refine C_reg (mdl []) ?_
        refine S_m (v := .cplx _ _ _) rfl ?_
        refine S_call (F_trace_spot_ok _ hF fun x22 _ hF => ?_) (.cons (.refl _) (.nil))
        refine S_un rfl (ev_not _) ?_
        refine S_m (v := .bool _) rfl ?_
        refine S_twoJ 6 45 hF (fun J24 hb23 hF => ?_) (fun J24 hb23 hF => ?_) (fun v25 hF => ?_)
        ·
          refine S_off rfl rfl hb23 ?_
          refine S_offD ?_
          refine S_off rfl rfl hb23 ?_
          refine S_offD ?_
          refine S_off rfl rfl hb23 ?_
          refine S_offD ?_
          refine S_off rfl rfl hb23 ?_
          refine S_offD ?_
          refine S_off rfl rfl hb23 ?_
          refine S_offD ?_
          refine S_pickT (v := .bool _) rfl hb23 rfl ?_
          refine S_nil ?_
          refine ⟨_, hF, .hd (.refl _) ?_⟩
          repeat (first | with_reducible exact WS.refl _ | refine WS.add ?_ rfl | exact WS.refl _)
        ·
          refine S_on rfl rfl hb23 ?_
          refine S_in ?_
          refine S_m (v := .ptr _ _) rfl ?_
          refine S_nil ?_
          refine S_on rfl rfl hb23 ?_
          refine S_in ?_
          refine S_nilc (v := .ptr _ _) rfl rfl ?_
          refine S_nil ?_
          refine S_on rfl rfl hb23 ?_
          refine S_in ?_
          refine S_faP rfl ty_fd_70_4 ty_sz_3 ?_
          refine S_nil ?_
          refine S_on rfl rfl hb23 ?_
          refine S_in ?_
          refine S_ldP (j := 0) ok rfl rfl rfl hq0 (p_one (v := .int .i64 x14.2.n) ty_ag_3 ty_sz_3 rfl) ?_
          refine S_nil ?_
          refine S_on rfl rfl hb23 ?_
          refine S_in ?_
          refine S_bin rfl rfl (ev_eql ..) ?_
          refine S_nil ?_
          refine S_pickF (v := .bool _) rfl hb23 rfl ?_
          refine S_nil ?_
          refine ⟨_, hF, .hd (.refl _) ?_⟩
          repeat (first | with_reducible exact WS.refl _ | refine WS.add ?_ rfl | exact WS.refl _)
        ·
          refine S_a (v := .bool _) rfl ?_
          refine S_nil ?_
          refine C_if (b := v25) rfl hF (fun hb26 hF => ?_) (fun hb26 hF => ?_)
          ·
            refine C_seq ?_
            refine C_reg (mdl []) ?_
            refine S_m (v := .int _ _) rfl ?_
            refine S_a (v := .int _ _) rfl ?_
            refine S_a (v := .int _ _) rfl ?_
            refine S_nil ?_
            refine WP_ret ?_
            replace hF := hG11 _ (F_some hF)
            repeat (first | with_reducible refine Exit.sel_ret ?_ | with_reducible refine Exit.blk_ret ?_ | with_reducible refine Exit.jmp_ret ?_)
            have hwo : WO ((q0, .cells [.str x14.2.s, .int .i64 x14.2.at_, mslO 2 u15 x14.2.f, .cplx .f64 x14.2.pen.1 x14.2.pen.2, .int .i64 x14.2.n, .bool x14.2.open_]) :: mo u15 cR_T_trace_Stroke (tagR (some r16) x14.2.f) :: (r16, .room) :: O) ((q0, .cells [.str x14.2.s, .int .i64 x14.2.at_, mslO 2 u15 x14.2.f, .cplx .f64 x14.2.pen.1 x14.2.pen.2, .int .i64 x14.2.n, .bool x14.2.open_]) :: mo u15 cR_T_trace_Stroke (tagR (some r16) x14.2.f) :: (r16, .room) :: O) := (.keep (.keep (.keep (.refl O))))
            refine C_ret (fn := Tryd.f30) rfl (.tmp (v := .int .i64 x14.1.2.1) rfl (.tmp (v := .int .i64 (5 : Int)) rfl .nil)) ?_
            exact ⟨_, _, (.tupC (.cons (.refl _) (.cons (.refl _) (.nil)))), (hwo.spec ok).2.2, _, F_some hF, rfl, u15, r16, zu15, zr16, (hwo.spec ok).1, rfl⟩
          ·
            refine WP_skip ?_
            refine C_join hF (fun (v : (List T_trace_Stroke) × Bool) s' => match v with | (a35, a37) => ∃ g34 g36 : Nat, (g34 = 0 → a35 = []) ∧ (g36 = 0 → a35 = []) ∧ OK h ((g36, .room) :: (q0, .cells [.str x14.2.s, .int .i64 x14.2.at_, mslO 2 g34 a35, .cplx .f64 x14.2.pen.1 x14.2.pen.2, .int .i64 x14.2.n, .bool a37]) :: mo g34 cR_T_trace_Stroke (tagR (some g36) a35) :: O) ∧ WS s' ⟨mkSl 101 [(0, .ptr q0 0), (1, .int .u8 p1), (7, .cplx .f64 x14.1.1.1 x14.1.1.2)], Hp h ((g36, .room) :: (q0, .cells [.str x14.2.s, .int .i64 x14.2.at_, mslO 2 g34 a35, .cplx .f64 x14.2.pen.1 x14.2.pen.2, .int .i64 x14.2.n, .bool a37]) :: mo g34 cR_T_trace_Stroke (tagR (some g36) a35) :: O)⟩) (fun J38 hF => ?_) ?_
            ·
              refine C_seq ?_
              refine C_reg (mdl []) ?_
              refine S_m (v := .bool _) rfl ?_
              refine S_m (v := .bool _) rfl ?_
              refine S_two (b := a9) 7 55 (.bool (a9 && ((p1 == (77 : Int)) || (p1 == (109 : Int))))) (fun hb39 => ?_) (fun hb39 => ?_) ?_
              ·
                refine S_on rfl rfl hb39 ?_
                refine S_in ?_
                refine S_m (v := .int _ _) rfl ?_
                refine S_nil ?_
                refine S_on rfl rfl hb39 ?_
                refine S_in ?_
                refine S_bin rfl rfl (ev_eql ..) ?_
                refine S_nil ?_
                refine S_on rfl rfl hb39 ?_
                refine S_in ?_
                refine S_m (v := .bool _) rfl ?_
                refine S_nil ?_
                refine S_two (b := (p1 == (77 : Int))) 3 54 (.bool ((p1 == (77 : Int)) || (p1 == (109 : Int)))) (fun hb41 => ?_) (fun hb41 => ?_) ?_
                ·
                  refine S_off rfl rfl hb41 ?_
                  refine S_offD ?_
                  refine S_off rfl rfl hb41 ?_
                  refine S_offD ?_
                  refine S_on rfl rfl hb39 ?_
                  refine S_in ?_
                  refine S_pickT (v := .bool _) rfl hb41 rfl ?_
                  refine S_nil ?_
                  refine S_nil ?_
                  refine .hd (or_t hb41) ?_
                  repeat (first | with_reducible exact WS.refl _ | refine WS.add ?_ rfl | exact WS.refl _)
                ·
                  refine S_on rfl rfl hb41 ?_
                  refine S_in ?_
                  refine S_m (v := .int _ _) rfl ?_
                  refine S_nil ?_
                  refine S_on rfl rfl hb41 ?_
                  refine S_in ?_
                  refine S_bin rfl rfl (ev_eql ..) ?_
                  refine S_nil ?_
                  refine S_on rfl rfl hb39 ?_
                  refine S_in ?_
                  refine S_pickF (v := .bool _) rfl hb41 rfl ?_
                  refine S_nil ?_
                  refine S_nil ?_
                  refine .hd (or_f hb41) ?_
                  repeat (first | with_reducible exact WS.refl _ | refine WS.add ?_ rfl | exact WS.refl _)
                refine S_pickT (v := .bool _) rfl hb39 rfl ?_
                refine S_nil ?_
                refine .hd (and_t hb39) ?_
                repeat (first | with_reducible exact WS.refl _ | refine WS.add ?_ rfl | exact WS.refl _)
              ·
                refine S_off rfl rfl hb39 ?_
                refine S_offD ?_
                refine S_off rfl rfl hb39 ?_
                refine S_offD ?_
                refine S_off rfl rfl hb39 ?_
                refine S_offD ?_
                refine S_off2 rfl rfl ?_
                refine S_offD ?_
                refine S_off2 rfl rfl ?_
                refine S_offD ?_
                refine S_off rfl rfl hb39 ?_
                refine S_offD ?_
                refine S_pickF (v := .bool _) rfl hb39 rfl ?_
                refine S_nil ?_
                refine .hd (and_f hb39) ?_
                repeat (first | with_reducible exact WS.refl _ | refine WS.add ?_ rfl | exact WS.refl _)
              refine S_nil ?_
              refine C_if (b := (a9 && ((p1 == (77 : Int)) || (p1 == (109 : Int))))) rfl hF (fun hb42 hF => ?_) (fun hb42 hF => ?_)
              ·
                refine C_seq ?_
                refine C_reg (mdl [(63, 1)]) ?_
                refine S_m (v := .ptr _ _) rfl ?_
                refine S_m (v := .ptr _ _) rfl ?_
                refine S_nilc (v := .ptr _ _) rfl rfl ?_
                refine S_faP rfl ty_fd_70_2 ty_sz_23 ?_
                refine S_ldP (j := 0) ok rfl rfl rfl hq0 (p_one (v := mslO 2 u15 x14.2.f) ty_ag_23 ty_sz_23 rfl) ?_
                refine S_bld (v := .agg [.snil, .bool false]) (b_st ty_zc_56 ty_pl_56 rfl) ?_
                refine S_lit0 (es := [[.snil, .bool false]]) rfl ty_el_23 rfl rfl rfl ?_
                refine S_appR (c := cR_T_trace_Stroke) (x0 := (⟨([] : List (Nat × Nat)), false⟩ : T_trace_Stroke)) (off := 0) (kk := 1) (r := r16) (j := 1) ok zu15 rfl rfl rfl cR_T_trace_Stroke_len rfl (cR_T_trace_Stroke_w _) rfl rfl (fun _ => rfl) ty_el_23 ty_ni_23 hF ?_
                intro u43 r44 hu43 hr44 ok hF
                obtain ⟨a45, ha45, hF⟩ := F_let hF
                rw [← ha45] at ok
                rw [← ha45]
                refine S_nilc (v := .ptr _ _) rfl rfl ?_
                refine S_faP rfl ty_fd_70_2 ty_sz_23 ?_
                refine S_stB (j := 1) (cs' := [.str x14.2.s, .int .i64 x14.2.at_, mslO 2 u43 a45, .cplx .f64 x14.2.pen.1 x14.2.pen.2, .int .i64 x14.2.n, .bool x14.2.open_]) ok rfl rfl rfl hq0 ty_sz_23 rfl rfl (fun ok => ?_)
                refine S_nil ?_
                refine C_reg (mdl []) ?_
                refine S_m (v := .ptr _ _) rfl ?_
                refine S_nilc (v := .ptr _ _) rfl rfl ?_
                refine S_faP rfl ty_fd_70_5 ty_sz_4 ?_
                refine S_st (j := 1) (cs' := [.str x14.2.s, .int .i64 x14.2.at_, mslO 2 u43 a45, .cplx .f64 x14.2.pen.1 x14.2.pen.2, .int .i64 x14.2.n, .bool true]) ok rfl rfl rfl hq0 rfl ty_sz_4 rfl rfl (fun ok => ?_)
                refine S_nil ?_
                have hwo : WO ((r44, .room) :: (q0, .cells [.str x14.2.s, .int .i64 x14.2.at_, mslO 2 u43 a45, .cplx .f64 x14.2.pen.1 x14.2.pen.2, .int .i64 x14.2.n, .bool true]) :: mo u43 cR_T_trace_Stroke (tagR (some r44) a45) :: (r16, .room) :: O) ((r44, .room) :: (q0, .cells [.str x14.2.s, .int .i64 x14.2.at_, mslO 2 u43 a45, .cplx .f64 x14.2.pen.1 x14.2.pen.2, .int .i64 x14.2.n, .bool true]) :: mo u43 cR_T_trace_Stroke (tagR (some r44) a45) :: O) := (.keep (.keep (.keep (.drop (.refl O)))))
                exact ⟨(a45, true), hF, u43, r44, (fun h => absurd h hu43), (fun h => absurd h hr44), (hwo.spec ok).1, WS.mk' (.cons (.refl _) (.cons (.refl _) (.cons (.refl _) .nil))) ok hwo⟩
              ·
                refine WP_skip ?_
                obtain ⟨hpe, ok⟩ := Hp_pull 1 ok rfl
                rw [hpe]; clear hpe
                obtain ⟨hpe, ok⟩ := Hp_pull 1 ok rfl
                rw [hpe]; clear hpe
                obtain ⟨hpe, ok⟩ := Hp_pull 2 ok rfl
                rw [hpe]; clear hpe
                have hwo : WO ((r16, .room) :: (q0, .cells [.str x14.2.s, .int .i64 x14.2.at_, mslO 2 u15 x14.2.f, .cplx .f64 x14.2.pen.1 x14.2.pen.2, .int .i64 x14.2.n, .bool x14.2.open_]) :: mo u15 cR_T_trace_Stroke (tagR (some r16) x14.2.f) :: O) ((r16, .room) :: (q0, .cells [.str x14.2.s, .int .i64 x14.2.at_, mslO 2 u15 x14.2.f, .cplx .f64 x14.2.pen.1 x14.2.pen.2, .int .i64 x14.2.n, .bool x14.2.open_]) :: mo u15 cR_T_trace_Stroke (tagR (some r16) x14.2.f) :: O) := (.keep (.keep (.keep (.refl O))))
                exact ⟨(x14.2.f, x14.2.open_), hF, u15, r16, zu15, zr16, (hwo.spec ok).1, WS.mk' (.cons (.refl _) (.cons (.refl _) (.cons (.refl _) .nil))) ok hwo⟩
            ·
              rintro ⟨a35, a37⟩ s' hF ⟨g34, g36, zg34, zg36, ok, hws⟩
              refine WP_ws hws ?_
              clear hws s'
              refine C_seq ?_
              refine C_drw (mdl []) (by kernel_rfl) (by kernel_rfl) ?_
              refine S_m (v := .ptr _ _) rfl ?_
              refine S_nilc (v := .ptr _ _) rfl rfl ?_
              refine S_faP rfl ty_fd_70_2 ty_sz_23 ?_
              refine S_ldP (j := 1) ok rfl rfl rfl hq0 (p_one (v := mslO 2 g34 a35) ty_ag_23 ty_sz_23 rfl) ?_
              refine S_m (v := .ptr _ _) rfl ?_
              refine S_nilc (v := .ptr _ _) rfl rfl ?_
              refine S_faP rfl ty_fd_70_2 ty_sz_23 ?_
              refine S_ldP (j := 1) ok rfl rfl rfl hq0 (p_one (v := mslO 2 g34 a35) ty_ag_23 ty_sz_23 rfl) ?_
              refine S_lenO zg34 rfl ty_sl_23 ?_
              refine S_bin rfl rfl (ev_sub ..) ?_
              refine S_ixR zg34 rfl rfl ty_sl_23 ty_sz_56 hF (fun x46 hx46 hF => ?_)
              refine S_a (v := .ptr _ _) rfl ?_
              refine S_nil ?_
              refine C_seq ?_
              refine C_reg (mdl [(87, 2)]) ?_
              refine S_m (v := .ptr _ _) rfl ?_
              refine S_m (v := .ptr _ _) rfl ?_
              refine S_nilc (v := .ptr _ _) rfl rfl ?_
              refine S_faP rfl ty_fd_56_0 ty_sz_54 ?_
              refine S_ldR (c := cR_T_trace_Stroke) (q := 2) (j := 2) (f0 := 0) ok rfl zg34 rfl rfl cR_T_trace_Stroke_len hx46 rfl rfl (p_one (v := .sl 1 (List.map c_cplx x46.Spots) g36) ty_ag_54 ty_sz_54 rfl) ?_
              have hg36 := nz_lst zg36 hx46
              refine S_m (v := .cplx _ _ _) rfl ?_
              refine S_lit0 (cs := [.cplx .f64 x14.1.1.1 x14.1.1.2]) (es := (List.map c_cplx [x14.1.1])) rfl ty_el_54 rfl (by kernel_rfl) (by kernel_rfl) ?_
              refine S_app (j := 0) ok rfl rfl rfl rfl hg36 ty_el_54 ty_ni_54 hF ?_
              intro r47 hr47 ok hF
              refine S_nilc (v := .ptr _ _) rfl rfl ?_
              refine S_faP rfl ty_fd_56_0 ty_sz_54 ?_
              refine S_stR (c := cR_T_trace_Stroke) (q := 2) (j := 2) (f0 := 0) (b := (⟨(x46.Spots ++ [x14.1.1]), x46.Closed⟩ : T_trace_Stroke)) (r' := r47) ok zg34 rfl rfl rfl cR_T_trace_Stroke_len hx46 rfl rfl ty_sz_54 rfl rfl (fun za48 ok => ?_)
              obtain ⟨a48, ha48, hF⟩ := F_let hF
              rw [← ha48] at ok za48
              rw [← ha48]
              have hms : mslO 2 g34 a35 = mslO 2 g34 a48 := mslO_len (by rw [ha48, List.length_set])
              try rw [hms] at ok
              try rw [hms]
              clear hms
              refine S_nil ?_
              refine C_seq ?_
              refine C_reg (mdl []) ?_
              refine S_m (v := .ptr _ _) rfl ?_
              refine S_m (v := .cplx _ _ _) rfl ?_
              refine S_nilc (v := .ptr _ _) rfl rfl ?_
              refine S_faP rfl ty_fd_70_3 ty_sz_45 ?_
              refine S_st (j := 1) (cs' := [.str x14.2.s, .int .i64 x14.2.at_, mslO 2 g34 a48, .cplx .f64 x14.1.1.1 x14.1.1.2, .int .i64 x14.2.n, .bool a37]) ok rfl rfl rfl hq0 rfl ty_sz_45 rfl rfl (fun ok => ?_)
              refine S_nil ?_
              refine C_seq ?_
              refine C_reg (mdl []) ?_
              refine S_m (v := .ptr _ _) rfl ?_
              refine S_nilc (v := .ptr _ _) rfl rfl ?_
              refine S_faP rfl ty_fd_70_4 ty_sz_3 ?_
              refine S_ldP (j := 1) ok rfl rfl rfl hq0 (p_one (v := .int .i64 x14.2.n) ty_ag_3 ty_sz_3 rfl) ?_
              refine S_bin rfl rfl (ev_add ..) ?_
              refine S_nilc (v := .ptr _ _) rfl rfl ?_
              refine S_faP rfl ty_fd_70_4 ty_sz_3 ?_
              refine S_st (j := 1) (cs' := [.str x14.2.s, .int .i64 x14.2.at_, mslO 2 g34 a48, .cplx .f64 x14.1.1.1 x14.1.1.2, .int .i64 (IntKind.wrap .i64 (x14.2.n + (1 : Int))), .bool a37]) ok rfl rfl rfl hq0 rfl ty_sz_3 rfl rfl (fun ok => ?_)
              refine S_nil ?_
              refine C_seq ?_
              refine C_reg (mdl []) ?_
              refine S_a (v := .bool _) rfl ?_
              refine S_nil ?_
              refine WP_goto ?_
              repeat (first | with_reducible refine Exit.sel_goto ?_ | with_reducible refine Exit.blk_goto ?_)
              refine jmp_goto rfl ?_
              refine ih13 (x14.2.s, x14.2.at_, a48, x14.1.1, (IntKind.wrap .i64 (x14.2.n + (1 : Int))), a37, false) _ hF ?_
              obtain ⟨hpe, ok⟩ := Hp_pull 2 ok rfl
              rw [hpe]; clear hpe
              obtain ⟨hpe, ok⟩ := Hp_pull 2 ok rfl
              rw [hpe]; clear hpe
              have hwo : WO ((q0, .cells [.str x14.2.s, .int .i64 x14.2.at_, mslO 2 g34 a48, .cplx .f64 x14.1.1.1 x14.1.1.2, .int .i64 (IntKind.wrap .i64 (x14.2.n + (1 : Int))), .bool a37]) :: mo g34 cR_T_trace_Stroke (tagR (some r47) a48) :: (r47, .room) :: O) ((q0, .cells [.str x14.2.s, .int .i64 x14.2.at_, mslO 2 g34 a48, .cplx .f64 x14.1.1.1 x14.1.1.2, .int .i64 (IntKind.wrap .i64 (x14.2.n + (1 : Int))), .bool a37]) :: mo g34 cR_T_trace_Stroke (tagR (some r47) a48) :: (r47, .room) :: O) := (.keep (.keep (.keep (.refl O))))
              exact ⟨g34, r47, za48, (fun h => absurd h hr47), (hwo.spec ok).1, WS.mk' (.cons (.refl _) (.cons (.refl _) (.cons (.refl _) .nil))) ok hwo⟩
theorem F_trace_reader_spots_ok {β : Type} {f0 : (Int × Int) × T_trace_reader → Option β} {G : β → Prop} {R : D → Heap → Prop} {p0 : T_trace_reader} {p1 : Int} {q0 : Nat} {b0_2 : Nat} {b0_2r : Nat} (h : Heap) (O : List (Nat × AObj)) (hq0 : q0 ≠ 0) (zb0_2 : b0_2 = 0 → p0.f = []) (zb0_2r : b0_2r = 0 → p0.f = []) (ok : OK h ((q0, .cells [.str p0.s, .int .i64 p0.at_, mslO 2 b0_2 p0.f, .cplx .f64 p0.pen.1 p0.pen.2, .int .i64 p0.n, .bool p0.open_]) :: mo b0_2 cR_T_trace_Stroke (tagR (some b0_2r) p0.f) :: (b0_2r, .room) :: O)) (hF : OptP ((F_trace_reader_spots p0 p1).bind f0) G) (hk : ∀ r b0_2' b0_2r', F_trace_reader_spots p0 p1 = some r → (b0_2' = 0 → r.2.f = []) → (b0_2r' = 0 → r.2.f = []) → OK h ((q0, .cells [.str r.2.s, .int .i64 r.2.at_, mslO 2 b0_2' r.2.f, .cplx .f64 r.2.pen.1 r.2.pen.2, .int .i64 r.2.n, .bool r.2.open_]) :: mo b0_2' cR_T_trace_Stroke (tagR (some b0_2r') r.2.f) :: (b0_2r', .room) :: O) → OptP (f0 r) G → R (.tup [.int .i64 r.1.1, .int .i64 r.1.2]) (Hp h ((q0, .cells [.str r.2.s, .int .i64 r.2.at_, mslO 2 b0_2' r.2.f, .cplx .f64 r.2.pen.1 r.2.pen.2, .int .i64 r.2.n, .bool r.2.open_]) :: mo b0_2' cR_T_trace_Stroke (tagR (some b0_2r') r.2.f) :: (b0_2r', .room) :: O))) : CallsA Tryd.prog 30 [.ptr q0 0, .int .u8 p1] (Hp h ((q0, .cells [.str p0.s, .int .i64 p0.at_, mslO 2 b0_2 p0.f, .cplx .f64 p0.pen.1 p0.pen.2, .int .i64 p0.n, .bool p0.open_]) :: mo b0_2 cR_T_trace_Stroke (tagR (some b0_2r) p0.f) :: (b0_2r, .room) :: O)) R := by
  obtain ⟨r0, hr, hF⟩ := F_bind hF
  refine (F_trace_reader_spots_w (G := fun r => r = r0) p0 p1 q0 b0_2 b0_2r h O hq0 zb0_2 zb0_2r ok ⟨r0, hr, rfl⟩).mono ?_
  rintro _ _ ⟨r, rfl, rfl, b0_2', b0_2r', y0, y1, ok', rfl⟩
  exact hk _ _ _ hr y0 y1 ok' hF
theorem F_trace_Read_w (p0 : List UInt8) {G : (List T_trace_Stroke) × Int × Int → Prop} (h : Heap) (hF : OptP (F_trace_Read p0) G) : CallsA Tryd.prog 12 [.str p0] h fun d h' => ∃ r, G r ∧ d = .tup [.sl 2 (List.map c_T_trace_Stroke r.1) 0, .int .i64 r.2.1, .int .i64 r.2.2] ∧ h' = h := by
  refine CallsA.ret ?_
  refine C_body Tryd.func12 rfl en_12 Tryd.ntmps12 rfl (fun ok => ?_)
  rw [F_trace_Read] at hF
  refine C_seq ?_
  refine C_reg (mdl []) ?_
  refine S_a (v := .snil) rfl ?_
  refine S_one 2 (v := .sl 2 (List.map c_T_trace_Stroke ([] : List T_trace_Stroke)) 0) (.nil _) ?_
  refine S_a (v := .int _ _) rfl ?_
  refine S_a (v := .int _ _) rfl ?_
  refine S_nil ?_
  refine WP_scope ?_
  refine JW_step ?_
  refine C_seq ?_
  refine C_reg (mdl [(15, 1)]) ?_
  refine S_m (v := .str _) rfl ?_
  refine S_bld (v := .agg [.str p0, .int .i64 (0 : Int), .snil, .cplx .f64 ((0, 0) : Nat × Nat).1 ((0, 0) : Nat × Nat).2, .int .i64 (0 : Int), .bool false]) (b_st ty_zc_70 ty_pl_70 rfl) ?_
  refine S_box1 (cs := [.str p0, .int .i64 (0 : Int), .snil, .cplx .f64 ((0, 0) : Nat × Nat).1 ((0, 0) : Nat × Nat).2, .int .i64 (0 : Int), .bool false]) ok rfl rfl rfl rfl ?_
  intro i1 hi1 ok
  refine S_nilR cR_T_trace_Stroke ok (fun ok => ?_)
  refine S_a (v := .ptr _ _) rfl ?_
  refine S_nil ?_
  refine C_seq ?_
  refine WP_label ?_
  refine C_gloop (σ := (List UInt8) × Int × (List T_trace_Stroke) × (Nat × Nat) × Int × Bool) hF (fun (v : (List UInt8) × Int × (List T_trace_Stroke) × (Nat × Nat) × Int × Bool) s' => match v with | (a4, a5, a7, a9, a10, a11) => ∃ g6 g8 : Nat, (g6 = 0 → a7 = []) ∧ (g8 = 0 → a7 = []) ∧ OK h [mo g6 cR_T_trace_Stroke (tagR (some g8) a7), (g8, .room), (i1, .cells [.str a4, .int .i64 a5, mslO 2 g6 a7, .cplx .f64 a9.1 a9.2, .int .i64 a10, .bool a11])] ∧ WS s' ⟨mkSl 94 [(0, .str p0), (5, .ptr i1 0)], Hp h [mo g6 cR_T_trace_Stroke (tagR (some g8) a7), (g8, .room), (i1, .cells [.str a4, .int .i64 a5, mslO 2 g6 a7, .cplx .f64 a9.1 a9.2, .int .i64 a10, .bool a11])]⟩) ?_ ?_
  ·
    have hwo : WO [mo 0 cR_T_trace_Stroke (tagR (some 0) ([] : List T_trace_Stroke)), (0, .room), (i1, .cells [.str p0, .int .i64 (0 : Int), mslO 2 0 ([] : List T_trace_Stroke), .cplx .f64 ((0, 0) : Nat × Nat).1 ((0, 0) : Nat × Nat).2, .int .i64 (0 : Int), .bool false])] [mo 0 cR_T_trace_Stroke (tagR (some 0) ([] : List T_trace_Stroke)), (0, .room), (i1, .cells [.str p0, .int .i64 (0 : Int), mslO 2 0 ([] : List T_trace_Stroke), .cplx .f64 ((0, 0) : Nat × Nat).1 ((0, 0) : Nat × Nat).2, .int .i64 (0 : Int), .bool false])] := (.keep (.keep (.keep .nil)))
    exact ⟨0, 0, (fun _ => rfl), (fun _ => rfl), (hwo.spec ok).1, WS.mk' (.cons (.refl _) (.cons (.refl _) .nil)) ok hwo⟩
  ·
    rintro G12 hG13 rec14 ⟨a4, a5, a7, a9, a10, a11⟩ s' ih15 hF ⟨g6, g8, zg6, zg8, ok, hws⟩
    refine WP_ws hws ?_
    clear hws s'
    rw [F_trace_Read_l0] at hF
    refine C_seq ?_
    refine C_reg (mdl []) ?_
    refine S_m (v := .ptr _ _) rfl ?_
    obtain ⟨hpe, ok⟩ := Hp_pull 1 ok rfl
    rw [hpe]; clear hpe
    obtain ⟨hpe, ok⟩ := Hp_pull 1 ok rfl
    rw [hpe]; clear hpe
    obtain ⟨hpe, ok⟩ := Hp_pull 2 ok rfl
    rw [hpe]; clear hpe
    refine S_call (F_trace_reader_look_ok (p0 := (⟨a4, a5, a7, a9, a10, a11⟩ : T_trace_reader)) (q0 := i1) (b0_2 := g6) (b0_2r := g8) h [] hi1 zg6 zg8 ok hF fun x16 _  ok hF => ?_) (.cons (.refl _) (.nil))
    refine S_m (v := .tup _) rfl ?_
    refine S_ext rfl rfl ?_
    refine S_ext rfl rfl ?_
    refine S_ext rfl rfl ?_
    refine S_a (v := .int _ _) rfl ?_
    refine S_a (v := .int _ _) rfl ?_
    refine S_a (v := .int _ _) rfl ?_
    refine S_nil ?_
    refine C_seq ?_
    refine C_seq ?_
    refine C_reg (mdl []) ?_
    refine S_m (v := .int _ _) rfl ?_
    refine S_bin rfl rfl (ev_eql ..) ?_
    refine S_nil ?_
    refine C_if (b := (x16.1 == (0 : Int))) rfl hF (fun hb17 hF => ?_) (fun hb17 hF => ?_)
    ·
      refine C_seq ?_
      refine C_reg (mdl []) ?_
      refine S_m (v := .ptr _ _) rfl ?_
      refine S_nilc (v := .ptr _ _) rfl rfl ?_
      refine S_faP rfl ty_fd_70_2 ty_sz_23 ?_
      refine S_ldP (j := 0) ok rfl rfl rfl hi1 (p_one (v := mslO 2 g6 a7) ty_ag_23 ty_sz_23 rfl) ?_
      refine S_a (v := mslO _ _ _) rfl ?_
      refine S_frzR (c := cR_T_trace_Stroke) (c1 := c_T_trace_Stroke) 1 2 ok zg6 rfl rfl cR_T_trace_Stroke_len (cR_T_trace_Stroke_w _) (fun _ => rfl) (fun ok => ?_)
      refine S_a (v := .int _ _) rfl ?_
      refine S_a (v := .int _ _) rfl ?_
      refine S_nil ?_
      refine WP_ret ?_
      replace hF := hG13 _ (F_some hF)
      repeat (first | with_reducible refine Exit.sel_ret ?_ | with_reducible refine Exit.blk_ret ?_ | with_reducible refine Exit.jmp_ret ?_)
      refine C_ret (fn := Tryd.f12) rfl (.tmp (v := .sl 2 (List.map c_T_trace_Stroke a7) 0) rfl (.tmp (v := .int .i64 (0 : Int)) rfl (.tmp (v := .int .i64 (0 : Int)) rfl .nil))) ?_
      exact ⟨_, _, (.tupC (.cons (.refl _) (.cons (.refl _) (.cons (.refl _) (.nil))))), ok.wh, _, F_some hF, rfl, rfl⟩
    ·
      refine WP_skip ?_
      refine C_seq ?_
      refine C_seq ?_
      refine C_reg (mdl []) ?_
      refine S_m (v := .int _ _) rfl ?_
      refine S_bin rfl rfl (ev_neq ..) ?_
      refine S_nil ?_
      refine C_if (b := (x16.1 != (1 : Int))) rfl hF (fun hb19 hF => ?_) (fun hb19 hF => ?_)
      ·
        refine C_seq ?_
        refine C_reg (mdl []) ?_
        refine S_m (v := .int _ _) rfl ?_
        refine S_a (v := .snil) rfl ?_
        refine S_one 2 (v := .sl 2 (List.map c_T_trace_Stroke ([] : List T_trace_Stroke)) 0) (.nil _) ?_
        refine S_a (v := .int _ _) rfl ?_
        refine S_a (v := .int _ _) rfl ?_
        refine S_nil ?_
        refine WP_ret ?_
        replace hF := hG13 _ (F_some hF)
        repeat (first | with_reducible refine Exit.sel_ret ?_ | with_reducible refine Exit.blk_ret ?_ | with_reducible refine Exit.jmp_ret ?_)
        refine C_ret (fn := Tryd.f12) rfl (.tmp (v := .sl 2 (List.map c_T_trace_Stroke ([] : List T_trace_Stroke)) 0) rfl (.tmp (v := .int .i64 x16.2.1) rfl (.tmp (v := .int .i64 (37 : Int)) rfl .nil))) ?_
        exact ⟨_, _, (.tupC (.cons (.refl _) (.cons (.refl _) (.cons (.refl _) (.nil))))), ok.wh, _, F_some hF, rfl, rfl⟩
      ·
        refine WP_skip ?_
        refine C_seq ?_
        refine C_reg (mdl []) ?_
        refine S_m (v := .str _) rfl ?_
        refine S_m (v := .int _ _) rfl ?_
        refine S_ixS rfl rfl ty_st_9 hF (fun x20 _ hF => ?_)
        refine S_a (v := .int _ _) rfl ?_
        refine S_nil ?_
        refine C_seq ?_
        refine C_reg (mdl []) ?_
        refine S_m (v := .ptr _ _) rfl ?_
        refine S_m (v := .int _ _) rfl ?_
        refine S_nilc (v := .ptr _ _) rfl rfl ?_
        refine S_faP rfl ty_fd_70_1 ty_sz_3 ?_
        refine S_st (j := 0) (cs' := [.str a4, .int .i64 x16.2.2, mslO 2 g6 a7, .cplx .f64 a9.1 a9.2, .int .i64 a10, .bool a11]) ok rfl rfl rfl hi1 rfl ty_sz_3 rfl rfl (fun ok => ?_)
        refine S_nil ?_
        refine C_seq ?_
        refine C_seq ?_
        refine C_reg (mdl []) ?_
        refine S_m (v := .int _ _) rfl ?_
        refine S_bin rfl rfl (ev_neq ..) ?_
        refine S_m (v := .bool _) rfl ?_
        refine S_two (b := ((x20.toNat : Int) != (77 : Int))) 3 43 (.bool (((x20.toNat : Int) != (77 : Int)) && ((x20.toNat : Int) != (109 : Int)))) (fun hb21 => ?_) (fun hb21 => ?_) ?_
        ·
          refine S_on rfl rfl hb21 ?_
          refine S_in ?_
          refine S_m (v := .int _ _) rfl ?_
          refine S_nil ?_
          refine S_on rfl rfl hb21 ?_
          refine S_in ?_
          refine S_bin rfl rfl (ev_neq ..) ?_
          refine S_nil ?_
          refine S_pickT (v := .bool _) rfl hb21 rfl ?_
          refine S_nil ?_
          refine .hd (and_t hb21) ?_
          repeat (first | with_reducible exact WS.refl _ | refine WS.add ?_ rfl | exact WS.refl _)
        ·
          refine S_off rfl rfl hb21 ?_
          refine S_offD ?_
          refine S_off rfl rfl hb21 ?_
          refine S_offD ?_
          refine S_pickF (v := .bool _) rfl hb21 rfl ?_
          refine S_nil ?_
          refine .hd (and_f hb21) ?_
          repeat (first | with_reducible exact WS.refl _ | refine WS.add ?_ rfl | exact WS.refl _)
        refine S_m (v := .bool _) rfl ?_
        refine S_twoJ 6 50 hF (fun J23 hb22 hF => ?_) (fun J23 hb22 hF => ?_) (fun v24 hF => ?_)
        ·
          refine S_on rfl rfl hb22 ?_
          refine S_in ?_
          refine S_m (v := .ptr _ _) rfl ?_
          refine S_nil ?_
          refine S_on rfl rfl hb22 ?_
          refine S_in ?_
          refine S_nilc (v := .ptr _ _) rfl rfl ?_
          refine S_nil ?_
          refine S_on rfl rfl hb22 ?_
          refine S_in ?_
          refine S_faP rfl ty_fd_70_5 ty_sz_4 ?_
          refine S_nil ?_
          refine S_on rfl rfl hb22 ?_
          refine S_in ?_
          refine S_ldP (j := 0) ok rfl rfl rfl hi1 (p_one (v := .bool a11) ty_ag_4 ty_sz_4 rfl) ?_
          refine S_nil ?_
          refine S_on rfl rfl hb22 ?_
          refine S_in ?_
          refine S_un rfl (ev_not _) ?_
          refine S_nil ?_
          refine S_pickT (v := .bool _) rfl hb22 rfl ?_
          refine S_nil ?_
          refine ⟨_, hF, .hd (.refl _) ?_⟩
          repeat (first | with_reducible exact WS.refl _ | refine WS.add ?_ rfl | exact WS.refl _)
        ·
          refine S_off rfl rfl hb22 ?_
          refine S_offD ?_
          refine S_off rfl rfl hb22 ?_
          refine S_offD ?_
          refine S_off rfl rfl hb22 ?_
          refine S_offD ?_
          refine S_off rfl rfl hb22 ?_
          refine S_offD ?_
          refine S_off rfl rfl hb22 ?_
          refine S_offD ?_
          refine S_pickF (v := .bool _) rfl hb22 rfl ?_
          refine S_nil ?_
          refine ⟨_, hF, .hd (.refl _) ?_⟩
          repeat (first | with_reducible exact WS.refl _ | refine WS.add ?_ rfl | exact WS.refl _)
        ·
          refine S_nil ?_
          refine C_if (b := v24) rfl hF (fun hb25 hF => ?_) (fun hb25 hF => ?_)
          ·
            refine C_seq ?_
            refine C_reg (mdl []) ?_
            refine S_m (v := .int _ _) rfl ?_
            refine S_a (v := .snil) rfl ?_
            refine S_one 2 (v := .sl 2 (List.map c_T_trace_Stroke ([] : List T_trace_Stroke)) 0) (.nil _) ?_
            refine S_a (v := .int _ _) rfl ?_
            refine S_a (v := .int _ _) rfl ?_
            refine S_nil ?_
            refine WP_ret ?_
            replace hF := hG13 _ (F_some hF)
            repeat (first | with_reducible refine Exit.sel_ret ?_ | with_reducible refine Exit.blk_ret ?_ | with_reducible refine Exit.jmp_ret ?_)
            refine C_ret (fn := Tryd.f12) rfl (.tmp (v := .sl 2 (List.map c_T_trace_Stroke ([] : List T_trace_Stroke)) 0) rfl (.tmp (v := .int .i64 x16.2.1) rfl (.tmp (v := .int .i64 (37 : Int)) rfl .nil))) ?_
            exact ⟨_, _, (.tupC (.cons (.refl _) (.cons (.refl _) (.cons (.refl _) (.nil))))), ok.wh, _, F_some hF, rfl, rfl⟩
          ·
            refine WP_skip ?_
            refine C_seq ?_
            refine C_seq ?_
            refine C_reg (mdl []) ?_
            refine S_m (v := .int _ _) rfl ?_
            refine S_bin rfl rfl (ev_eql ..) ?_
            refine S_m (v := .bool _) rfl ?_
            refine S_two (b := ((x20.toNat : Int) == (90 : Int))) 3 57 (.bool (((x20.toNat : Int) == (90 : Int)) || ((x20.toNat : Int) == (122 : Int)))) (fun hb26 => ?_) (fun hb26 => ?_) ?_
            ·
              refine S_off rfl rfl hb26 ?_
              refine S_offD ?_
              refine S_off rfl rfl hb26 ?_
              refine S_offD ?_
              refine S_pickT (v := .bool _) rfl hb26 rfl ?_
              refine S_nil ?_
              refine .hd (or_t hb26) ?_
              repeat (first | with_reducible exact WS.refl _ | refine WS.add ?_ rfl | exact WS.refl _)
            ·
              refine S_on rfl rfl hb26 ?_
              refine S_in ?_
              refine S_m (v := .int _ _) rfl ?_
              refine S_nil ?_
              refine S_on rfl rfl hb26 ?_
              refine S_in ?_
              refine S_bin rfl rfl (ev_eql ..) ?_
              refine S_nil ?_
              refine S_pickF (v := .bool _) rfl hb26 rfl ?_
              refine S_nil ?_
              refine .hd (or_f hb26) ?_
              repeat (first | with_reducible exact WS.refl _ | refine WS.add ?_ rfl | exact WS.refl _)
            refine S_nil ?_
            refine C_if (b := (((x20.toNat : Int) == (90 : Int)) || ((x20.toNat : Int) == (122 : Int)))) rfl hF (fun hb27 hF => ?_) (fun hb27 hF => ?_)
            ·
              refine C_seq ?_
              refine C_drw (mdl []) (by kernel_rfl) (by kernel_rfl) ?_
              refine S_m (v := .ptr _ _) rfl ?_
              refine S_nilc (v := .ptr _ _) rfl rfl ?_
              refine S_faP rfl ty_fd_70_2 ty_sz_23 ?_
              refine S_ldP (j := 0) ok rfl rfl rfl hi1 (p_one (v := mslO 2 g6 a7) ty_ag_23 ty_sz_23 rfl) ?_
              refine S_m (v := .ptr _ _) rfl ?_
              refine S_nilc (v := .ptr _ _) rfl rfl ?_
              refine S_faP rfl ty_fd_70_2 ty_sz_23 ?_
              refine S_ldP (j := 0) ok rfl rfl rfl hi1 (p_one (v := mslO 2 g6 a7) ty_ag_23 ty_sz_23 rfl) ?_
              refine S_lenO zg6 rfl ty_sl_23 ?_
              refine S_bin rfl rfl (ev_sub ..) ?_
              refine S_ixR zg6 rfl rfl ty_sl_23 ty_sz_56 hF (fun x28 hx28 hF => ?_)
              refine S_a (v := .ptr _ _) rfl ?_
              refine S_nil ?_
              refine C_seq ?_
              refine C_reg (mdl []) ?_
              refine S_m (v := .ptr _ _) rfl ?_
              refine S_m (v := .ptr _ _) rfl ?_
              refine S_m (v := .ptr _ _) rfl ?_
              refine S_m (v := .ptr _ _) rfl ?_
              refine S_nilc (v := .ptr _ _) rfl rfl ?_
              refine S_faP rfl ty_fd_56_0 ty_sz_54 ?_
              refine S_ldR (c := cR_T_trace_Stroke) (q := 2) (j := 1) (f0 := 0) ok rfl zg6 rfl rfl cR_T_trace_Stroke_len hx28 rfl rfl (p_one (v := .sl 1 (List.map c_cplx x28.Spots) g8) ty_ag_54 ty_sz_54 rfl) ?_
              refine S_one 75 (v := .sl 1 (List.map c_cplx x28.Spots) 0) (.zero _ _ _) ?_
              refine S_ix rfl rfl ty_sl_54 ty_sz_45 hF (fun x29 _ hF => ?_)
              refine S_ldQ rfl (p_one ty_ag_45 ty_sz_45 rfl) ?_
              refine S_nilc (v := .ptr _ _) rfl rfl ?_
              refine S_faP rfl ty_fd_56_1 ty_sz_4 ?_
              refine S_stR (c := cR_T_trace_Stroke) (q := 2) (j := 1) (f0 := 1) (b := (⟨x28.Spots, true⟩ : T_trace_Stroke)) (r' := g8) ok zg6 rfl rfl rfl cR_T_trace_Stroke_len hx28 rfl rfl ty_sz_4 rfl rfl (fun za30 ok => ?_)
              obtain ⟨a30, ha30, hF⟩ := F_let hF
              rw [← ha30] at ok za30
              rw [← ha30]
              have hms : mslO 2 g6 a7 = mslO 2 g6 a30 := mslO_len (by rw [ha30, List.length_set])
              try rw [hms] at ok
              try rw [hms]
              clear hms
              have hg8 := nz_lst zg8 hx28
              refine S_nilc (v := .ptr _ _) rfl rfl ?_
              refine S_faP rfl ty_fd_70_5 ty_sz_4 ?_
              refine S_st (j := 0) (cs' := [.str a4, .int .i64 x16.2.2, mslO 2 g6 a30, .cplx .f64 a9.1 a9.2, .int .i64 a10, .bool false]) ok rfl rfl rfl hi1 rfl ty_sz_4 rfl rfl (fun ok => ?_)
              refine S_nilc (v := .ptr _ _) rfl rfl ?_
              refine S_faP rfl ty_fd_70_3 ty_sz_45 ?_
              refine S_st (j := 0) (cs' := [.str a4, .int .i64 x16.2.2, mslO 2 g6 a30, .cplx .f64 x29.1 x29.2, .int .i64 a10, .bool false]) ok rfl rfl rfl hi1 rfl ty_sz_45 rfl rfl (fun ok => ?_)
              refine S_nil ?_
              refine WP_goto ?_
              repeat (first | with_reducible refine Exit.sel_goto ?_ | with_reducible refine Exit.blk_goto ?_)
              refine jmp_goto rfl ?_
              refine ih15 (a4, x16.2.2, a30, x29, a10, false) _ hF ?_
              obtain ⟨hpe, ok⟩ := Hp_pull 2 ok rfl
              rw [hpe]; clear hpe
              obtain ⟨hpe, ok⟩ := Hp_pull 2 ok rfl
              rw [hpe]; clear hpe
              have hwo : WO [mo g6 cR_T_trace_Stroke (tagR (some g8) a30), (g8, .room), (i1, .cells [.str a4, .int .i64 x16.2.2, mslO 2 g6 a30, .cplx .f64 x29.1 x29.2, .int .i64 a10, .bool false])] [mo g6 cR_T_trace_Stroke (tagR (some g8) a30), (g8, .room), (i1, .cells [.str a4, .int .i64 x16.2.2, mslO 2 g6 a30, .cplx .f64 x29.1 x29.2, .int .i64 a10, .bool false])] := (.keep (.keep (.keep .nil)))
              exact ⟨g6, g8, za30, (fun h => absurd h hg8), (hwo.spec ok).1, WS.mk' (.cons (.refl _) (.cons (.refl _) .nil)) ok hwo⟩
            ·
              refine WP_skip ?_
              refine C_seq ?_
              refine C_seq ?_
              refine C_reg (mdl []) ?_
              refine S_m (v := .ptr _ _) rfl ?_
              refine S_m (v := .int _ _) rfl ?_
              obtain ⟨hpe, ok⟩ := Hp_pull 2 ok rfl
              rw [hpe]; clear hpe
              obtain ⟨hpe, ok⟩ := Hp_pull 2 ok rfl
              rw [hpe]; clear hpe
              obtain ⟨hpe, ok⟩ := Hp_pull 2 ok rfl
              rw [hpe]; clear hpe
              refine S_call (F_trace_reader_spots_ok (p0 := (⟨a4, x16.2.2, a7, a9, a10, a11⟩ : T_trace_reader)) (q0 := i1) (b0_2 := g6) (b0_2r := g8) h [] hi1 zg6 zg8 ok hF fun x31 u32 r33 _ zu32 zr33 ok hF => ?_) (.cons (.refl _) (.cons (.refl _) (.nil)))
              refine S_m (v := .tup _) rfl ?_
              refine S_ext rfl rfl ?_
              refine S_ext rfl rfl ?_
              refine S_a (v := .int _ _) rfl ?_
              refine S_a (v := .int _ _) rfl ?_
              refine S_nil ?_
              refine C_seq ?_
              refine C_reg (mdl []) ?_
              refine S_m (v := .int _ _) rfl ?_
              refine S_bin rfl rfl (ev_neq ..) ?_
              refine S_nil ?_
              refine C_if (b := (x31.1.2 != (0 : Int))) rfl hF (fun hb34 hF => ?_) (fun hb34 hF => ?_)
              ·
                refine C_seq ?_
                refine C_reg (mdl []) ?_
                refine S_m (v := .int _ _) rfl ?_
                refine S_m (v := .int _ _) rfl ?_
                refine S_a (v := .snil) rfl ?_
                refine S_one 2 (v := .sl 2 (List.map c_T_trace_Stroke ([] : List T_trace_Stroke)) 0) (.nil _) ?_
                refine S_a (v := .int _ _) rfl ?_
                refine S_a (v := .int _ _) rfl ?_
                refine S_nil ?_
                refine WP_ret ?_
                replace hF := hG13 _ (F_some hF)
                repeat (first | with_reducible refine Exit.sel_ret ?_ | with_reducible refine Exit.blk_ret ?_ | with_reducible refine Exit.jmp_ret ?_)
                refine C_ret (fn := Tryd.f12) rfl (.tmp (v := .sl 2 (List.map c_T_trace_Stroke ([] : List T_trace_Stroke)) 0) rfl (.tmp (v := .int .i64 x31.1.1) rfl (.tmp (v := .int .i64 x31.1.2) rfl .nil))) ?_
                exact ⟨_, _, (.tupC (.cons (.refl _) (.cons (.refl _) (.cons (.refl _) (.nil))))), ok.wh, _, F_some hF, rfl, rfl⟩
              ·
                refine WP_skip ?_
                refine WP_goto ?_
                repeat (first | with_reducible refine Exit.sel_goto ?_ | with_reducible refine Exit.blk_goto ?_)
                refine jmp_goto rfl ?_
                refine ih15 (x31.2.s, x31.2.at_, x31.2.f, x31.2.pen, x31.2.n, x31.2.open_) _ hF ?_
                obtain ⟨hpe, ok⟩ := Hp_pull 2 ok rfl
                rw [hpe]; clear hpe
                obtain ⟨hpe, ok⟩ := Hp_pull 2 ok rfl
                rw [hpe]; clear hpe
                have hwo : WO [mo u32 cR_T_trace_Stroke (tagR (some r33) x31.2.f), (r33, .room), (i1, .cells [.str x31.2.s, .int .i64 x31.2.at_, mslO 2 u32 x31.2.f, .cplx .f64 x31.2.pen.1 x31.2.pen.2, .int .i64 x31.2.n, .bool x31.2.open_])] [mo u32 cR_T_trace_Stroke (tagR (some r33) x31.2.f), (r33, .room), (i1, .cells [.str x31.2.s, .int .i64 x31.2.at_, mslO 2 u32 x31.2.f, .cplx .f64 x31.2.pen.1 x31.2.pen.2, .int .i64 x31.2.n, .bool x31.2.open_])] := (.keep (.keep (.keep .nil)))
                exact ⟨u32, r33, zu32, zr33, (hwo.spec ok).1, WS.mk' (.cons (.refl _) (.cons (.refl _) .nil)) ok hwo⟩
theorem F_trace_Read_ok {β : Type} {f : (List T_trace_Stroke) × Int × Int → Option β} {G : β → Prop} {R : D → Heap → Prop} {p0 : List UInt8} (h : Heap) (hF : OptP ((F_trace_Read p0).bind f) G) (hk : ∀ r, F_trace_Read p0 = some r → OptP (f r) G → R (.tup [.sl 2 (List.map c_T_trace_Stroke r.1) 0, .int .i64 r.2.1, .int .i64 r.2.2]) h) : CallsA Tryd.prog 12 [.str p0] h R := by
  obtain ⟨r0, hr, hF⟩ := F_bind hF
  refine (F_trace_Read_w (G := fun r => r = r0) p0 h ⟨r0, hr, rfl⟩).mono ?_
  rintro _ _ ⟨r, rfl, rfl, rfl⟩
  exact hk _ hr hF
theorem F_slices_IndexFunc_complex128_complex128_w (p0 : List (Nat × Nat)) (p1 : (Nat × Nat) → Option Bool) (f1 : FuncId) (fi1 ca1 : List D) (hf1 : ∀ (x0 : Nat × Nat) (G : Bool → Prop) (h : Heap), OptP (p1 x0) G → CallsA Tryd.prog f1 (fi1 ++ [.cplx .f64 x0.1 x0.2] ++ ca1) h fun d h' => ∃ r, G r ∧ d = .bool r ∧ h' = h) {G : Int → Prop} (h : Heap) (hF : OptP (F_slices_IndexFunc_complex128_complex128 p0 p1) G) : CallsA Tryd.prog 53 [.sl 1 (List.map c_cplx p0) 0, .fn (.func f1) fi1 ca1] h fun d h' => ∃ r, G r ∧ d = .int .i64 r ∧ h' = h := by
  refine CallsA.ret ?_
  refine C_body Tryd.func53 rfl en_53 Tryd.ntmps53 rfl (fun ok => ?_)
  rw [F_slices_IndexFunc_complex128_complex128] at hF
  refine C_seq ?_
  refine C_reg (mdl []) ?_
  refine S_a (v := .int _ _) rfl ?_
  refine S_nil ?_
  refine C_join hF (fun (_ : Unit) s' => OK h [] ∧ WS s' ⟨mkSl 19 [], Hp h []⟩) (fun J6 hF => ?_) ?_
  ·
    refine C_seq ?_
    refine C_reg (mdl []) ?_
    refine S_m (v := .sl _ _ _) rfl ?_
    refine S_lenL rfl ty_sl_54 ?_
    refine S_m (v := .int _ _) rfl ?_
    refine S_nil ?_
    refine WP_block ?_
    refine C_loop (σ := Int) hF (fun (a7 : Int) s' => OK h [] ∧ WS s' ⟨mkSl 19 [(0, .sl 1 (List.map c_cplx p0) 0), (1, .fn (.func f1) fi1 ca1), (7, .int .i64 (p0.length : Int)), (8, .int .i64 a7)], Hp h []⟩) ?_ ?_
    ·
      have hwo : WO [] [] := .nil
      exact ⟨(hwo.spec ok).1, WS.mk' (.cons (.refl _) (.cons (.refl _) (.cons (.refl _) (.cons (.refl _) .nil)))) ok hwo⟩
    ·
      rintro G8 hG9 rec10 a7 s' ih11 hF ⟨ok, hws⟩
      refine WP_ws hws ?_
      clear hws s'
      rw [F_slices_IndexFunc_complex128_complex128_l0] at hF
      refine C_seq ?_
      refine C_reg (mdl []) ?_
      refine S_bin rfl rfl (ev_lss ..) ?_
      refine S_nil ?_
      refine C_seq ?_
      refine C_if (b := (decide (a7 < (p0.length : Int)))) rfl hF (fun hb12 hF => ?_) (fun hb12 hF => ?_)
      ·
        refine WP_skip ?_
        refine C_seq ?_
        refine WP_block ?_
        refine C_seq ?_
        refine C_reg (mdl []) ?_
        refine S_m (v := .int _ _) rfl ?_
        refine S_a (v := .int _ _) rfl ?_
        refine S_nil ?_
        refine C_seq ?_
        refine C_reg (mdl []) ?_
        refine S_m (v := .fn (.func _) _ _) rfl ?_
        refine S_m (v := .sl _ _ _) rfl ?_
        refine S_m (v := .int _ _) rfl ?_
        refine S_ix rfl rfl ty_sl_54 ty_sz_45 hF (fun x13 _ hF => ?_)
        refine S_ldQ rfl (p_one ty_ag_45 ty_sz_45 rfl) ?_
        refine S_callV rfl (ok_of (enc := fun r => .bool r) (fun G h hF => hf1 x13 G h hF) _ hF fun x14 _ hF => ?_) (.app (.app (.refl _) (.cons (.refl _) (.nil))) (.refl _))
        refine S_nil ?_
        refine C_if (b := x14) rfl hF (fun hb15 hF => ?_) (fun hb15 hF => ?_)
        ·
          refine C_seq ?_
          refine C_reg (mdl []) ?_
          refine S_m (v := .int _ _) rfl ?_
          refine S_a (v := .int _ _) rfl ?_
          refine S_nil ?_
          refine WP_ret ?_
          replace hF := hG9 _ (F_some hF)
          repeat (first | with_reducible refine Exit.sel_ret ?_ | with_reducible refine Exit.blk_ret ?_ | with_reducible refine Exit.jmp_ret ?_)
          refine C_ret (fn := Tryd.f53) rfl (.tmp (v := .int .i64 a7) rfl .nil) ?_
          exact ⟨_, _, (.refl _), ok.wh, _, F_some hF, rfl, rfl⟩
        ·
          refine WP_skip ?_
          refine C_reg (mdl []) ?_
          refine S_bin rfl rfl (ev_add ..) ?_
          refine S_m (v := .int _ _) rfl ?_
          refine S_nil ?_
          refine ih11 (IntKind.wrap .i64 (a7 + (1 : Int))) _ hF ?_
          have hwo : WO [] [] := .nil
          exact ⟨(hwo.spec ok).1, WS.mk' (.cons (.refl _) (.cons (.refl _) (.cons (.refl _) (.cons (.refl _) .nil)))) ok hwo⟩
      ·
        refine WP_exit ?_
        simp only [Exit.sel, Exit.blk, Exit.jmp, if_true, if_false, reduceIte, Nat.reduceEqDiff, Nat.succ_ne_zero, Nat.zero_ne_one, Nat.one_ne_zero]
        replace hF := hG9 _ (F_some hF)
        have hwo : WO [] [] := .nil
        exact ⟨(), hF, (hwo.spec ok).1, WS.mk' .nil ok hwo⟩
  ·
    rintro ⟨⟩ s' hF ⟨ok, hws⟩
    refine WP_ws hws ?_
    clear hws s'
    refine C_seq ?_
    refine C_reg (mdl []) ?_
    refine S_a (v := .int _ _) rfl ?_
    refine S_nil ?_
    refine WP_ret ?_
    repeat (first | with_reducible refine Exit.sel_ret ?_ | with_reducible refine Exit.blk_ret ?_ | with_reducible refine Exit.jmp_ret ?_)
    refine C_ret (fn := Tryd.f53) rfl (.tmp (v := .int .i64 (-1 : Int)) rfl .nil) ?_
    exact ⟨_, _, (.refl _), ok.wh, _, F_some hF, rfl, rfl⟩
theorem F_slices_IndexFunc_complex128_complex128_ok {β : Type} {f : Int → Option β} {G : β → Prop} {R : D → Heap → Prop} {p0 : List (Nat × Nat)} {p1 : (Nat × Nat) → Option Bool} {f1 : FuncId} {fi1 ca1 : List D} (hf1 : ∀ (x0 : Nat × Nat) (G : Bool → Prop) (h : Heap), OptP (p1 x0) G → CallsA Tryd.prog f1 (fi1 ++ [.cplx .f64 x0.1 x0.2] ++ ca1) h fun d h' => ∃ r, G r ∧ d = .bool r ∧ h' = h) (h : Heap) (hF : OptP ((F_slices_IndexFunc_complex128_complex128 p0 p1).bind f) G) (hk : ∀ r, F_slices_IndexFunc_complex128_complex128 p0 p1 = some r → OptP (f r) G → R (.int .i64 r) h) : CallsA Tryd.prog 53 [.sl 1 (List.map c_cplx p0) 0, .fn (.func f1) fi1 ca1] h R := by
  obtain ⟨r0, hr, hF⟩ := F_bind hF
  refine (F_slices_IndexFunc_complex128_complex128_w (G := fun r => r = r0) p0 p1 f1 fi1 ca1 hf1 h ⟨r0, hr, rfl⟩).mono ?_
  rintro _ _ ⟨r, rfl, rfl, rfl⟩
  exact hk _ hr hF
theorem F_slices_ContainsFunc_complex128_complex128_w (p0 : List (Nat × Nat)) (p1 : (Nat × Nat) → Option Bool) (f1 : FuncId) (fi1 ca1 : List D) (hf1 : ∀ (x0 : Nat × Nat) (G : Bool → Prop) (h : Heap), OptP (p1 x0) G → CallsA Tryd.prog f1 (fi1 ++ [.cplx .f64 x0.1 x0.2] ++ ca1) h fun d h' => ∃ r, G r ∧ d = .bool r ∧ h' = h) {G : Bool → Prop} (h : Heap) (hF : OptP (F_slices_ContainsFunc_complex128_complex128 p0 p1) G) : CallsA Tryd.prog 44 [.sl 1 (List.map c_cplx p0) 0, .fn (.func f1) fi1 ca1] h fun d h' => ∃ r, G r ∧ d = .bool r ∧ h' = h := by
  refine CallsA.ret ?_
  refine C_body Tryd.func44 rfl en_44 Tryd.ntmps44 rfl (fun ok => ?_)
  rw [F_slices_ContainsFunc_complex128_complex128] at hF
  refine C_seq ?_
  refine C_reg (mdl []) ?_
  refine S_a (v := .bool _) rfl ?_
  refine S_nil ?_
  refine C_seq ?_
  refine C_reg (mdl []) ?_
  refine S_m (v := .sl _ _ _) rfl ?_
  refine S_m (v := .fn (.func _) _ _) rfl ?_
  refine S_call (F_slices_IndexFunc_complex128_complex128_ok (f1 := f1) (fi1 := fi1) (ca1 := ca1) hf1 _ hF fun x1 _ hF => ?_) (.cons (.refl _) (.cons (.refl _) (.nil)))
  refine S_bin rfl rfl (ev_geq ..) ?_
  refine S_a (v := .bool _) rfl ?_
  refine S_nil ?_
  refine WP_ret ?_
  repeat (first | with_reducible refine Exit.sel_ret ?_ | with_reducible refine Exit.blk_ret ?_ | with_reducible refine Exit.jmp_ret ?_)
  refine C_ret (fn := Tryd.f44) rfl (.tmp (v := .bool (decide ((0 : Int) ≤ x1))) rfl .nil) ?_
  exact ⟨_, _, (.refl _), ok.wh, _, F_some hF, rfl, rfl⟩
theorem F_slices_ContainsFunc_complex128_complex128_ok {β : Type} {f : Bool → Option β} {G : β → Prop} {R : D → Heap → Prop} {p0 : List (Nat × Nat)} {p1 : (Nat × Nat) → Option Bool} {f1 : FuncId} {fi1 ca1 : List D} (hf1 : ∀ (x0 : Nat × Nat) (G : Bool → Prop) (h : Heap), OptP (p1 x0) G → CallsA Tryd.prog f1 (fi1 ++ [.cplx .f64 x0.1 x0.2] ++ ca1) h fun d h' => ∃ r, G r ∧ d = .bool r ∧ h' = h) (h : Heap) (hF : OptP ((F_slices_ContainsFunc_complex128_complex128 p0 p1).bind f) G) (hk : ∀ r, F_slices_ContainsFunc_complex128_complex128 p0 p1 = some r → OptP (f r) G → R (.bool r) h) : CallsA Tryd.prog 44 [.sl 1 (List.map c_cplx p0) 0, .fn (.func f1) fi1 ca1] h R := by
  obtain ⟨r0, hr, hF⟩ := F_bind hF
  refine (F_slices_ContainsFunc_complex128_complex128_w (G := fun r => r = r0) p0 p1 f1 fi1 ca1 hf1 h ⟨r0, hr, rfl⟩).mono ?_
  rintro _ _ ⟨r, rfl, rfl, rfl⟩
  exact hk _ hr hF
theorem F_trace_right_1_w (p0 : Nat × Nat) {G : Bool → Prop} (h : Heap) (hF : OptP (F_trace_right_1 p0) G) : CallsA Tryd.prog 45 [.cplx .f64 p0.1 p0.2] h fun d h' => ∃ r, G r ∧ d = .bool r ∧ h' = h := by
  refine CallsA.ret ?_
  refine C_body Tryd.func45 rfl en_45 Tryd.ntmps45 rfl (fun ok => ?_)
  rw [F_trace_right_1] at hF
  refine C_seq ?_
  refine C_reg (mdl []) ?_
  refine S_a (v := .bool _) rfl ?_
  refine S_nil ?_
  refine C_seq ?_
  refine C_reg (mdl []) ?_
  refine S_m (v := .cplx _ _ _) rfl ?_
  refine S_call (F_trace_spot_ok _ hF fun x1 _ hF => ?_) (.cons (.refl _) (.nil))
  refine S_un rfl (ev_not _) ?_
  refine S_a (v := .bool _) rfl ?_
  refine S_nil ?_
  refine WP_ret ?_
  repeat (first | with_reducible refine Exit.sel_ret ?_ | with_reducible refine Exit.blk_ret ?_ | with_reducible refine Exit.jmp_ret ?_)
  refine C_ret (fn := Tryd.f45) rfl (.tmp (v := .bool (!x1)) rfl .nil) ?_
  exact ⟨_, _, (.refl _), ok.wh, _, F_some hF, rfl, rfl⟩
theorem F_trace_right_1_ok {β : Type} {f : Bool → Option β} {G : β → Prop} {R : D → Heap → Prop} {p0 : Nat × Nat} (h : Heap) (hF : OptP ((F_trace_right_1 p0).bind f) G) (hk : ∀ r, F_trace_right_1 p0 = some r → OptP (f r) G → R (.bool r) h) : CallsA Tryd.prog 45 [.cplx .f64 p0.1 p0.2] h R := by
  obtain ⟨r0, hr, hF⟩ := F_bind hF
  refine (F_trace_right_1_w (G := fun r => r = r0) p0 h ⟨r0, hr, rfl⟩).mono ?_
  rintro _ _ ⟨r, rfl, rfl, rfl⟩
  exact hk _ hr hF
theorem F_trace_right_w (p0 : List T_trace_Stroke) {G : Bool → Prop} (h : Heap) (hF : OptP (F_trace_right p0) G) : CallsA Tryd.prog 34 [.sl 2 (List.map c_T_trace_Stroke p0) 0] h fun d h' => ∃ r, G r ∧ d = .bool r ∧ h' = h := by
  refine CallsA.ret ?_
  refine C_body Tryd.func34 rfl en_34 Tryd.ntmps34 rfl (fun ok => ?_)
  rw [F_trace_right] at hF
  refine C_seq ?_
  refine C_reg (mdl []) ?_
  refine S_a (v := .bool _) rfl ?_
  refine S_nil ?_
  refine C_seq ?_
  refine C_reg (mdl []) ?_
  refine S_a (v := .int _ _) rfl ?_
  refine S_nil ?_
  refine C_join hF (fun (a11 : Int) s' => OK h [] ∧ WS s' ⟨mkSl 29 [(3, .int .i64 a11)], Hp h []⟩) (fun J12 hF => ?_) ?_
  ·
    refine C_seq ?_
    refine C_reg (mdl []) ?_
    refine S_m (v := .sl _ _ _) rfl ?_
    refine S_lenL rfl ty_sl_23 ?_
    refine S_m (v := .int _ _) rfl ?_
    refine S_nil ?_
    refine WP_block ?_
    refine C_loop (σ := Int × Int) hF (fun (v : Int × Int) s' => match v with | (a13, a14) => OK h [] ∧ WS s' ⟨mkSl 29 [(3, .int .i64 a13), (6, .sl 2 (List.map c_T_trace_Stroke p0) 0), (7, .int .i64 (p0.length : Int)), (8, .int .i64 a14)], Hp h []⟩) ?_ ?_
    ·
      have hwo : WO [] [] := .nil
      exact ⟨(hwo.spec ok).1, WS.mk' (.cons (.refl _) (.cons (.refl _) (.cons (.refl _) (.cons (.refl _) .nil)))) ok hwo⟩
    ·
      rintro G15 hG16 rec17 ⟨a13, a14⟩ s' ih18 hF ⟨ok, hws⟩
      refine WP_ws hws ?_
      clear hws s'
      rw [F_trace_right_l0] at hF
      refine C_seq ?_
      refine C_reg (mdl []) ?_
      refine S_bin rfl rfl (ev_lss ..) ?_
      refine S_nil ?_
      refine C_seq ?_
      refine C_if (b := (decide (a14 < (p0.length : Int)))) rfl hF (fun hb19 hF => ?_) (fun hb19 hF => ?_)
      ·
        refine WP_skip ?_
        refine C_seq ?_
        refine WP_block ?_
        refine C_seq ?_
        refine C_reg (mdl [(5, 1)]) ?_
        refine S_ix rfl rfl ty_sl_23 ty_sz_56 hF (fun x20 _ hF => ?_)
        refine S_ldQ rfl (p_agg (vs := c_T_trace_Stroke x20) ty_ag_56 ty_sz_56 rfl rfl) ?_
        refine S_all1 ok rfl ty_zc_56 ?_
        intro i21 hi21 ok
        refine S_st (j := 0) (cs' := [.sl 1 (List.map c_cplx x20.Spots) 0, .bool x20.Closed]) ok rfl rfl rfl hi21 rfl ty_sz_56 rfl rfl (fun ok => ?_)
        refine S_nil ?_
        refine C_seq ?_
        refine C_seq ?_
        refine C_reg (mdl []) ?_
        refine S_faP rfl ty_fd_56_0 ty_sz_54 ?_
        refine S_ldP (j := 0) ok rfl rfl rfl hi21 (p_one (v := .sl 1 (List.map c_cplx x20.Spots) 0) ty_ag_54 ty_sz_54 rfl) ?_
        refine S_lenL rfl ty_sl_54 ?_
        refine S_bin rfl rfl (ev_eql ..) ?_
        refine S_m (v := .bool _) rfl ?_
        refine S_twoJ 4 20 hF (fun J23 hb22 hF => ?_) (fun J23 hb22 hF => ?_) (fun v24 hF => ?_)
        ·
          refine S_off rfl rfl hb22 ?_
          refine S_offD ?_
          refine S_off rfl rfl hb22 ?_
          refine S_offD ?_
          refine S_off rfl rfl hb22 ?_
          refine S_offD ?_
          refine S_pickT (v := .bool _) rfl hb22 rfl ?_
          refine S_nil ?_
          refine ⟨_, hF, .hd (.refl _) ?_⟩
          repeat (first | with_reducible exact WS.refl _ | refine WS.add ?_ rfl | exact WS.refl _)
        ·
          refine S_on rfl rfl hb22 ?_
          refine S_in ?_
          refine S_faP rfl ty_fd_56_0 ty_sz_54 ?_
          refine S_nil ?_
          refine S_on rfl rfl hb22 ?_
          refine S_in ?_
          refine S_ldP (j := 0) ok rfl rfl rfl hi21 (p_one (v := .sl 1 (List.map c_cplx x20.Spots) 0) ty_ag_54 ty_sz_54 rfl) ?_
          refine S_nil ?_
          refine S_on rfl rfl hb22 ?_
          refine S_in ?_
          refine S_call (F_slices_ContainsFunc_complex128_complex128_ok (f1 := 45) (fi1 := []) (ca1 := []) (fun z0 G h hF => F_trace_right_1_w z0 h hF) _ hF fun x25 _ hF => ?_) (.cons (.refl _) (.cons (.refl _) (.nil)))
          refine S_nil ?_
          refine S_pickF (v := .bool _) rfl hb22 rfl ?_
          refine S_nil ?_
          refine ⟨_, hF, .hd (.refl _) ?_⟩
          repeat (first | with_reducible exact WS.refl _ | refine WS.add ?_ rfl | exact WS.refl _)
        ·
          refine S_nil ?_
          refine C_if (b := v24) rfl hF (fun hb26 hF => ?_) (fun hb26 hF => ?_)
          ·
            refine C_seq ?_
            refine C_reg (mdl []) ?_
            refine S_a (v := .bool _) rfl ?_
            refine S_nil ?_
            refine WP_ret ?_
            replace hF := hG16 _ (F_some hF)
            repeat (first | with_reducible refine Exit.sel_ret ?_ | with_reducible refine Exit.blk_ret ?_ | with_reducible refine Exit.jmp_ret ?_)
            refine C_ret (fn := Tryd.f34) rfl (.tmp (v := .bool false) rfl .nil) ?_
            exact ⟨_, _, (.refl _), ok.wh, _, F_some hF, rfl, rfl⟩
          ·
            refine WP_skip ?_
            refine C_reg (mdl []) ?_
            refine S_m (v := .int _ _) rfl ?_
            refine S_faP rfl ty_fd_56_0 ty_sz_54 ?_
            refine S_ldP (j := 0) ok rfl rfl rfl hi21 (p_one (v := .sl 1 (List.map c_cplx x20.Spots) 0) ty_ag_54 ty_sz_54 rfl) ?_
            refine S_lenL rfl ty_sl_54 ?_
            refine S_bin rfl rfl (ev_add ..) ?_
            refine S_a (v := .int _ _) rfl ?_
            refine S_nil ?_
            refine C_reg (mdl []) ?_
            refine S_bin rfl rfl (ev_add ..) ?_
            refine S_m (v := .int _ _) rfl ?_
            refine S_nil ?_
            refine ih18 ((IntKind.wrap .i64 (a13 + (x20.Spots.length : Int))), (IntKind.wrap .i64 (a14 + (1 : Int)))) _ hF ?_
            have hwo : WO [(i21, .cells [.sl 1 (List.map c_cplx x20.Spots) 0, .bool x20.Closed])] [] := (.drop .nil)
            exact ⟨(hwo.spec ok).1, WS.mk' (.cons (.refl _) (.cons (.refl _) (.cons (.refl _) (.cons (.refl _) .nil)))) ok hwo⟩
      ·
        refine WP_exit ?_
        simp only [Exit.sel, Exit.blk, Exit.jmp, if_true, if_false, reduceIte, Nat.reduceEqDiff, Nat.succ_ne_zero, Nat.zero_ne_one, Nat.one_ne_zero]
        replace hF := hG16 _ (F_some hF)
        have hwo : WO [] [] := .nil
        exact ⟨a13, hF, (hwo.spec ok).1, WS.mk' (.cons (.refl _) .nil) ok hwo⟩
  ·
    rintro a11 s' hF ⟨ok, hws⟩
    refine WP_ws hws ?_
    clear hws s'
    refine C_seq ?_
    refine C_reg (mdl []) ?_
    refine S_m (v := .int _ _) rfl ?_
    refine S_bin rfl rfl (ev_leq ..) ?_
    refine S_a (v := .bool _) rfl ?_
    refine S_nil ?_
    refine WP_ret ?_
    repeat (first | with_reducible refine Exit.sel_ret ?_ | with_reducible refine Exit.blk_ret ?_ | with_reducible refine Exit.jmp_ret ?_)
    refine C_ret (fn := Tryd.f34) rfl (.tmp (v := .bool (decide (a11 ≤ (500 : Int)))) rfl .nil) ?_
    exact ⟨_, _, (.refl _), ok.wh, _, F_some hF, rfl, rfl⟩
theorem F_trace_right_ok {β : Type} {f : Bool → Option β} {G : β → Prop} {R : D → Heap → Prop} {p0 : List T_trace_Stroke} (h : Heap) (hF : OptP ((F_trace_right p0).bind f) G) (hk : ∀ r, F_trace_right p0 = some r → OptP (f r) G → R (.bool r) h) : CallsA Tryd.prog 34 [.sl 2 (List.map c_T_trace_Stroke p0) 0] h R := by
  obtain ⟨r0, hr, hF⟩ := F_bind hF
  refine (F_trace_right_w (G := fun r => r = r0) p0 h ⟨r0, hr, rfl⟩).mono ?_
  rintro _ _ ⟨r, rfl, rfl, rfl⟩
  exact hk _ hr hF
theorem F_trace_cross_w (p0 : Nat × Nat) (p1 : Nat × Nat) {G : Nat → Prop} (h : Heap) (hF : OptP (F_trace_cross p0 p1) G) : CallsA Tryd.prog 38 [.cplx .f64 p0.1 p0.2, .cplx .f64 p1.1 p1.2] h fun d h' => ∃ r, G r ∧ d = .float .f64 r ∧ h' = h := by
  refine CallsA.ret ?_
  refine C_body Tryd.func38 rfl en_38 Tryd.ntmps38 rfl (fun ok => ?_)
  rw [F_trace_cross] at hF
  refine C_seq ?_
  refine C_reg (mdl []) ?_
  refine S_a (v := .float _ _) rfl ?_
  refine S_nil ?_
  refine C_seq ?_
  refine C_reg (mdl []) ?_
  refine S_m (v := .cplx _ _ _) rfl ?_
  refine S_real (a := p0) rfl ?_
  refine S_m (v := .cplx _ _ _) rfl ?_
  refine S_imag (a := p0) rfl ?_
  refine S_un rfl (ev_fneg ..) ?_
  refine S_cplx (a := p0.1) (b := (fneg p0.2)) rfl rfl ?_
  refine S_m (v := .cplx _ _ _) rfl ?_
  refine S_cmul (a := ((p0.1, (fneg p0.2)) : Nat × Nat)) (b := p1) rfl rfl hF (fun x1 _ hF => ?_)
  refine S_imag (a := x1) rfl ?_
  refine S_a (v := .float _ _) rfl ?_
  refine S_nil ?_
  refine WP_ret ?_
  repeat (first | with_reducible refine Exit.sel_ret ?_ | with_reducible refine Exit.blk_ret ?_ | with_reducible refine Exit.jmp_ret ?_)
  refine C_ret (fn := Tryd.f38) rfl (.tmp (v := .float .f64 x1.2) rfl .nil) ?_
  exact ⟨_, _, (.refl _), ok.wh, _, F_some hF, rfl, rfl⟩
theorem F_trace_cross_ok {β : Type} {f : Nat → Option β} {G : β → Prop} {R : D → Heap → Prop} {p0 : Nat × Nat} {p1 : Nat × Nat} (h : Heap) (hF : OptP ((F_trace_cross p0 p1).bind f) G) (hk : ∀ r, F_trace_cross p0 p1 = some r → OptP (f r) G → R (.float .f64 r) h) : CallsA Tryd.prog 38 [.cplx .f64 p0.1 p0.2, .cplx .f64 p1.1 p1.2] h R := by
  obtain ⟨r0, hr, hF⟩ := F_bind hF
  refine (F_trace_cross_w (G := fun r => r = r0) p0 p1 h ⟨r0, hr, rfl⟩).mono ?_
  rintro _ _ ⟨r, rfl, rfl, rfl⟩
  exact hk _ hr hF
theorem F_trace_Area_w (p0 : List T_trace_Stroke) {G : Nat × Int → Prop} (h : Heap) (hF : OptP (F_trace_Area p0) G) : CallsA Tryd.prog 18 [.sl 2 (List.map c_T_trace_Stroke p0) 0] h fun d h' => ∃ r, G r ∧ d = .tup [.float .f64 r.1, .int .i64 r.2] ∧ h' = h := by
  refine CallsA.ret ?_
  refine C_body Tryd.func18 rfl en_18 Tryd.ntmps18 rfl (fun ok => ?_)
  rw [F_trace_Area] at hF
  refine C_seq ?_
  refine C_reg (mdl []) ?_
  refine S_a (v := .float _ _) rfl ?_
  refine S_a (v := .int _ _) rfl ?_
  refine S_nil ?_
  refine C_seq ?_
  refine C_seq ?_
  refine C_reg (mdl []) ?_
  refine S_m (v := .sl _ _ _) rfl ?_
  refine S_call (F_trace_right_ok _ hF fun x1 _ hF => ?_) (.cons (.refl _) (.nil))
  refine S_un rfl (ev_not _) ?_
  refine S_nil ?_
  refine C_if (b := (!x1)) rfl hF (fun hb2 hF => ?_) (fun hb2 hF => ?_)
  ·
    refine C_seq ?_
    refine C_reg (mdl []) ?_
    refine S_a (v := .float _ _) rfl ?_
    refine S_a (v := .int _ _) rfl ?_
    refine S_nil ?_
    refine WP_ret ?_
    repeat (first | with_reducible refine Exit.sel_ret ?_ | with_reducible refine Exit.blk_ret ?_ | with_reducible refine Exit.jmp_ret ?_)
    refine C_ret (fn := Tryd.f18) rfl (.tmp (v := .float .f64 (0 : Nat)) rfl (.tmp (v := .int .i64 (1 : Int)) rfl .nil)) ?_
    exact ⟨_, _, (.tupC (.cons (.refl _) (.cons (.refl _) (.nil)))), ok.wh, _, F_some hF, rfl, rfl⟩
  ·
    refine WP_skip ?_
    refine C_seq ?_
    refine C_reg (mdl []) ?_
    refine S_a (v := .float _ _) rfl ?_
    refine S_nil ?_
    refine C_join hF (fun (a39 : Nat) s' => OK h [] ∧ WS s' ⟨mkSl 45 [(4, .float .f64 a39)], Hp h []⟩) (fun J40 hF => ?_) ?_
    ·
      refine C_seq ?_
      refine C_reg (mdl []) ?_
      refine S_m (v := .sl _ _ _) rfl ?_
      refine S_lenL rfl ty_sl_23 ?_
      refine S_m (v := .int _ _) rfl ?_
      refine S_nil ?_
      refine WP_block ?_
      refine C_loop (σ := Nat × Int) hF (fun (v : Nat × Int) s' => match v with | (a41, a42) => OK h [] ∧ WS s' ⟨mkSl 45 [(4, .float .f64 a41), (12, .sl 2 (List.map c_T_trace_Stroke p0) 0), (13, .int .i64 (p0.length : Int)), (14, .int .i64 a42)], Hp h []⟩) ?_ ?_
      ·
        have hwo : WO [] [] := .nil
        exact ⟨(hwo.spec ok).1, WS.mk' (.cons (.refl _) (.cons (.refl _) (.cons (.refl _) (.cons (.refl _) .nil)))) ok hwo⟩
      ·
        rintro G43 hG44 rec45 ⟨a41, a42⟩ s' ih46 hF ⟨ok, hws⟩
        refine WP_ws hws ?_
        clear hws s'
        rw [F_trace_Area_l0] at hF
        refine C_seq ?_
        refine C_reg (mdl []) ?_
        refine S_bin rfl rfl (ev_lss ..) ?_
        refine S_nil ?_
        refine C_seq ?_
        refine C_if (b := (decide (a42 < (p0.length : Int)))) rfl hF (fun hb47 hF => ?_) (fun hb47 hF => ?_)
        ·
          refine WP_skip ?_
          refine C_join hF (fun (a64 : Nat) s' => OK h [] ∧ WS s' ⟨mkSl 45 [(4, .float .f64 a64), (12, .sl 2 (List.map c_T_trace_Stroke p0) 0), (13, .int .i64 (p0.length : Int)), (14, .int .i64 a42)], Hp h []⟩) (fun J65 hF => ?_) ?_
          ·
            refine WP_block ?_
            refine C_seq ?_
            refine C_reg (mdl [(6, 1)]) ?_
            refine S_ix rfl rfl ty_sl_23 ty_sz_56 hF (fun x66 _ hF => ?_)
            refine S_ldQ rfl (p_agg (vs := c_T_trace_Stroke x66) ty_ag_56 ty_sz_56 rfl rfl) ?_
            refine S_all1 ok rfl ty_zc_56 ?_
            intro i67 hi67 ok
            refine S_st (j := 0) (cs' := [.sl 1 (List.map c_cplx x66.Spots) 0, .bool x66.Closed]) ok rfl rfl rfl hi67 rfl ty_sz_56 rfl rfl (fun ok => ?_)
            refine S_nil ?_
            refine C_seq ?_
            refine C_reg (mdl []) ?_
            refine S_faP rfl ty_fd_56_0 ty_sz_54 ?_
            refine S_ldP (j := 0) ok rfl rfl rfl hi67 (p_one (v := .sl 1 (List.map c_cplx x66.Spots) 0) ty_ag_54 ty_sz_54 rfl) ?_
            refine S_lenL rfl ty_sl_54 ?_
            refine S_m (v := .int _ _) rfl ?_
            refine S_nil ?_
            refine WP_block ?_
            refine C_loop (σ := Nat × Int) hF (fun (v : Nat × Int) s' => match v with | (a68, a69) => OK h [(i67, .cells [.sl 1 (List.map c_cplx x66.Spots) 0, .bool x66.Closed])] ∧ WS s' ⟨mkSl 45 [(4, .float .f64 a68), (6, .ptr i67 0), (12, .sl 2 (List.map c_T_trace_Stroke p0) 0), (13, .int .i64 (p0.length : Int)), (14, .int .i64 a42), (19, .sl 1 (List.map c_cplx x66.Spots) 0), (20, .int .i64 (x66.Spots.length : Int)), (21, .int .i64 a69)], Hp h [(i67, .cells [.sl 1 (List.map c_cplx x66.Spots) 0, .bool x66.Closed])]⟩) ?_ ?_
            ·
              have hwo : WO [(i67, .cells [.sl 1 (List.map c_cplx x66.Spots) 0, .bool x66.Closed])] [(i67, .cells [.sl 1 (List.map c_cplx x66.Spots) 0, .bool x66.Closed])] := (.keep .nil)
              exact ⟨(hwo.spec ok).1, WS.mk' (.cons (.refl _) (.cons (.refl _) (.cons (.refl _) (.cons (.refl _) (.cons (.refl _) (.cons (.refl _) (.cons (.refl _) (.cons (.refl _) .nil)))))))) ok hwo⟩
            ·
              rintro G70 hG71 rec72 ⟨a68, a69⟩ s' ih73 hF ⟨ok, hws⟩
              refine WP_ws hws ?_
              clear hws s'
              rw [F_trace_Area_l1] at hF
              refine C_seq ?_
              refine C_reg (mdl []) ?_
              refine S_bin rfl rfl (ev_lss ..) ?_
              refine S_nil ?_
              refine C_seq ?_
              refine C_if (b := (decide (a69 < (x66.Spots.length : Int)))) rfl hF (fun hb74 hF => ?_) (fun hb74 hF => ?_)
              ·
                refine WP_skip ?_
                refine C_join hF (fun (a80 : Nat) s' => OK h [(i67, .cells [.sl 1 (List.map c_cplx x66.Spots) 0, .bool x66.Closed])] ∧ WS s' ⟨mkSl 45 [(4, .float .f64 a80), (6, .ptr i67 0), (12, .sl 2 (List.map c_T_trace_Stroke p0) 0), (13, .int .i64 (p0.length : Int)), (14, .int .i64 a42), (19, .sl 1 (List.map c_cplx x66.Spots) 0), (20, .int .i64 (x66.Spots.length : Int)), (21, .int .i64 a69)], Hp h [(i67, .cells [.sl 1 (List.map c_cplx x66.Spots) 0, .bool x66.Closed])]⟩) (fun J81 hF => ?_) ?_
                ·
                  refine WP_block ?_
                  refine C_seq ?_
                  refine C_reg (mdl []) ?_
                  refine S_m (v := .int _ _) rfl ?_
                  refine S_ix rfl rfl ty_sl_54 ty_sz_45 hF (fun x82 _ hF => ?_)
                  refine S_ldQ rfl (p_one ty_ag_45 ty_sz_45 rfl) ?_
                  refine S_a (v := .int _ _) rfl ?_
                  refine S_a (v := .cplx _ _ _) rfl ?_
                  refine S_nil ?_
                  refine C_seq ?_
                  refine C_reg (mdl []) ?_
                  refine S_faP rfl ty_fd_56_1 ty_sz_4 ?_
                  refine S_ldP (j := 0) ok rfl rfl rfl hi67 (p_one (v := .bool x66.Closed) ty_ag_4 ty_sz_4 rfl) ?_
                  refine S_nil ?_
                  refine C_if (b := x66.Closed) rfl hF (fun hb83 hF => ?_) (fun hb83 hF => ?_)
                  ·
                    refine C_drw (mdl [(39, 3)]) (by kernel_rfl) (by kernel_rfl) ?_
                    refine S_m (v := .float _ _) rfl ?_
                    refine S_m (v := .cplx _ _ _) rfl ?_
                    refine S_faP rfl ty_fd_56_0 ty_sz_54 ?_
                    refine S_ldP (j := 0) ok rfl rfl rfl hi67 (p_one (v := .sl 1 (List.map c_cplx x66.Spots) 0) ty_ag_54 ty_sz_54 rfl) ?_
                    refine S_m (v := .int _ _) rfl ?_
                    refine S_bin rfl rfl (ev_add ..) ?_
                    refine S_faP rfl ty_fd_56_0 ty_sz_54 ?_
                    refine S_ldP (j := 0) ok rfl rfl rfl hi67 (p_one (v := .sl 1 (List.map c_cplx x66.Spots) 0) ty_ag_54 ty_sz_54 rfl) ?_
                    refine S_lenL rfl ty_sl_54 ?_
                    refine S_rem rfl rfl hF (fun hF => ?_)
                    refine S_ix rfl rfl ty_sl_54 ty_sz_45 hF (fun x84 _ hF => ?_)
                    refine S_ldQ rfl (p_one ty_ag_45 ty_sz_45 rfl) ?_
                    refine S_call (F_trace_cross_ok _ hF fun x85 _ hF => ?_) (.cons (.refl _) (.cons (.refl _) (.nil)))
                    refine S_fadd (a := a68) (b := x85) rfl rfl hF (fun x86 _ hF => ?_)
                    refine S_a (v := .float _ _) rfl ?_
                    refine S_nil ?_
                    have hwo : WO [(i67, .cells [.sl 1 (List.map c_cplx x66.Spots) 0, .bool x66.Closed])] [(i67, .cells [.sl 1 (List.map c_cplx x66.Spots) 0, .bool x66.Closed])] := (.keep .nil)
                    exact ⟨x86, hF, (hwo.spec ok).1, WS.mk' (.cons (.refl _) (.cons (.refl _) (.cons (.refl _) (.cons (.refl _) (.cons (.refl _) (.cons (.refl _) (.cons (.refl _) (.cons (.refl _) .nil)))))))) ok hwo⟩
                  ·
                    refine WP_skip ?_
                    have hwo : WO [(i67, .cells [.sl 1 (List.map c_cplx x66.Spots) 0, .bool x66.Closed])] [(i67, .cells [.sl 1 (List.map c_cplx x66.Spots) 0, .bool x66.Closed])] := (.keep .nil)
                    exact ⟨a68, hF, (hwo.spec ok).1, WS.mk' (.cons (.refl _) (.cons (.refl _) (.cons (.refl _) (.cons (.refl _) (.cons (.refl _) (.cons (.refl _) (.cons (.refl _) (.cons (.refl _) .nil)))))))) ok hwo⟩
                ·
                  rintro a80 s' hF ⟨ok, hws⟩
                  refine WP_ws hws ?_
                  clear hws s'
                  refine C_reg (mdl []) ?_
                  refine S_bin rfl rfl (ev_add ..) ?_
                  refine S_m (v := .int _ _) rfl ?_
                  refine S_nil ?_
                  refine ih73 (a80, (IntKind.wrap .i64 (a69 + (1 : Int)))) _ hF ?_
                  have hwo : WO [(i67, .cells [.sl 1 (List.map c_cplx x66.Spots) 0, .bool x66.Closed])] [(i67, .cells [.sl 1 (List.map c_cplx x66.Spots) 0, .bool x66.Closed])] := (.keep .nil)
                  exact ⟨(hwo.spec ok).1, WS.mk' (.cons (.refl _) (.cons (.refl _) (.cons (.refl _) (.cons (.refl _) (.cons (.refl _) (.cons (.refl _) (.cons (.refl _) (.cons (.refl _) .nil)))))))) ok hwo⟩
              ·
                refine WP_exit ?_
                simp only [Exit.sel, Exit.blk, Exit.jmp, if_true, if_false, reduceIte, Nat.reduceEqDiff, Nat.succ_ne_zero, Nat.zero_ne_one, Nat.one_ne_zero]
                replace hF := hG71 _ (F_some hF)
                have hwo : WO [(i67, .cells [.sl 1 (List.map c_cplx x66.Spots) 0, .bool x66.Closed])] [] := (.drop .nil)
                exact ⟨a68, hF, (hwo.spec ok).1, WS.mk' (.cons (.refl _) (.cons (.refl _) (.cons (.refl _) (.cons (.refl _) .nil)))) ok hwo⟩
          ·
            rintro a64 s' hF ⟨ok, hws⟩
            refine WP_ws hws ?_
            clear hws s'
            refine C_reg (mdl []) ?_
            refine S_bin rfl rfl (ev_add ..) ?_
            refine S_m (v := .int _ _) rfl ?_
            refine S_nil ?_
            refine ih46 (a64, (IntKind.wrap .i64 (a42 + (1 : Int)))) _ hF ?_
            have hwo : WO [] [] := .nil
            exact ⟨(hwo.spec ok).1, WS.mk' (.cons (.refl _) (.cons (.refl _) (.cons (.refl _) (.cons (.refl _) .nil)))) ok hwo⟩
        ·
          refine WP_exit ?_
          simp only [Exit.sel, Exit.blk, Exit.jmp, if_true, if_false, reduceIte, Nat.reduceEqDiff, Nat.succ_ne_zero, Nat.zero_ne_one, Nat.one_ne_zero]
          replace hF := hG44 _ (F_some hF)
          have hwo : WO [] [] := .nil
          exact ⟨a41, hF, (hwo.spec ok).1, WS.mk' (.cons (.refl _) .nil) ok hwo⟩
    ·
      rintro a39 s' hF ⟨ok, hws⟩
      refine WP_ws hws ?_
      clear hws s'
      refine C_seq ?_
      refine C_reg (mdl []) ?_
      refine S_m (v := .float _ _) rfl ?_
      refine S_a (v := .float _ _) rfl ?_
      refine S_a (v := .int _ _) rfl ?_
      refine S_nil ?_
      refine WP_ret ?_
      repeat (first | with_reducible refine Exit.sel_ret ?_ | with_reducible refine Exit.blk_ret ?_ | with_reducible refine Exit.jmp_ret ?_)
      refine C_ret (fn := Tryd.f18) rfl (.tmp (v := .float .f64 a39) rfl (.tmp (v := .int .i64 (0 : Int)) rfl .nil)) ?_
      exact ⟨_, _, (.tupC (.cons (.refl _) (.cons (.refl _) (.nil)))), ok.wh, _, F_some hF, rfl, rfl⟩
theorem F_trace_Area_ok {β : Type} {f : Nat × Int → Option β} {G : β → Prop} {R : D → Heap → Prop} {p0 : List T_trace_Stroke} (h : Heap) (hF : OptP ((F_trace_Area p0).bind f) G) (hk : ∀ r, F_trace_Area p0 = some r → OptP (f r) G → R (.tup [.float .f64 r.1, .int .i64 r.2]) h) : CallsA Tryd.prog 18 [.sl 2 (List.map c_T_trace_Stroke p0) 0] h R := by
  obtain ⟨r0, hr, hF⟩ := F_bind hF
  refine (F_trace_Area_w (G := fun r => r = r0) p0 h ⟨r0, hr, rfl⟩).mono ?_
  rintro _ _ ⟨r, rfl, rfl, rfl⟩
  exact hk _ hr hF
theorem F_lecternlaw10_spot_w (p0 : Int) (p1 : Int) {G : (Nat × Nat) → Prop} (h : Heap) (hF : OptP (F_lecternlaw10_spot p0 p1) G) : CallsA Tryd.prog 20 [.int .i64 p0, .int .i64 p1] h fun d h' => ∃ r, G r ∧ d = .cplx .f64 r.1 r.2 ∧ h' = h := by
  refine CallsA.ret ?_
  refine C_body Tryd.func20 rfl en_20 Tryd.ntmps20 rfl (fun ok => ?_)
  rw [F_lecternlaw10_spot] at hF
  refine C_seq ?_
  refine C_reg (mdl []) ?_
  refine S_a (v := .cplx _ _ _) rfl ?_
  refine S_nil ?_
  refine C_seq ?_
  refine C_reg (mdl []) ?_
  refine S_m (v := .int _ _) rfl ?_
  refine S_conv rfl (e_i2f ty_ki_40 ty_fa_40 ty_un_3) ?_
  refine S_m (v := .int _ _) rfl ?_
  refine S_conv rfl (e_i2f ty_ki_40 ty_fa_40 ty_un_3) ?_
  refine S_cplx (a := (i2f p0)) (b := (i2f p1)) rfl rfl ?_
  refine S_a (v := .cplx _ _ _) rfl ?_
  refine S_nil ?_
  refine WP_ret ?_
  repeat (first | with_reducible refine Exit.sel_ret ?_ | with_reducible refine Exit.blk_ret ?_ | with_reducible refine Exit.jmp_ret ?_)
  refine C_ret (fn := Tryd.f20) rfl (.tmp (v := .cplx .f64 (((i2f p0), (i2f p1)) : Nat × Nat).1 (((i2f p0), (i2f p1)) : Nat × Nat).2) rfl .nil) ?_
  exact ⟨_, _, (.refl _), ok.wh, _, F_some hF, rfl, rfl⟩
theorem F_lecternlaw10_spot_ok {β : Type} {f : (Nat × Nat) → Option β} {G : β → Prop} {R : D → Heap → Prop} {p0 : Int} {p1 : Int} (h : Heap) (hF : OptP ((F_lecternlaw10_spot p0 p1).bind f) G) (hk : ∀ r, F_lecternlaw10_spot p0 p1 = some r → OptP (f r) G → R (.cplx .f64 r.1 r.2) h) : CallsA Tryd.prog 20 [.int .i64 p0, .int .i64 p1] h R := by
  obtain ⟨r0, hr, hF⟩ := F_bind hF
  refine (F_lecternlaw10_spot_w (G := fun r => r = r0) p0 p1 h ⟨r0, hr, rfl⟩).mono ?_
  rintro _ _ ⟨r, rfl, rfl, rfl⟩
  exact hk _ hr hF
theorem F_trace_Around_w (p0 : List T_trace_Stroke) (p1 : Nat × Nat) {G : Int × Bool × Int → Prop} (h : Heap) (hF : OptP (F_trace_Around p0 p1) G) : CallsA Tryd.prog 19 [.sl 2 (List.map c_T_trace_Stroke p0) 0, .cplx .f64 p1.1 p1.2] h fun d h' => ∃ r, G r ∧ d = .tup [.int .i64 r.1, .bool r.2.1, .int .i64 r.2.2] ∧ h' = h := by
  refine CallsA.ret ?_
  refine C_body Tryd.func19 rfl en_19 Tryd.ntmps19 rfl (fun ok => ?_)
  rw [F_trace_Around] at hF
  refine C_seq ?_
  refine C_reg (mdl []) ?_
  refine S_a (v := .int _ _) rfl ?_
  refine S_a (v := .bool _) rfl ?_
  refine S_a (v := .int _ _) rfl ?_
  refine S_nil ?_
  refine C_seq ?_
  refine C_seq ?_
  refine C_reg (mdl []) ?_
  refine S_m (v := .sl _ _ _) rfl ?_
  refine S_call (F_trace_right_ok _ hF fun x1 _ hF => ?_) (.cons (.refl _) (.nil))
  refine S_un rfl (ev_not _) ?_
  refine S_m (v := .bool _) rfl ?_
  refine S_twoJ 4 21 hF (fun J3 hb2 hF => ?_) (fun J3 hb2 hF => ?_) (fun v4 hF => ?_)
  ·
    refine S_off rfl rfl hb2 ?_
    refine S_offD ?_
    refine S_off rfl rfl hb2 ?_
    refine S_offD ?_
    refine S_off rfl rfl hb2 ?_
    refine S_offD ?_
    refine S_pickT (v := .bool _) rfl hb2 rfl ?_
    refine S_nil ?_
    refine ⟨_, hF, .hd (.refl _) ?_⟩
    repeat (first | with_reducible exact WS.refl _ | refine WS.add ?_ rfl | exact WS.refl _)
  ·
    refine S_on rfl rfl hb2 ?_
    refine S_in ?_
    refine S_m (v := .cplx _ _ _) rfl ?_
    refine S_nil ?_
    refine S_on rfl rfl hb2 ?_
    refine S_in ?_
    refine S_call (F_trace_spot_ok _ hF fun x5 _ hF => ?_) (.cons (.refl _) (.nil))
    refine S_nil ?_
    refine S_on rfl rfl hb2 ?_
    refine S_in ?_
    refine S_un rfl (ev_not _) ?_
    refine S_nil ?_
    refine S_pickF (v := .bool _) rfl hb2 rfl ?_
    refine S_nil ?_
    refine ⟨_, hF, .hd (.refl _) ?_⟩
    repeat (first | with_reducible exact WS.refl _ | refine WS.add ?_ rfl | exact WS.refl _)
  ·
    refine S_nil ?_
    refine C_if (b := v4) rfl hF (fun hb6 hF => ?_) (fun hb6 hF => ?_)
    ·
      refine C_seq ?_
      refine C_reg (mdl []) ?_
      refine S_a (v := .int _ _) rfl ?_
      refine S_a (v := .bool _) rfl ?_
      refine S_a (v := .int _ _) rfl ?_
      refine S_nil ?_
      refine WP_ret ?_
      repeat (first | with_reducible refine Exit.sel_ret ?_ | with_reducible refine Exit.blk_ret ?_ | with_reducible refine Exit.jmp_ret ?_)
      refine C_ret (fn := Tryd.f19) rfl (.tmp (v := .int .i64 (0 : Int)) rfl (.tmp (v := .bool false) rfl (.tmp (v := .int .i64 (1 : Int)) rfl .nil))) ?_
      exact ⟨_, _, (.tupC (.cons (.refl _) (.cons (.refl _) (.cons (.refl _) (.nil))))), ok.wh, _, F_some hF, rfl, rfl⟩
    ·
      refine WP_skip ?_
      refine C_join hF (fun (a107 : Int) s' => OK h [] ∧ WS s' ⟨mkSl 109 [(4, .int .i64 a107)], Hp h []⟩) (fun J108 hF => ?_) ?_
      ·
        refine C_seq ?_
        refine C_reg (mdl []) ?_
        refine S_m (v := .sl _ _ _) rfl ?_
        refine S_lenL rfl ty_sl_23 ?_
        refine S_m (v := .int _ _) rfl ?_
        refine S_nil ?_
        refine WP_block ?_
        refine C_loop (σ := Int × Int) hF (fun (v : Int × Int) s' => match v with | (a109, a110) => OK h [] ∧ WS s' ⟨mkSl 109 [(1, .cplx .f64 p1.1 p1.2), (4, .int .i64 a109), (22, .sl 2 (List.map c_T_trace_Stroke p0) 0), (23, .int .i64 (p0.length : Int)), (24, .int .i64 a110)], Hp h []⟩) ?_ ?_
        ·
          have hwo : WO [] [] := .nil
          exact ⟨(hwo.spec ok).1, WS.mk' (.cons (.refl _) (.cons (.refl _) (.cons (.refl _) (.cons (.refl _) (.cons (.refl _) .nil))))) ok hwo⟩
        ·
          rintro G111 hG112 rec113 ⟨a109, a110⟩ s' ih114 hF ⟨ok, hws⟩
          refine WP_ws hws ?_
          clear hws s'
          rw [F_trace_Around_l0] at hF
          refine C_seq ?_
          refine C_reg (mdl []) ?_
          refine S_bin rfl rfl (ev_lss ..) ?_
          refine S_nil ?_
          refine C_seq ?_
          refine C_if (b := (decide (a110 < (p0.length : Int)))) rfl hF (fun hb115 hF => ?_) (fun hb115 hF => ?_)
          ·
            refine WP_skip ?_
            refine C_join hF (fun (a164 : Int) s' => OK h [] ∧ WS s' ⟨mkSl 109 [(1, .cplx .f64 p1.1 p1.2), (4, .int .i64 a164), (22, .sl 2 (List.map c_T_trace_Stroke p0) 0), (23, .int .i64 (p0.length : Int)), (24, .int .i64 a110)], Hp h []⟩) (fun J165 hF => ?_) ?_
            ·
              refine WP_block ?_
              refine C_seq ?_
              refine C_reg (mdl [(8, 1)]) ?_
              refine S_ix rfl rfl ty_sl_23 ty_sz_56 hF (fun x166 _ hF => ?_)
              refine S_ldQ rfl (p_agg (vs := c_T_trace_Stroke x166) ty_ag_56 ty_sz_56 rfl rfl) ?_
              refine S_all1 ok rfl ty_zc_56 ?_
              intro i167 hi167 ok
              refine S_st (j := 0) (cs' := [.sl 1 (List.map c_cplx x166.Spots) 0, .bool x166.Closed]) ok rfl rfl rfl hi167 rfl ty_sz_56 rfl rfl (fun ok => ?_)
              refine S_nil ?_
              refine C_seq ?_
              refine C_reg (mdl []) ?_
              refine S_faP rfl ty_fd_56_0 ty_sz_54 ?_
              refine S_ldP (j := 0) ok rfl rfl rfl hi167 (p_one (v := .sl 1 (List.map c_cplx x166.Spots) 0) ty_ag_54 ty_sz_54 rfl) ?_
              refine S_lenL rfl ty_sl_54 ?_
              refine S_m (v := .int _ _) rfl ?_
              refine S_nil ?_
              refine WP_block ?_
              refine C_loop (σ := Int × Int) hF (fun (v : Int × Int) s' => match v with | (a168, a169) => OK h [(i167, .cells [.sl 1 (List.map c_cplx x166.Spots) 0, .bool x166.Closed])] ∧ WS s' ⟨mkSl 109 [(1, .cplx .f64 p1.1 p1.2), (4, .int .i64 a168), (8, .ptr i167 0), (22, .sl 2 (List.map c_T_trace_Stroke p0) 0), (23, .int .i64 (p0.length : Int)), (24, .int .i64 a110), (29, .sl 1 (List.map c_cplx x166.Spots) 0), (30, .int .i64 (x166.Spots.length : Int)), (31, .int .i64 a169)], Hp h [(i167, .cells [.sl 1 (List.map c_cplx x166.Spots) 0, .bool x166.Closed])]⟩) ?_ ?_
              ·
                have hwo : WO [(i167, .cells [.sl 1 (List.map c_cplx x166.Spots) 0, .bool x166.Closed])] [(i167, .cells [.sl 1 (List.map c_cplx x166.Spots) 0, .bool x166.Closed])] := (.keep .nil)
                exact ⟨(hwo.spec ok).1, WS.mk' (.cons (.refl _) (.cons (.refl _) (.cons (.refl _) (.cons (.refl _) (.cons (.refl _) (.cons (.refl _) (.cons (.refl _) (.cons (.refl _) (.cons (.refl _) .nil))))))))) ok hwo⟩
              ·
                rintro G170 hG171 rec172 ⟨a168, a169⟩ s' ih173 hF ⟨ok, hws⟩
                refine WP_ws hws ?_
                clear hws s'
                rw [F_trace_Around_l1] at hF
                refine C_seq ?_
                refine C_reg (mdl []) ?_
                refine S_bin rfl rfl (ev_lss ..) ?_
                refine S_nil ?_
                refine C_seq ?_
                refine C_if (b := (decide (a169 < (x166.Spots.length : Int)))) rfl hF (fun hb174 hF => ?_) (fun hb174 hF => ?_)
                ·
                  refine WP_skip ?_
                  refine C_join hF (fun (a196 : Int) s' => OK h [(i167, .cells [.sl 1 (List.map c_cplx x166.Spots) 0, .bool x166.Closed])] ∧ WS s' ⟨mkSl 109 [(1, .cplx .f64 p1.1 p1.2), (4, .int .i64 a196), (8, .ptr i167 0), (22, .sl 2 (List.map c_T_trace_Stroke p0) 0), (23, .int .i64 (p0.length : Int)), (24, .int .i64 a110), (29, .sl 1 (List.map c_cplx x166.Spots) 0), (30, .int .i64 (x166.Spots.length : Int)), (31, .int .i64 a169)], Hp h [(i167, .cells [.sl 1 (List.map c_cplx x166.Spots) 0, .bool x166.Closed])]⟩) (fun J197 hF => ?_) ?_
                  ·
                    refine WP_block ?_
                    refine C_seq ?_
                    refine C_reg (mdl []) ?_
                    refine S_m (v := .int _ _) rfl ?_
                    refine S_ix rfl rfl ty_sl_54 ty_sz_45 hF (fun x198 _ hF => ?_)
                    refine S_ldQ rfl (p_one ty_ag_45 ty_sz_45 rfl) ?_
                    refine S_a (v := .int _ _) rfl ?_
                    refine S_a (v := .cplx _ _ _) rfl ?_
                    refine S_nil ?_
                    refine C_seq ?_
                    refine C_seq ?_
                    refine C_reg (mdl []) ?_
                    refine S_faP rfl ty_fd_56_1 ty_sz_4 ?_
                    refine S_ldP (j := 0) ok rfl rfl rfl hi167 (p_one (v := .bool x166.Closed) ty_ag_4 ty_sz_4 rfl) ?_
                    refine S_un rfl (ev_not _) ?_
                    refine S_nil ?_
                    refine C_if (b := (!x166.Closed)) rfl hF (fun hb199 hF => ?_) (fun hb199 hF => ?_)
                    ·
                      refine WP_exit ?_
                      simp only [Exit.sel, Exit.blk, Exit.jmp, if_true, if_false, reduceIte, Nat.reduceEqDiff, Nat.succ_ne_zero, Nat.zero_ne_one, Nat.one_ne_zero]
                      replace hF := hG171 _ (F_some hF)
                      have hwo : WO [(i167, .cells [.sl 1 (List.map c_cplx x166.Spots) 0, .bool x166.Closed])] [] := (.drop .nil)
                      exact ⟨a168, hF, (hwo.spec ok).1, WS.mk' (.cons (.refl _) (.cons (.refl _) (.cons (.refl _) (.cons (.refl _) (.cons (.refl _) .nil))))) ok hwo⟩
                    ·
                      refine WP_skip ?_
                      refine C_seq ?_
                      refine C_drw (mdl [(51, 3)]) (by kernel_rfl) (by kernel_rfl) ?_
                      refine S_m (v := .cplx _ _ _) rfl ?_
                      refine S_m (v := .cplx _ _ _) rfl ?_
                      refine S_csub (a := x198) (b := p1) rfl rfl hF (fun x200 _ hF => ?_)
                      refine S_faP rfl ty_fd_56_0 ty_sz_54 ?_
                      refine S_ldP (j := 0) ok rfl rfl rfl hi167 (p_one (v := .sl 1 (List.map c_cplx x166.Spots) 0) ty_ag_54 ty_sz_54 rfl) ?_
                      refine S_m (v := .int _ _) rfl ?_
                      refine S_bin rfl rfl (ev_add ..) ?_
                      refine S_faP rfl ty_fd_56_0 ty_sz_54 ?_
                      refine S_ldP (j := 0) ok rfl rfl rfl hi167 (p_one (v := .sl 1 (List.map c_cplx x166.Spots) 0) ty_ag_54 ty_sz_54 rfl) ?_
                      refine S_lenL rfl ty_sl_54 ?_
                      refine S_rem rfl rfl hF (fun hF => ?_)
                      refine S_ix rfl rfl ty_sl_54 ty_sz_45 hF (fun x201 _ hF => ?_)
                      refine S_ldQ rfl (p_one ty_ag_45 ty_sz_45 rfl) ?_
                      refine S_m (v := .cplx _ _ _) rfl ?_
                      refine S_csub (a := x201) (b := p1) rfl rfl hF (fun x202 _ hF => ?_)
                      refine S_a (v := .cplx _ _ _) rfl ?_
                      refine S_a (v := .cplx _ _ _) rfl ?_
                      refine S_nil ?_
                      refine C_seq ?_
                      refine C_reg (mdl []) ?_
                      refine S_m (v := .cplx _ _ _) rfl ?_
                      refine S_m (v := .cplx _ _ _) rfl ?_
                      refine S_call (F_trace_cross_ok _ hF fun x203 _ hF => ?_) (.cons (.refl _) (.cons (.refl _) (.nil)))
                      refine S_a (v := .float _ _) rfl ?_
                      refine S_nil ?_
                      refine WP_block ?_
                      refine C_seq ?_
                      refine C_reg (mdl []) ?_
                      refine S_m (v := .float _ _) rfl ?_
                      refine S_bin rfl rfl (e_feq (a := x203) (b := (0 : Nat))) ?_
                      refine S_m (v := .bool _) rfl ?_
                      refine S_twoJ 7 67 hF (fun J205 hb204 hF => ?_) (fun J205 hb204 hF => ?_) (fun v206 hF => ?_)
                      ·
                        refine S_on rfl rfl hb204 ?_
                        refine S_in ?_
                        refine S_m (v := .cplx _ _ _) rfl ?_
                        refine S_nil ?_
                        refine S_on rfl rfl hb204 ?_
                        refine S_in ?_
                        refine S_real (a := x200) rfl ?_
                        refine S_nil ?_
                        refine S_on rfl rfl hb204 ?_
                        refine S_in ?_
                        refine S_m (v := .cplx _ _ _) rfl ?_
                        refine S_nil ?_
                        refine S_on rfl rfl hb204 ?_
                        refine S_in ?_
                        refine S_real (a := x202) rfl ?_
                        refine S_nil ?_
                        refine S_on rfl rfl hb204 ?_
                        refine S_in ?_
                        refine S_fmul (a := x200.1) (b := x202.1) rfl rfl hF (fun x207 _ hF => ?_)
                        refine S_nil ?_
                        refine S_on rfl rfl hb204 ?_
                        refine S_in ?_
                        refine S_bin rfl rfl (e_fle (a := x207) (b := (0 : Nat))) ?_
                        refine S_nil ?_
                        refine S_pickT (v := .bool _) rfl hb204 rfl ?_
                        refine S_nil ?_
                        refine ⟨_, hF, .hd (.refl _) ?_⟩
                        repeat (first | with_reducible exact WS.refl _ | refine WS.add ?_ rfl | exact WS.refl _)
                      ·
                        refine S_off rfl rfl hb204 ?_
                        refine S_offD ?_
                        refine S_off rfl rfl hb204 ?_
                        refine S_offD ?_
                        refine S_off rfl rfl hb204 ?_
                        refine S_offD ?_
                        refine S_off rfl rfl hb204 ?_
                        refine S_offD ?_
                        refine S_off rfl rfl hb204 ?_
                        refine S_offD ?_
                        refine S_off rfl rfl hb204 ?_
                        refine S_offD ?_
                        refine S_pickF (v := .bool _) rfl hb204 rfl ?_
                        refine S_nil ?_
                        refine ⟨_, hF, .hd (.refl _) ?_⟩
                        repeat (first | with_reducible exact WS.refl _ | refine WS.add ?_ rfl | exact WS.refl _)
                      ·
                        refine S_m (v := .bool _) rfl ?_
                        refine S_twoJ 7 75 hF (fun J209 hb208 hF => ?_) (fun J209 hb208 hF => ?_) (fun v210 hF => ?_)
                        ·
                          refine S_on rfl rfl hb208 ?_
                          refine S_in ?_
                          refine S_m (v := .cplx _ _ _) rfl ?_
                          refine S_nil ?_
                          refine S_on rfl rfl hb208 ?_
                          refine S_in ?_
                          refine S_imag (a := x200) rfl ?_
                          refine S_nil ?_
                          refine S_on rfl rfl hb208 ?_
                          refine S_in ?_
                          refine S_m (v := .cplx _ _ _) rfl ?_
                          refine S_nil ?_
                          refine S_on rfl rfl hb208 ?_
                          refine S_in ?_
                          refine S_imag (a := x202) rfl ?_
                          refine S_nil ?_
                          refine S_on rfl rfl hb208 ?_
                          refine S_in ?_
                          refine S_fmul (a := x200.2) (b := x202.2) rfl rfl hF (fun x211 _ hF => ?_)
                          refine S_nil ?_
                          refine S_on rfl rfl hb208 ?_
                          refine S_in ?_
                          refine S_bin rfl rfl (e_fle (a := x211) (b := (0 : Nat))) ?_
                          refine S_nil ?_
                          refine S_pickT (v := .bool _) rfl hb208 rfl ?_
                          refine S_nil ?_
                          refine ⟨_, hF, .hd (.refl _) ?_⟩
                          repeat (first | with_reducible exact WS.refl _ | refine WS.add ?_ rfl | exact WS.refl _)
                        ·
                          refine S_off rfl rfl hb208 ?_
                          refine S_offD ?_
                          refine S_off rfl rfl hb208 ?_
                          refine S_offD ?_
                          refine S_off rfl rfl hb208 ?_
                          refine S_offD ?_
                          refine S_off rfl rfl hb208 ?_
                          refine S_offD ?_
                          refine S_off rfl rfl hb208 ?_
                          refine S_offD ?_
                          refine S_off rfl rfl hb208 ?_
                          refine S_offD ?_
                          refine S_pickF (v := .bool _) rfl hb208 rfl ?_
                          refine S_nil ?_
                          refine ⟨_, hF, .hd (.refl _) ?_⟩
                          repeat (first | with_reducible exact WS.refl _ | refine WS.add ?_ rfl | exact WS.refl _)
                        ·
                          refine S_a (v := .bool _) rfl ?_
                          refine S_nil ?_
                          refine C_if (b := v210) rfl hF (fun hb212 hF => ?_) (fun hb212 hF => ?_)
                          ·
                            refine C_seq ?_
                            refine C_reg (mdl []) ?_
                            refine S_a (v := .int _ _) rfl ?_
                            refine S_a (v := .bool _) rfl ?_
                            refine S_a (v := .int _ _) rfl ?_
                            refine S_nil ?_
                            refine WP_ret ?_
                            replace hF := hG171 _ (F_some hF)
                            replace hF := hG112 _ (F_some hF)
                            repeat (first | with_reducible refine Exit.sel_ret ?_ | with_reducible refine Exit.blk_ret ?_ | with_reducible refine Exit.jmp_ret ?_)
                            refine C_ret (fn := Tryd.f19) rfl (.tmp (v := .int .i64 (0 : Int)) rfl (.tmp (v := .bool true) rfl (.tmp (v := .int .i64 (0 : Int)) rfl .nil))) ?_
                            exact ⟨_, _, (.tupC (.cons (.refl _) (.cons (.refl _) (.cons (.refl _) (.nil))))), ok.wh, _, F_some hF, rfl, rfl⟩
                          ·
                            refine C_seq ?_
                            refine C_reg (mdl []) ?_
                            refine S_m (v := .cplx _ _ _) rfl ?_
                            refine S_imag (a := x200) rfl ?_
                            refine S_bin rfl rfl (e_fle (a := x200.2) (b := (0 : Nat))) ?_
                            refine S_m (v := .bool _) rfl ?_
                            refine S_two (b := (fle x200.2 (0 : Nat))) 4 84 (.bool ((fle x200.2 (0 : Nat)) && (fgt x202.2 (0 : Nat)))) (fun hb213 => ?_) (fun hb213 => ?_) ?_
                            ·
                              refine S_on rfl rfl hb213 ?_
                              refine S_in ?_
                              refine S_m (v := .cplx _ _ _) rfl ?_
                              refine S_nil ?_
                              refine S_on rfl rfl hb213 ?_
                              refine S_in ?_
                              refine S_imag (a := x202) rfl ?_
                              refine S_nil ?_
                              refine S_on rfl rfl hb213 ?_
                              refine S_in ?_
                              refine S_bin rfl rfl (e_fgt (a := x202.2) (b := (0 : Nat))) ?_
                              refine S_nil ?_
                              refine S_pickT (v := .bool _) rfl hb213 rfl ?_
                              refine S_nil ?_
                              refine .hd (and_t hb213) ?_
                              repeat (first | with_reducible exact WS.refl _ | refine WS.add ?_ rfl | exact WS.refl _)
                            ·
                              refine S_off rfl rfl hb213 ?_
                              refine S_offD ?_
                              refine S_off rfl rfl hb213 ?_
                              refine S_offD ?_
                              refine S_off rfl rfl hb213 ?_
                              refine S_offD ?_
                              refine S_pickF (v := .bool _) rfl hb213 rfl ?_
                              refine S_nil ?_
                              refine .hd (and_f hb213) ?_
                              repeat (first | with_reducible exact WS.refl _ | refine WS.add ?_ rfl | exact WS.refl _)
                            refine S_m (v := .bool _) rfl ?_
                            refine S_two (b := ((fle x200.2 (0 : Nat)) && (fgt x202.2 (0 : Nat)))) 3 88 (.bool (((fle x200.2 (0 : Nat)) && (fgt x202.2 (0 : Nat))) && (fgt x203 (0 : Nat)))) (fun hb214 => ?_) (fun hb214 => ?_) ?_
                            ·
                              refine S_on rfl rfl hb214 ?_
                              refine S_in ?_
                              refine S_m (v := .float _ _) rfl ?_
                              refine S_nil ?_
                              refine S_on rfl rfl hb214 ?_
                              refine S_in ?_
                              refine S_bin rfl rfl (e_fgt (a := x203) (b := (0 : Nat))) ?_
                              refine S_nil ?_
                              refine S_pickT (v := .bool _) rfl hb214 rfl ?_
                              refine S_nil ?_
                              refine .hd (and_t hb214) ?_
                              repeat (first | with_reducible exact WS.refl _ | refine WS.add ?_ rfl | exact WS.refl _)
                            ·
                              refine S_off rfl rfl hb214 ?_
                              refine S_offD ?_
                              refine S_off rfl rfl hb214 ?_
                              refine S_offD ?_
                              refine S_pickF (v := .bool _) rfl hb214 rfl ?_
                              refine S_nil ?_
                              refine .hd (and_f hb214) ?_
                              repeat (first | with_reducible exact WS.refl _ | refine WS.add ?_ rfl | exact WS.refl _)
                            refine S_a (v := .bool _) rfl ?_
                            refine S_nil ?_
                            refine C_if (b := (((fle x200.2 (0 : Nat)) && (fgt x202.2 (0 : Nat))) && (fgt x203 (0 : Nat)))) rfl hF (fun hb215 hF => ?_) (fun hb215 hF => ?_)
                            ·
                              refine C_reg (mdl []) ?_
                              refine S_m (v := .int _ _) rfl ?_
                              refine S_bin rfl rfl (ev_add ..) ?_
                              refine S_a (v := .int _ _) rfl ?_
                              refine S_nil ?_
                              have hwo : WO [(i167, .cells [.sl 1 (List.map c_cplx x166.Spots) 0, .bool x166.Closed])] [(i167, .cells [.sl 1 (List.map c_cplx x166.Spots) 0, .bool x166.Closed])] := (.keep .nil)
                              exact ⟨(IntKind.wrap .i64 (a168 + (1 : Int))), hF, (hwo.spec ok).1, WS.mk' (.cons (.refl _) (.cons (.refl _) (.cons (.refl _) (.cons (.refl _) (.cons (.refl _) (.cons (.refl _) (.cons (.refl _) (.cons (.refl _) (.cons (.refl _) .nil))))))))) ok hwo⟩
                            ·
                              refine C_seq ?_
                              refine C_reg (mdl []) ?_
                              refine S_m (v := .cplx _ _ _) rfl ?_
                              refine S_imag (a := x200) rfl ?_
                              refine S_bin rfl rfl (e_fgt (a := x200.2) (b := (0 : Nat))) ?_
                              refine S_m (v := .bool _) rfl ?_
                              refine S_two (b := (fgt x200.2 (0 : Nat))) 4 99 (.bool ((fgt x200.2 (0 : Nat)) && (fle x202.2 (0 : Nat)))) (fun hb216 => ?_) (fun hb216 => ?_) ?_
                              ·
                                refine S_on rfl rfl hb216 ?_
                                refine S_in ?_
                                refine S_m (v := .cplx _ _ _) rfl ?_
                                refine S_nil ?_
                                refine S_on rfl rfl hb216 ?_
                                refine S_in ?_
                                refine S_imag (a := x202) rfl ?_
                                refine S_nil ?_
                                refine S_on rfl rfl hb216 ?_
                                refine S_in ?_
                                refine S_bin rfl rfl (e_fle (a := x202.2) (b := (0 : Nat))) ?_
                                refine S_nil ?_
                                refine S_pickT (v := .bool _) rfl hb216 rfl ?_
                                refine S_nil ?_
                                refine .hd (and_t hb216) ?_
                                repeat (first | with_reducible exact WS.refl _ | refine WS.add ?_ rfl | exact WS.refl _)
                              ·
                                refine S_off rfl rfl hb216 ?_
                                refine S_offD ?_
                                refine S_off rfl rfl hb216 ?_
                                refine S_offD ?_
                                refine S_off rfl rfl hb216 ?_
                                refine S_offD ?_
                                refine S_pickF (v := .bool _) rfl hb216 rfl ?_
                                refine S_nil ?_
                                refine .hd (and_f hb216) ?_
                                repeat (first | with_reducible exact WS.refl _ | refine WS.add ?_ rfl | exact WS.refl _)
                              refine S_m (v := .bool _) rfl ?_
                              refine S_two (b := ((fgt x200.2 (0 : Nat)) && (fle x202.2 (0 : Nat)))) 3 103 (.bool (((fgt x200.2 (0 : Nat)) && (fle x202.2 (0 : Nat))) && (flt x203 (0 : Nat)))) (fun hb217 => ?_) (fun hb217 => ?_) ?_
                              ·
                                refine S_on rfl rfl hb217 ?_
                                refine S_in ?_
                                refine S_m (v := .float _ _) rfl ?_
                                refine S_nil ?_
                                refine S_on rfl rfl hb217 ?_
                                refine S_in ?_
                                refine S_bin rfl rfl (e_flt (a := x203) (b := (0 : Nat))) ?_
                                refine S_nil ?_
                                refine S_pickT (v := .bool _) rfl hb217 rfl ?_
                                refine S_nil ?_
                                refine .hd (and_t hb217) ?_
                                repeat (first | with_reducible exact WS.refl _ | refine WS.add ?_ rfl | exact WS.refl _)
                              ·
                                refine S_off rfl rfl hb217 ?_
                                refine S_offD ?_
                                refine S_off rfl rfl hb217 ?_
                                refine S_offD ?_
                                refine S_pickF (v := .bool _) rfl hb217 rfl ?_
                                refine S_nil ?_
                                refine .hd (and_f hb217) ?_
                                repeat (first | with_reducible exact WS.refl _ | refine WS.add ?_ rfl | exact WS.refl _)
                              refine S_a (v := .bool _) rfl ?_
                              refine S_nil ?_
                              refine C_if (b := (((fgt x200.2 (0 : Nat)) && (fle x202.2 (0 : Nat))) && (flt x203 (0 : Nat)))) rfl hF (fun hb218 hF => ?_) (fun hb218 hF => ?_)
                              ·
                                refine C_reg (mdl []) ?_
                                refine S_m (v := .int _ _) rfl ?_
                                refine S_bin rfl rfl (ev_sub ..) ?_
                                refine S_a (v := .int _ _) rfl ?_
                                refine S_nil ?_
                                have hwo : WO [(i167, .cells [.sl 1 (List.map c_cplx x166.Spots) 0, .bool x166.Closed])] [(i167, .cells [.sl 1 (List.map c_cplx x166.Spots) 0, .bool x166.Closed])] := (.keep .nil)
                                exact ⟨(IntKind.wrap .i64 (a168 - (1 : Int))), hF, (hwo.spec ok).1, WS.mk' (.cons (.refl _) (.cons (.refl _) (.cons (.refl _) (.cons (.refl _) (.cons (.refl _) (.cons (.refl _) (.cons (.refl _) (.cons (.refl _) (.cons (.refl _) .nil))))))))) ok hwo⟩
                              ·
                                refine WP_skip ?_
                                have hwo : WO [(i167, .cells [.sl 1 (List.map c_cplx x166.Spots) 0, .bool x166.Closed])] [(i167, .cells [.sl 1 (List.map c_cplx x166.Spots) 0, .bool x166.Closed])] := (.keep .nil)
                                exact ⟨a168, hF, (hwo.spec ok).1, WS.mk' (.cons (.refl _) (.cons (.refl _) (.cons (.refl _) (.cons (.refl _) (.cons (.refl _) (.cons (.refl _) (.cons (.refl _) (.cons (.refl _) (.cons (.refl _) .nil))))))))) ok hwo⟩
                  ·
                    rintro a196 s' hF ⟨ok, hws⟩
                    refine WP_ws hws ?_
                    clear hws s'
                    refine C_reg (mdl []) ?_
                    refine S_bin rfl rfl (ev_add ..) ?_
                    refine S_m (v := .int _ _) rfl ?_
                    refine S_nil ?_
                    refine ih173 (a196, (IntKind.wrap .i64 (a169 + (1 : Int)))) _ hF ?_
                    have hwo : WO [(i167, .cells [.sl 1 (List.map c_cplx x166.Spots) 0, .bool x166.Closed])] [(i167, .cells [.sl 1 (List.map c_cplx x166.Spots) 0, .bool x166.Closed])] := (.keep .nil)
                    exact ⟨(hwo.spec ok).1, WS.mk' (.cons (.refl _) (.cons (.refl _) (.cons (.refl _) (.cons (.refl _) (.cons (.refl _) (.cons (.refl _) (.cons (.refl _) (.cons (.refl _) (.cons (.refl _) .nil))))))))) ok hwo⟩
                ·
                  refine WP_exit ?_
                  simp only [Exit.sel, Exit.blk, Exit.jmp, if_true, if_false, reduceIte, Nat.reduceEqDiff, Nat.succ_ne_zero, Nat.zero_ne_one, Nat.one_ne_zero]
                  replace hF := hG171 _ (F_some hF)
                  have hwo : WO [(i167, .cells [.sl 1 (List.map c_cplx x166.Spots) 0, .bool x166.Closed])] [] := (.drop .nil)
                  exact ⟨a168, hF, (hwo.spec ok).1, WS.mk' (.cons (.refl _) (.cons (.refl _) (.cons (.refl _) (.cons (.refl _) (.cons (.refl _) .nil))))) ok hwo⟩
            ·
              rintro a164 s' hF ⟨ok, hws⟩
              refine WP_ws hws ?_
              clear hws s'
              refine C_reg (mdl []) ?_
              refine S_bin rfl rfl (ev_add ..) ?_
              refine S_m (v := .int _ _) rfl ?_
              refine S_nil ?_
              refine ih114 (a164, (IntKind.wrap .i64 (a110 + (1 : Int)))) _ hF ?_
              have hwo : WO [] [] := .nil
              exact ⟨(hwo.spec ok).1, WS.mk' (.cons (.refl _) (.cons (.refl _) (.cons (.refl _) (.cons (.refl _) (.cons (.refl _) .nil))))) ok hwo⟩
          ·
            refine WP_exit ?_
            simp only [Exit.sel, Exit.blk, Exit.jmp, if_true, if_false, reduceIte, Nat.reduceEqDiff, Nat.succ_ne_zero, Nat.zero_ne_one, Nat.one_ne_zero]
            replace hF := hG112 _ (F_some hF)
            have hwo : WO [] [] := .nil
            exact ⟨a109, hF, (hwo.spec ok).1, WS.mk' (.cons (.refl _) .nil) ok hwo⟩
      ·
        rintro a107 s' hF ⟨ok, hws⟩
        refine WP_ws hws ?_
        clear hws s'
        refine C_seq ?_
        refine C_reg (mdl []) ?_
        refine S_m (v := .int _ _) rfl ?_
        refine S_a (v := .int _ _) rfl ?_
        refine S_a (v := .bool _) rfl ?_
        refine S_a (v := .int _ _) rfl ?_
        refine S_nil ?_
        refine WP_ret ?_
        repeat (first | with_reducible refine Exit.sel_ret ?_ | with_reducible refine Exit.blk_ret ?_ | with_reducible refine Exit.jmp_ret ?_)
        refine C_ret (fn := Tryd.f19) rfl (.tmp (v := .int .i64 a107) rfl (.tmp (v := .bool false) rfl (.tmp (v := .int .i64 (0 : Int)) rfl .nil))) ?_
        exact ⟨_, _, (.tupC (.cons (.refl _) (.cons (.refl _) (.cons (.refl _) (.nil))))), ok.wh, _, F_some hF, rfl, rfl⟩
theorem F_trace_Around_ok {β : Type} {f : Int × Bool × Int → Option β} {G : β → Prop} {R : D → Heap → Prop} {p0 : List T_trace_Stroke} {p1 : Nat × Nat} (h : Heap) (hF : OptP ((F_trace_Around p0 p1).bind f) G) (hk : ∀ r, F_trace_Around p0 p1 = some r → OptP (f r) G → R (.tup [.int .i64 r.1, .bool r.2.1, .int .i64 r.2.2]) h) : CallsA Tryd.prog 19 [.sl 2 (List.map c_T_trace_Stroke p0) 0, .cplx .f64 p1.1 p1.2] h R := by
  obtain ⟨r0, hr, hF⟩ := F_bind hF
  refine (F_trace_Around_w (G := fun r => r = r0) p0 p1 h ⟨r0, hr, rfl⟩).mono ?_
  rintro _ _ ⟨r, rfl, rfl, rfl⟩
  exact hk _ hr hF
theorem F_trace_Show_w (p0 : List T_trace_Stroke) {G : (List UInt8) × Int → Prop} (h : Heap) (hF : OptP (F_trace_Show p0) G) : CallsA Tryd.prog 16 [.sl 2 (List.map c_T_trace_Stroke p0) 0] h fun d h' => ∃ r, G r ∧ d = .tup [.str r.1, .int .i64 r.2] ∧ h' = h := by
  refine CallsA.ret ?_
  refine C_body Tryd.func16 rfl en_16 Tryd.ntmps16 rfl (fun ok => ?_)
  rw [F_trace_Show] at hF
  refine C_seq ?_
  refine C_reg (mdl []) ?_
  refine S_a (v := .str ([] : List UInt8)) rfl ?_
  refine S_a (v := .int _ _) rfl ?_
  refine S_nil ?_
  refine C_seq ?_
  refine C_seq ?_
  refine C_reg (mdl []) ?_
  refine S_m (v := .sl _ _ _) rfl ?_
  refine S_call (F_trace_right_ok _ hF fun x1 _ hF => ?_) (.cons (.refl _) (.nil))
  refine S_un rfl (ev_not _) ?_
  refine S_nil ?_
  refine C_if (b := (!x1)) rfl hF (fun hb2 hF => ?_) (fun hb2 hF => ?_)
  ·
    refine C_seq ?_
    refine C_reg (mdl []) ?_
    refine S_a (v := .str ([] : List UInt8)) rfl ?_
    refine S_a (v := .int _ _) rfl ?_
    refine S_nil ?_
    refine WP_ret ?_
    repeat (first | with_reducible refine Exit.sel_ret ?_ | with_reducible refine Exit.blk_ret ?_ | with_reducible refine Exit.jmp_ret ?_)
    refine C_ret (fn := Tryd.f16) rfl (.tmp (v := .str ([] : List UInt8)) rfl (.tmp (v := .int .i64 (1 : Int)) rfl .nil)) ?_
    exact ⟨_, _, (.tupC (.cons (.refl _) (.cons (.refl _) (.nil)))), ok.wh, _, F_some hF, rfl, rfl⟩
  ·
    refine WP_skip ?_
    refine C_seq ?_
    refine C_reg (mdl []) ?_
    refine S_a (v := .snil) rfl ?_
    refine S_nilB c_str ok (fun ok => ?_)
    refine S_nil ?_
    refine C_join hF (fun (a129 : (List (List UInt8))) s' => ∃ g128 : Nat, (g128 = 0 → a129 = []) ∧ OK h [mo g128 c_str a129] ∧ WS s' ⟨mkSl 53 [(4, mslO 1 g128 a129)], Hp h [mo g128 c_str a129]⟩) (fun J130 hF => ?_) ?_
    ·
      refine C_seq ?_
      refine C_reg (mdl []) ?_
      refine S_m (v := .sl _ _ _) rfl ?_
      refine S_lenL rfl ty_sl_23 ?_
      refine S_m (v := .int _ _) rfl ?_
      refine S_nil ?_
      refine WP_block ?_
      refine C_loop (σ := (List (List UInt8)) × Int) hF (fun (v : (List (List UInt8)) × Int) s' => match v with | (a132, a133) => ∃ g131 : Nat, (g131 = 0 → a132 = []) ∧ OK h [mo g131 c_str a132] ∧ WS s' ⟨mkSl 53 [(4, mslO 1 g131 a132), (12, .sl 2 (List.map c_T_trace_Stroke p0) 0), (13, .int .i64 (p0.length : Int)), (14, .int .i64 a133)], Hp h [mo g131 c_str a132]⟩) ?_ ?_
      ·
        have hwo : WO [mo 0 c_str ([] : List (List UInt8))] [mo 0 c_str ([] : List (List UInt8))] := (.keep .nil)
        exact ⟨0, (fun _ => rfl), (hwo.spec ok).1, WS.mk' (.cons (.refl _) (.cons (.refl _) (.cons (.refl _) (.cons (.refl _) .nil)))) ok hwo⟩
      ·
        rintro G134 hG135 rec136 ⟨a132, a133⟩ s' ih137 hF ⟨g131, zg131, ok, hws⟩
        refine WP_ws hws ?_
        clear hws s'
        rw [F_trace_Show_l0] at hF
        refine C_seq ?_
        refine C_reg (mdl []) ?_
        refine S_bin rfl rfl (ev_lss ..) ?_
        refine S_nil ?_
        refine C_seq ?_
        refine C_if (b := (decide (a133 < (p0.length : Int)))) rfl hF (fun hb138 hF => ?_) (fun hb138 hF => ?_)
        ·
          refine WP_skip ?_
          refine C_join hF (fun (a199 : (List (List UInt8))) s' => ∃ g198 : Nat, (g198 = 0 → a199 = []) ∧ OK h [mo g198 c_str a199] ∧ WS s' ⟨mkSl 53 [(4, mslO 1 g198 a199), (12, .sl 2 (List.map c_T_trace_Stroke p0) 0), (13, .int .i64 (p0.length : Int)), (14, .int .i64 a133)], Hp h [mo g198 c_str a199]⟩) (fun J200 hF => ?_) ?_
          ·
            refine WP_block ?_
            refine C_seq ?_
            refine C_reg (mdl [(6, 1)]) ?_
            refine S_ix rfl rfl ty_sl_23 ty_sz_56 hF (fun x201 _ hF => ?_)
            refine S_ldQ rfl (p_agg (vs := c_T_trace_Stroke x201) ty_ag_56 ty_sz_56 rfl rfl) ?_
            refine S_all1 ok rfl ty_zc_56 ?_
            intro i202 hi202 ok
            refine S_st (j := 0) (cs' := [.sl 1 (List.map c_cplx x201.Spots) 0, .bool x201.Closed]) ok rfl rfl rfl hi202 rfl ty_sz_56 rfl rfl (fun ok => ?_)
            refine S_nil ?_
            refine C_join hF (fun (a230 : (List (List UInt8))) s' => ∃ g229 : Nat, (g229 = 0 → a230 = []) ∧ OK h [(i202, .cells [.sl 1 (List.map c_cplx x201.Spots) 0, .bool x201.Closed]), mo g229 c_str a230] ∧ WS s' ⟨mkSl 53 [(4, mslO 1 g229 a230), (6, .ptr i202 0), (12, .sl 2 (List.map c_T_trace_Stroke p0) 0), (13, .int .i64 (p0.length : Int)), (14, .int .i64 a133)], Hp h [(i202, .cells [.sl 1 (List.map c_cplx x201.Spots) 0, .bool x201.Closed]), mo g229 c_str a230]⟩) (fun J231 hF => ?_) ?_
            ·
              refine C_seq ?_
              refine C_reg (mdl []) ?_
              refine S_faP rfl ty_fd_56_0 ty_sz_54 ?_
              refine S_ldP (j := 0) ok rfl rfl rfl hi202 (p_one (v := .sl 1 (List.map c_cplx x201.Spots) 0) ty_ag_54 ty_sz_54 rfl) ?_
              refine S_lenL rfl ty_sl_54 ?_
              refine S_m (v := .int _ _) rfl ?_
              refine S_nil ?_
              refine WP_block ?_
              refine C_loop (σ := (List (List UInt8)) × Int) hF (fun (v : (List (List UInt8)) × Int) s' => match v with | (a233, a234) => ∃ g232 : Nat, (g232 = 0 → a233 = []) ∧ OK h [(i202, .cells [.sl 1 (List.map c_cplx x201.Spots) 0, .bool x201.Closed]), mo g232 c_str a233] ∧ WS s' ⟨mkSl 53 [(4, mslO 1 g232 a233), (6, .ptr i202 0), (12, .sl 2 (List.map c_T_trace_Stroke p0) 0), (13, .int .i64 (p0.length : Int)), (14, .int .i64 a133), (19, .sl 1 (List.map c_cplx x201.Spots) 0), (20, .int .i64 (x201.Spots.length : Int)), (21, .int .i64 a234)], Hp h [(i202, .cells [.sl 1 (List.map c_cplx x201.Spots) 0, .bool x201.Closed]), mo g232 c_str a233]⟩) ?_ ?_
              ·
                have hwo : WO [(i202, .cells [.sl 1 (List.map c_cplx x201.Spots) 0, .bool x201.Closed]), mo g131 c_str a132] [(i202, .cells [.sl 1 (List.map c_cplx x201.Spots) 0, .bool x201.Closed]), mo g131 c_str a132] := (.keep (.keep .nil))
                exact ⟨g131, zg131, (hwo.spec ok).1, WS.mk' (.cons (.refl _) (.cons (.refl _) (.cons (.refl _) (.cons (.refl _) (.cons (.refl _) (.cons (.refl _) (.cons (.refl _) (.cons (.refl _) .nil)))))))) ok hwo⟩
              ·
                rintro G235 hG236 rec237 ⟨a233, a234⟩ s' ih238 hF ⟨g232, zg232, ok, hws⟩
                refine WP_ws hws ?_
                clear hws s'
                rw [F_trace_Show_l1] at hF
                refine C_seq ?_
                refine C_reg (mdl []) ?_
                refine S_bin rfl rfl (ev_lss ..) ?_
                refine S_nil ?_
                refine C_seq ?_
                refine C_if (b := (decide (a234 < (x201.Spots.length : Int)))) rfl hF (fun hb239 hF => ?_) (fun hb239 hF => ?_)
                ·
                  refine WP_skip ?_
                  refine C_join hF (fun (a251 : (List (List UInt8))) s' => ∃ g250 : Nat, (g250 = 0 → a251 = []) ∧ OK h [(i202, .cells [.sl 1 (List.map c_cplx x201.Spots) 0, .bool x201.Closed]), mo g250 c_str a251] ∧ WS s' ⟨mkSl 53 [(4, mslO 1 g250 a251), (6, .ptr i202 0), (12, .sl 2 (List.map c_T_trace_Stroke p0) 0), (13, .int .i64 (p0.length : Int)), (14, .int .i64 a133), (19, .sl 1 (List.map c_cplx x201.Spots) 0), (20, .int .i64 (x201.Spots.length : Int)), (21, .int .i64 a234)], Hp h [(i202, .cells [.sl 1 (List.map c_cplx x201.Spots) 0, .bool x201.Closed]), mo g250 c_str a251]⟩) (fun J252 hF => ?_) ?_
                  ·
                    refine WP_block ?_
                    refine C_seq ?_
                    refine C_reg (mdl []) ?_
                    refine S_m (v := .int _ _) rfl ?_
                    refine S_ix rfl rfl ty_sl_54 ty_sz_45 hF (fun x253 _ hF => ?_)
                    refine S_ldQ rfl (p_one ty_ag_45 ty_sz_45 rfl) ?_
                    refine S_a (v := .int _ _) rfl ?_
                    refine S_a (v := .cplx _ _ _) rfl ?_
                    refine S_nil ?_
                    refine C_seq ?_
                    refine C_reg (mdl [(36, 1)]) ?_
                    refine S_m (v := mslO _ _ _) rfl ?_
                    refine S_m (v := .cplx _ _ _) rfl ?_
                    refine S_real (a := x253) rfl ?_
                    refine S_f2i rfl ty_ki_3 ty_un_40 hF (fun x254 _ hF => ?_)
                    refine S_call (L_Itoa_ok _ hF fun x255 _ hF => ?_) (.cons (.refl _) (.nil))
                    refine S_m (v := .cplx _ _ _) rfl ?_
                    refine S_imag (a := x253) rfl ?_
                    refine S_f2i rfl ty_ki_3 ty_un_40 hF (fun x256 _ hF => ?_)
                    refine S_call (L_Itoa_ok _ hF fun x257 _ hF => ?_) (.cons (.refl _) (.nil))
                    refine S_lit0 (cs := [.str ([76] : List UInt8), .str x255, .str x257]) (es := (List.map c_str [([76] : List UInt8), x255, x257])) rfl ty_el_87 rfl (by kernel_rfl) (by kernel_rfl) ?_
                    refine S_appO (j := 1) (M := [([76] : List UInt8), x255, x257]) ok zg232 rfl rfl src_sl (fun _ => rfl) rfl ty_el_87 ty_ni_87 hF ?_
                    intro u258 zu258 ok hF
                    obtain ⟨a259, ha259, hF⟩ := F_let hF
                    rw [← ha259] at ok zu258
                    rw [← ha259]
                    refine S_a (v := mslO _ _ _) rfl ?_
                    refine S_nil ?_
                    refine C_seq ?_
                    refine C_reg (mdl []) ?_
                    refine S_m (v := .int _ _) rfl ?_
                    refine S_bin rfl rfl (ev_eql ..) ?_
                    refine S_nil ?_
                    refine C_if (b := (a234 == (0 : Int))) rfl hF (fun hb260 hF => ?_) (fun hb260 hF => ?_)
                    ·
                      refine C_reg (mdl []) ?_
                      refine S_m (v := mslO _ _ _) rfl ?_
                      refine S_m (v := mslO _ _ _) rfl ?_
                      refine S_lenO zu258 rfl ty_sl_87 ?_
                      refine S_bin rfl rfl (ev_sub ..) ?_
                      refine S_ixO zu258 rfl rfl ty_sl_87 ty_sz_9 hF (fun x261 hx261 hF => ?_)
                      refine S_stO (q := 1) (j := 1) (f0 := 0) (b := ([77] : List UInt8)) ok zu258 rfl rfl rfl (fun _ => rfl) hx261 rfl rfl ty_sz_9 rfl rfl (fun za262 ok => ?_)
                      obtain ⟨a262, ha262, hF⟩ := F_let hF
                      rw [← ha262] at ok za262
                      rw [← ha262]
                      have hms : mslO 1 u258 a259 = mslO 1 u258 a262 := mslO_len (by rw [ha262, List.length_set])
                      try rw [hms] at ok
                      try rw [hms]
                      clear hms
                      refine S_nil ?_
                      have hwo : WO [(i202, .cells [.sl 1 (List.map c_cplx x201.Spots) 0, .bool x201.Closed]), mo u258 c_str a262] [(i202, .cells [.sl 1 (List.map c_cplx x201.Spots) 0, .bool x201.Closed]), mo u258 c_str a262] := (.keep (.keep .nil))
                      exact ⟨a262, hF, u258, za262, (hwo.spec ok).1, WS.mk' (.cons (.refl _) (.cons (.refl _) (.cons (.refl _) (.cons (.refl _) (.cons (.refl _) (.cons (.refl _) (.cons (.refl _) (.cons (.refl _) .nil)))))))) ok hwo⟩
                    ·
                      refine WP_skip ?_
                      have hwo : WO [(i202, .cells [.sl 1 (List.map c_cplx x201.Spots) 0, .bool x201.Closed]), mo u258 c_str a259] [(i202, .cells [.sl 1 (List.map c_cplx x201.Spots) 0, .bool x201.Closed]), mo u258 c_str a259] := (.keep (.keep .nil))
                      exact ⟨a259, hF, u258, zu258, (hwo.spec ok).1, WS.mk' (.cons (.refl _) (.cons (.refl _) (.cons (.refl _) (.cons (.refl _) (.cons (.refl _) (.cons (.refl _) (.cons (.refl _) (.cons (.refl _) .nil)))))))) ok hwo⟩
                  ·
                    rintro a251 s' hF ⟨g250, zg250, ok, hws⟩
                    refine WP_ws hws ?_
                    clear hws s'
                    refine C_reg (mdl []) ?_
                    refine S_bin rfl rfl (ev_add ..) ?_
                    refine S_m (v := .int _ _) rfl ?_
                    refine S_nil ?_
                    refine ih238 (a251, (IntKind.wrap .i64 (a234 + (1 : Int)))) _ hF ?_
                    have hwo : WO [(i202, .cells [.sl 1 (List.map c_cplx x201.Spots) 0, .bool x201.Closed]), mo g250 c_str a251] [(i202, .cells [.sl 1 (List.map c_cplx x201.Spots) 0, .bool x201.Closed]), mo g250 c_str a251] := (.keep (.keep .nil))
                    exact ⟨g250, zg250, (hwo.spec ok).1, WS.mk' (.cons (.refl _) (.cons (.refl _) (.cons (.refl _) (.cons (.refl _) (.cons (.refl _) (.cons (.refl _) (.cons (.refl _) (.cons (.refl _) .nil)))))))) ok hwo⟩
                ·
                  refine WP_exit ?_
                  simp only [Exit.sel, Exit.blk, Exit.jmp, if_true, if_false, reduceIte, Nat.reduceEqDiff, Nat.succ_ne_zero, Nat.zero_ne_one, Nat.one_ne_zero]
                  replace hF := hG236 _ (F_some hF)
                  have hwo : WO [(i202, .cells [.sl 1 (List.map c_cplx x201.Spots) 0, .bool x201.Closed]), mo g232 c_str a233] [(i202, .cells [.sl 1 (List.map c_cplx x201.Spots) 0, .bool x201.Closed]), mo g232 c_str a233] := (.keep (.keep .nil))
                  exact ⟨a233, hF, g232, zg232, (hwo.spec ok).1, WS.mk' (.cons (.refl _) (.cons (.refl _) (.cons (.refl _) (.cons (.refl _) (.cons (.refl _) .nil))))) ok hwo⟩
            ·
              rintro a230 s' hF ⟨g229, zg229, ok, hws⟩
              refine WP_ws hws ?_
              clear hws s'
              refine C_seq ?_
              refine C_reg (mdl []) ?_
              refine S_faP rfl ty_fd_56_1 ty_sz_4 ?_
              refine S_ldP (j := 0) ok rfl rfl rfl hi202 (p_one (v := .bool x201.Closed) ty_ag_4 ty_sz_4 rfl) ?_
              refine S_nil ?_
              refine C_if (b := x201.Closed) rfl hF (fun hb263 hF => ?_) (fun hb263 hF => ?_)
              ·
                refine C_reg (mdl [(49, 1)]) ?_
                refine S_m (v := mslO _ _ _) rfl ?_
                refine S_lit0 (cs := [.str ([90] : List UInt8)]) (es := (List.map c_str [([90] : List UInt8)])) rfl ty_el_87 rfl (by kernel_rfl) (by kernel_rfl) ?_
                refine S_appO (j := 1) (M := [([90] : List UInt8)]) ok zg229 rfl rfl src_sl (fun _ => rfl) rfl ty_el_87 ty_ni_87 hF ?_
                intro u264 zu264 ok hF
                obtain ⟨a265, ha265, hF⟩ := F_let hF
                rw [← ha265] at ok zu264
                rw [← ha265]
                refine S_a (v := mslO _ _ _) rfl ?_
                refine S_nil ?_
                have hwo : WO [(i202, .cells [.sl 1 (List.map c_cplx x201.Spots) 0, .bool x201.Closed]), mo u264 c_str a265] [mo u264 c_str a265] := (.drop (.keep .nil))
                exact ⟨a265, hF, u264, zu264, (hwo.spec ok).1, WS.mk' (.cons (.refl _) (.cons (.refl _) (.cons (.refl _) (.cons (.refl _) .nil)))) ok hwo⟩
              ·
                refine WP_skip ?_
                have hwo : WO [(i202, .cells [.sl 1 (List.map c_cplx x201.Spots) 0, .bool x201.Closed]), mo g229 c_str a230] [mo g229 c_str a230] := (.drop (.keep .nil))
                exact ⟨a230, hF, g229, zg229, (hwo.spec ok).1, WS.mk' (.cons (.refl _) (.cons (.refl _) (.cons (.refl _) (.cons (.refl _) .nil)))) ok hwo⟩
          ·
            rintro a199 s' hF ⟨g198, zg198, ok, hws⟩
            refine WP_ws hws ?_
            clear hws s'
            refine C_reg (mdl []) ?_
            refine S_bin rfl rfl (ev_add ..) ?_
            refine S_m (v := .int _ _) rfl ?_
            refine S_nil ?_
            refine ih137 (a199, (IntKind.wrap .i64 (a133 + (1 : Int)))) _ hF ?_
            have hwo : WO [mo g198 c_str a199] [mo g198 c_str a199] := (.keep .nil)
            exact ⟨g198, zg198, (hwo.spec ok).1, WS.mk' (.cons (.refl _) (.cons (.refl _) (.cons (.refl _) (.cons (.refl _) .nil)))) ok hwo⟩
        ·
          refine WP_exit ?_
          simp only [Exit.sel, Exit.blk, Exit.jmp, if_true, if_false, reduceIte, Nat.reduceEqDiff, Nat.succ_ne_zero, Nat.zero_ne_one, Nat.one_ne_zero]
          replace hF := hG135 _ (F_some hF)
          have hwo : WO [mo g131 c_str a132] [mo g131 c_str a132] := (.keep .nil)
          exact ⟨a132, hF, g131, zg131, (hwo.spec ok).1, WS.mk' (.cons (.refl _) .nil) ok hwo⟩
    ·
      rintro a129 s' hF ⟨g128, zg128, ok, hws⟩
      refine WP_ws hws ?_
      clear hws s'
      refine C_seq ?_
      refine C_reg (mdl []) ?_
      refine S_m (v := mslO _ _ _) rfl ?_
      refine S_frzO 0 51 ok zg128 rfl rfl (fun _ => rfl) (fun ok => ?_)
      refine S_call (L_Join_ok _ hF fun x267 _ hF => ?_) (.cons (.refl _) (.cons (.refl _) (.nil)))
      refine S_a (v := .str _) rfl ?_
      refine S_a (v := .int _ _) rfl ?_
      refine S_nil ?_
      refine WP_ret ?_
      repeat (first | with_reducible refine Exit.sel_ret ?_ | with_reducible refine Exit.blk_ret ?_ | with_reducible refine Exit.jmp_ret ?_)
      refine C_ret (fn := Tryd.f16) rfl (.tmp (v := .str x267) rfl (.tmp (v := .int .i64 (0 : Int)) rfl .nil)) ?_
      exact ⟨_, _, (.tupC (.cons (.refl _) (.cons (.refl _) (.nil)))), ok.wh, _, F_some hF, rfl, rfl⟩
theorem F_trace_Show_ok {β : Type} {f : (List UInt8) × Int → Option β} {G : β → Prop} {R : D → Heap → Prop} {p0 : List T_trace_Stroke} (h : Heap) (hF : OptP ((F_trace_Show p0).bind f) G) (hk : ∀ r, F_trace_Show p0 = some r → OptP (f r) G → R (.tup [.str r.1, .int .i64 r.2]) h) : CallsA Tryd.prog 16 [.sl 2 (List.map c_T_trace_Stroke p0) 0] h R := by
  obtain ⟨r0, hr, hF⟩ := F_bind hF
  refine (F_trace_Show_w (G := fun r => r = r0) p0 h ⟨r0, hr, rfl⟩).mono ?_
  rintro _ _ ⟨r, rfl, rfl, rfl⟩
  exact hk _ hr hF
theorem F_lecternlaw10_awake_w {G : Bool → Prop} (h : Heap) (hF : OptP (F_lecternlaw10_awake) G) : CallsA Tryd.prog 11 [] h fun d h' => ∃ r, G r ∧ d = .bool r ∧ h' = h := by
  refine CallsA.ret ?_
  refine C_body Tryd.func11 rfl en_11 Tryd.ntmps11 rfl (fun ok => ?_)
  rw [F_lecternlaw10_awake] at hF
  refine C_seq ?_
  refine C_reg (mdl []) ?_
  refine S_a (v := .bool _) rfl ?_
  refine S_nil ?_
  refine C_seq ?_
  refine C_reg (mdl []) ?_
  refine S_call (F_trace_Read_ok _ hF fun x1 _ hF => ?_) (.cons (.refl _) (.nil))
  refine S_m (v := .tup _) rfl ?_
  refine S_ext rfl rfl ?_
  refine S_ext rfl rfl ?_
  refine S_ext rfl rfl ?_
  refine S_a (v := .sl _ _ _) rfl ?_
  refine S_a (v := .int _ _) rfl ?_
  refine S_a (v := .int _ _) rfl ?_
  refine S_nil ?_
  refine C_seq ?_
  refine C_reg (mdl []) ?_
  refine S_m (v := .sl _ _ _) rfl ?_
  refine S_call (F_trace_Area_ok _ hF fun x2 _ hF => ?_) (.cons (.refl _) (.nil))
  refine S_m (v := .tup _) rfl ?_
  refine S_ext rfl rfl ?_
  refine S_ext rfl rfl ?_
  refine S_a (v := .float _ _) rfl ?_
  refine S_a (v := .int _ _) rfl ?_
  refine S_nil ?_
  refine C_seq ?_
  refine C_reg (mdl []) ?_
  refine S_m (v := .sl _ _ _) rfl ?_
  refine S_call (F_lecternlaw10_spot_ok _ hF fun x3 _ hF => ?_) (.cons (.refl _) (.cons (.refl _) (.nil)))
  refine S_call (F_trace_Around_ok _ hF fun x4 _ hF => ?_) (.cons (.refl _) (.cons (.refl _) (.nil)))
  refine S_m (v := .tup _) rfl ?_
  refine S_ext rfl rfl ?_
  refine S_ext rfl rfl ?_
  refine S_ext rfl rfl ?_
  refine S_a (v := .int _ _) rfl ?_
  refine S_a (v := .bool _) rfl ?_
  refine S_a (v := .int _ _) rfl ?_
  refine S_nil ?_
  refine C_seq ?_
  refine C_reg (mdl []) ?_
  refine S_m (v := .sl _ _ _) rfl ?_
  refine S_call (F_trace_Show_ok _ hF fun x5 _ hF => ?_) (.cons (.refl _) (.nil))
  refine S_m (v := .tup _) rfl ?_
  refine S_ext rfl rfl ?_
  refine S_ext rfl rfl ?_
  refine S_a (v := .str _) rfl ?_
  refine S_a (v := .int _ _) rfl ?_
  refine S_nil ?_
  refine C_seq ?_
  refine C_reg (mdl []) ?_
  refine S_m (v := .int _ _) rfl ?_
  refine S_bin rfl rfl (ev_eql ..) ?_
  refine S_m (v := .bool _) rfl ?_
  refine S_two (b := (x1.2.2 == (0 : Int))) 3 38 (.bool ((x1.2.2 == (0 : Int)) && (x2.2 == (0 : Int)))) (fun hb6 => ?_) (fun hb6 => ?_) ?_
  ·
    refine S_on rfl rfl hb6 ?_
    refine S_in ?_
    refine S_m (v := .int _ _) rfl ?_
    refine S_nil ?_
    refine S_on rfl rfl hb6 ?_
    refine S_in ?_
    refine S_bin rfl rfl (ev_eql ..) ?_
    refine S_nil ?_
    refine S_pickT (v := .bool _) rfl hb6 rfl ?_
    refine S_nil ?_
    refine .hd (and_t hb6) ?_
    repeat (first | with_reducible exact WS.refl _ | refine WS.add ?_ rfl | exact WS.refl _)
  ·
    refine S_off rfl rfl hb6 ?_
    refine S_offD ?_
    refine S_off rfl rfl hb6 ?_
    refine S_offD ?_
    refine S_pickF (v := .bool _) rfl hb6 rfl ?_
    refine S_nil ?_
    refine .hd (and_f hb6) ?_
    repeat (first | with_reducible exact WS.refl _ | refine WS.add ?_ rfl | exact WS.refl _)
  refine S_m (v := .bool _) rfl ?_
  refine S_two (b := ((x1.2.2 == (0 : Int)) && (x2.2 == (0 : Int)))) 3 42 (.bool (((x1.2.2 == (0 : Int)) && (x2.2 == (0 : Int))) && (x4.2.2 == (0 : Int)))) (fun hb7 => ?_) (fun hb7 => ?_) ?_
  ·
    refine S_on rfl rfl hb7 ?_
    refine S_in ?_
    refine S_m (v := .int _ _) rfl ?_
    refine S_nil ?_
    refine S_on rfl rfl hb7 ?_
    refine S_in ?_
    refine S_bin rfl rfl (ev_eql ..) ?_
    refine S_nil ?_
    refine S_pickT (v := .bool _) rfl hb7 rfl ?_
    refine S_nil ?_
    refine .hd (and_t hb7) ?_
    repeat (first | with_reducible exact WS.refl _ | refine WS.add ?_ rfl | exact WS.refl _)
  ·
    refine S_off rfl rfl hb7 ?_
    refine S_offD ?_
    refine S_off rfl rfl hb7 ?_
    refine S_offD ?_
    refine S_pickF (v := .bool _) rfl hb7 rfl ?_
    refine S_nil ?_
    refine .hd (and_f hb7) ?_
    repeat (first | with_reducible exact WS.refl _ | refine WS.add ?_ rfl | exact WS.refl _)
  refine S_m (v := .bool _) rfl ?_
  refine S_two (b := (((x1.2.2 == (0 : Int)) && (x2.2 == (0 : Int))) && (x4.2.2 == (0 : Int)))) 3 46 (.bool ((((x1.2.2 == (0 : Int)) && (x2.2 == (0 : Int))) && (x4.2.2 == (0 : Int))) && (x5.2 == (0 : Int)))) (fun hb8 => ?_) (fun hb8 => ?_) ?_
  ·
    refine S_on rfl rfl hb8 ?_
    refine S_in ?_
    refine S_m (v := .int _ _) rfl ?_
    refine S_nil ?_
    refine S_on rfl rfl hb8 ?_
    refine S_in ?_
    refine S_bin rfl rfl (ev_eql ..) ?_
    refine S_nil ?_
    refine S_pickT (v := .bool _) rfl hb8 rfl ?_
    refine S_nil ?_
    refine .hd (and_t hb8) ?_
    repeat (first | with_reducible exact WS.refl _ | refine WS.add ?_ rfl | exact WS.refl _)
  ·
    refine S_off rfl rfl hb8 ?_
    refine S_offD ?_
    refine S_off rfl rfl hb8 ?_
    refine S_offD ?_
    refine S_pickF (v := .bool _) rfl hb8 rfl ?_
    refine S_nil ?_
    refine .hd (and_f hb8) ?_
    repeat (first | with_reducible exact WS.refl _ | refine WS.add ?_ rfl | exact WS.refl _)
  refine S_m (v := .bool _) rfl ?_
  refine S_two (b := ((((x1.2.2 == (0 : Int)) && (x2.2 == (0 : Int))) && (x4.2.2 == (0 : Int))) && (x5.2 == (0 : Int)))) 3 50 (.bool (((((x1.2.2 == (0 : Int)) && (x2.2 == (0 : Int))) && (x4.2.2 == (0 : Int))) && (x5.2 == (0 : Int))) && (feq x2.1 (4629700416936869888 : Nat)))) (fun hb9 => ?_) (fun hb9 => ?_) ?_
  ·
    refine S_on rfl rfl hb9 ?_
    refine S_in ?_
    refine S_m (v := .float _ _) rfl ?_
    refine S_nil ?_
    refine S_on rfl rfl hb9 ?_
    refine S_in ?_
    refine S_bin rfl rfl (e_feq (a := x2.1) (b := (4629700416936869888 : Nat))) ?_
    refine S_nil ?_
    refine S_pickT (v := .bool _) rfl hb9 rfl ?_
    refine S_nil ?_
    refine .hd (and_t hb9) ?_
    repeat (first | with_reducible exact WS.refl _ | refine WS.add ?_ rfl | exact WS.refl _)
  ·
    refine S_off rfl rfl hb9 ?_
    refine S_offD ?_
    refine S_off rfl rfl hb9 ?_
    refine S_offD ?_
    refine S_pickF (v := .bool _) rfl hb9 rfl ?_
    refine S_nil ?_
    refine .hd (and_f hb9) ?_
    repeat (first | with_reducible exact WS.refl _ | refine WS.add ?_ rfl | exact WS.refl _)
  refine S_m (v := .bool _) rfl ?_
  refine S_two (b := (((((x1.2.2 == (0 : Int)) && (x2.2 == (0 : Int))) && (x4.2.2 == (0 : Int))) && (x5.2 == (0 : Int))) && (feq x2.1 (4629700416936869888 : Nat)))) 3 54 (.bool ((((((x1.2.2 == (0 : Int)) && (x2.2 == (0 : Int))) && (x4.2.2 == (0 : Int))) && (x5.2 == (0 : Int))) && (feq x2.1 (4629700416936869888 : Nat))) && (x4.1 == (1 : Int)))) (fun hb10 => ?_) (fun hb10 => ?_) ?_
  ·
    refine S_on rfl rfl hb10 ?_
    refine S_in ?_
    refine S_m (v := .int _ _) rfl ?_
    refine S_nil ?_
    refine S_on rfl rfl hb10 ?_
    refine S_in ?_
    refine S_bin rfl rfl (ev_eql ..) ?_
    refine S_nil ?_
    refine S_pickT (v := .bool _) rfl hb10 rfl ?_
    refine S_nil ?_
    refine .hd (and_t hb10) ?_
    repeat (first | with_reducible exact WS.refl _ | refine WS.add ?_ rfl | exact WS.refl _)
  ·
    refine S_off rfl rfl hb10 ?_
    refine S_offD ?_
    refine S_off rfl rfl hb10 ?_
    refine S_offD ?_
    refine S_pickF (v := .bool _) rfl hb10 rfl ?_
    refine S_nil ?_
    refine .hd (and_f hb10) ?_
    repeat (first | with_reducible exact WS.refl _ | refine WS.add ?_ rfl | exact WS.refl _)
  refine S_m (v := .bool _) rfl ?_
  refine S_two (b := ((((((x1.2.2 == (0 : Int)) && (x2.2 == (0 : Int))) && (x4.2.2 == (0 : Int))) && (x5.2 == (0 : Int))) && (feq x2.1 (4629700416936869888 : Nat))) && (x4.1 == (1 : Int)))) 3 58 (.bool (((((((x1.2.2 == (0 : Int)) && (x2.2 == (0 : Int))) && (x4.2.2 == (0 : Int))) && (x5.2 == (0 : Int))) && (feq x2.1 (4629700416936869888 : Nat))) && (x4.1 == (1 : Int))) && (!x4.2.1))) (fun hb11 => ?_) (fun hb11 => ?_) ?_
  ·
    refine S_on rfl rfl hb11 ?_
    refine S_in ?_
    refine S_m (v := .bool _) rfl ?_
    refine S_nil ?_
    refine S_on rfl rfl hb11 ?_
    refine S_in ?_
    refine S_un rfl (ev_not _) ?_
    refine S_nil ?_
    refine S_pickT (v := .bool _) rfl hb11 rfl ?_
    refine S_nil ?_
    refine .hd (and_t hb11) ?_
    repeat (first | with_reducible exact WS.refl _ | refine WS.add ?_ rfl | exact WS.refl _)
  ·
    refine S_off rfl rfl hb11 ?_
    refine S_offD ?_
    refine S_off rfl rfl hb11 ?_
    refine S_offD ?_
    refine S_pickF (v := .bool _) rfl hb11 rfl ?_
    refine S_nil ?_
    refine .hd (and_f hb11) ?_
    repeat (first | with_reducible exact WS.refl _ | refine WS.add ?_ rfl | exact WS.refl _)
  refine S_m (v := .bool _) rfl ?_
  refine S_two (b := (((((((x1.2.2 == (0 : Int)) && (x2.2 == (0 : Int))) && (x4.2.2 == (0 : Int))) && (x5.2 == (0 : Int))) && (feq x2.1 (4629700416936869888 : Nat))) && (x4.1 == (1 : Int))) && (!x4.2.1))) 3 62 (.bool ((((((((x1.2.2 == (0 : Int)) && (x2.2 == (0 : Int))) && (x4.2.2 == (0 : Int))) && (x5.2 == (0 : Int))) && (feq x2.1 (4629700416936869888 : Nat))) && (x4.1 == (1 : Int))) && (!x4.2.1)) && (x5.1 == ([77, 32, 48, 32, 48, 32, 76, 32, 52, 32, 48, 32, 76, 32, 52, 32, 52, 32, 76, 32, 48, 32, 52, 32, 90] : List UInt8)))) (fun hb12 => ?_) (fun hb12 => ?_) ?_
  ·
    refine S_on rfl rfl hb12 ?_
    refine S_in ?_
    refine S_m (v := .str _) rfl ?_
    refine S_nil ?_
    refine S_on rfl rfl hb12 ?_
    refine S_in ?_
    refine S_bin rfl rfl e_seql ?_
    refine S_nil ?_
    refine S_pickT (v := .bool _) rfl hb12 rfl ?_
    refine S_nil ?_
    refine .hd (and_t hb12) ?_
    repeat (first | with_reducible exact WS.refl _ | refine WS.add ?_ rfl | exact WS.refl _)
  ·
    refine S_off rfl rfl hb12 ?_
    refine S_offD ?_
    refine S_off rfl rfl hb12 ?_
    refine S_offD ?_
    refine S_pickF (v := .bool _) rfl hb12 rfl ?_
    refine S_nil ?_
    refine .hd (and_f hb12) ?_
    repeat (first | with_reducible exact WS.refl _ | refine WS.add ?_ rfl | exact WS.refl _)
  refine S_a (v := .bool _) rfl ?_
  refine S_nil ?_
  refine WP_ret ?_
  repeat (first | with_reducible refine Exit.sel_ret ?_ | with_reducible refine Exit.blk_ret ?_ | with_reducible refine Exit.jmp_ret ?_)
  refine C_ret (fn := Tryd.f11) rfl (.tmp (v := .bool ((((((((x1.2.2 == (0 : Int)) && (x2.2 == (0 : Int))) && (x4.2.2 == (0 : Int))) && (x5.2 == (0 : Int))) && (feq x2.1 (4629700416936869888 : Nat))) && (x4.1 == (1 : Int))) && (!x4.2.1)) && (x5.1 == ([77, 32, 48, 32, 48, 32, 76, 32, 52, 32, 48, 32, 76, 32, 52, 32, 52, 32, 76, 32, 48, 32, 52, 32, 90] : List UInt8)))) rfl .nil) ?_
  exact ⟨_, _, (.refl _), ok.wh, _, F_some hF, rfl, rfl⟩
theorem F_lecternlaw10_awake_ok {β : Type} {f : Bool → Option β} {G : β → Prop} {R : D → Heap → Prop} (h : Heap) (hF : OptP ((F_lecternlaw10_awake).bind f) G) (hk : ∀ r, F_lecternlaw10_awake = some r → OptP (f r) G → R (.bool r) h) : CallsA Tryd.prog 11 [] h R := by
  obtain ⟨r0, hr, hF⟩ := F_bind hF
  refine (F_lecternlaw10_awake_w (G := fun r => r = r0)  h ⟨r0, hr, rfl⟩).mono ?_
  rintro _ _ ⟨r, rfl, rfl, rfl⟩
  exact hk _ hr hF
theorem F_lecternref10_Right_w (p0 : List T_lecternref10_Stroke) {G : Bool → Prop} (h : Heap) (hF : OptP (F_lecternref10_Right p0) G) : CallsA Tryd.prog 33 [.sl 2 (List.map c_T_lecternref10_Stroke p0) 0] h fun d h' => ∃ r, G r ∧ d = .bool r ∧ h' = h := by
  refine CallsA.ret ?_
  refine C_body Tryd.func33 rfl en_33 Tryd.ntmps33 rfl (fun ok => ?_)
  rw [F_lecternref10_Right] at hF
  refine C_seq ?_
  refine C_reg (mdl []) ?_
  refine S_a (v := .bool _) rfl ?_
  refine S_nil ?_
  refine C_seq ?_
  refine C_reg (mdl []) ?_
  refine S_a (v := .int _ _) rfl ?_
  refine S_nil ?_
  refine C_join hF (fun (a7 : Int) s' => OK h [] ∧ WS s' ⟨mkSl 24 [(3, .int .i64 a7)], Hp h []⟩) (fun J8 hF => ?_) ?_
  ·
    refine C_seq ?_
    refine C_reg (mdl []) ?_
    refine S_m (v := .sl _ _ _) rfl ?_
    refine S_lenL rfl ty_sl_27 ?_
    refine S_m (v := .int _ _) rfl ?_
    refine S_nil ?_
    refine WP_block ?_
    refine C_loop (σ := Int × Int) hF (fun (v : Int × Int) s' => match v with | (a9, a10) => OK h [] ∧ WS s' ⟨mkSl 24 [(3, .int .i64 a9), (6, .sl 2 (List.map c_T_lecternref10_Stroke p0) 0), (7, .int .i64 (p0.length : Int)), (8, .int .i64 a10)], Hp h []⟩) ?_ ?_
    ·
      have hwo : WO [] [] := .nil
      exact ⟨(hwo.spec ok).1, WS.mk' (.cons (.refl _) (.cons (.refl _) (.cons (.refl _) (.cons (.refl _) .nil)))) ok hwo⟩
    ·
      rintro G11 hG12 rec13 ⟨a9, a10⟩ s' ih14 hF ⟨ok, hws⟩
      refine WP_ws hws ?_
      clear hws s'
      rw [F_lecternref10_Right_l0] at hF
      refine C_seq ?_
      refine C_reg (mdl []) ?_
      refine S_bin rfl rfl (ev_lss ..) ?_
      refine S_nil ?_
      refine C_seq ?_
      refine C_if (b := (decide (a10 < (p0.length : Int)))) rfl hF (fun hb15 hF => ?_) (fun hb15 hF => ?_)
      ·
        refine WP_skip ?_
        refine C_seq ?_
        refine WP_block ?_
        refine C_seq ?_
        refine C_reg (mdl [(5, 1)]) ?_
        refine S_ix rfl rfl ty_sl_27 ty_sz_80 hF (fun x16 _ hF => ?_)
        refine S_ldQ rfl (p_agg (vs := c_T_lecternref10_Stroke x16) ty_ag_80 ty_sz_80 rfl rfl) ?_
        refine S_all1 ok rfl ty_zc_80 ?_
        intro i17 hi17 ok
        refine S_st (j := 0) (cs' := [.sl 2 (List.map c_T_lecternref10_Spot x16.Spots) 0, .bool x16.Closed]) ok rfl rfl rfl hi17 rfl ty_sz_80 rfl rfl (fun ok => ?_)
        refine S_nil ?_
        refine C_seq ?_
        refine C_reg (mdl []) ?_
        refine S_m (v := .int _ _) rfl ?_
        refine S_faP rfl ty_fd_80_0 ty_sz_78 ?_
        refine S_ldP (j := 0) ok rfl rfl rfl hi17 (p_one (v := .sl 2 (List.map c_T_lecternref10_Spot x16.Spots) 0) ty_ag_78 ty_sz_78 rfl) ?_
        refine S_lenL rfl ty_sl_78 ?_
        refine S_bin rfl rfl (ev_add ..) ?_
        refine S_a (v := .int _ _) rfl ?_
        refine S_nil ?_
        refine C_seq ?_
        refine C_reg (mdl []) ?_
        refine S_faP rfl ty_fd_80_0 ty_sz_78 ?_
        refine S_ldP (j := 0) ok rfl rfl rfl hi17 (p_one (v := .sl 2 (List.map c_T_lecternref10_Spot x16.Spots) 0) ty_ag_78 ty_sz_78 rfl) ?_
        refine S_lenL rfl ty_sl_78 ?_
        refine S_bin rfl rfl (ev_eql ..) ?_
        refine S_nil ?_
        refine C_if (b := ((x16.Spots.length : Int) == (0 : Int))) rfl hF (fun hb18 hF => ?_) (fun hb18 hF => ?_)
        ·
          refine C_seq ?_
          refine C_reg (mdl []) ?_
          refine S_a (v := .bool _) rfl ?_
          refine S_nil ?_
          refine WP_ret ?_
          replace hF := hG12 _ (F_some hF)
          repeat (first | with_reducible refine Exit.sel_ret ?_ | with_reducible refine Exit.blk_ret ?_ | with_reducible refine Exit.jmp_ret ?_)
          refine C_ret (fn := Tryd.f33) rfl (.tmp (v := .bool false) rfl .nil) ?_
          exact ⟨_, _, (.refl _), ok.wh, _, F_some hF, rfl, rfl⟩
        ·
          refine WP_skip ?_
          refine C_reg (mdl []) ?_
          refine S_bin rfl rfl (ev_add ..) ?_
          refine S_m (v := .int _ _) rfl ?_
          refine S_nil ?_
          refine ih14 ((IntKind.wrap .i64 (a9 + (x16.Spots.length : Int))), (IntKind.wrap .i64 (a10 + (1 : Int)))) _ hF ?_
          have hwo : WO [(i17, .cells [.sl 2 (List.map c_T_lecternref10_Spot x16.Spots) 0, .bool x16.Closed])] [] := (.drop .nil)
          exact ⟨(hwo.spec ok).1, WS.mk' (.cons (.refl _) (.cons (.refl _) (.cons (.refl _) (.cons (.refl _) .nil)))) ok hwo⟩
      ·
        refine WP_exit ?_
        simp only [Exit.sel, Exit.blk, Exit.jmp, if_true, if_false, reduceIte, Nat.reduceEqDiff, Nat.succ_ne_zero, Nat.zero_ne_one, Nat.one_ne_zero]
        replace hF := hG12 _ (F_some hF)
        have hwo : WO [] [] := .nil
        exact ⟨a9, hF, (hwo.spec ok).1, WS.mk' (.cons (.refl _) .nil) ok hwo⟩
  ·
    rintro a7 s' hF ⟨ok, hws⟩
    refine WP_ws hws ?_
    clear hws s'
    refine C_seq ?_
    refine C_reg (mdl []) ?_
    refine S_m (v := .int _ _) rfl ?_
    refine S_bin rfl rfl (ev_leq ..) ?_
    refine S_a (v := .bool _) rfl ?_
    refine S_nil ?_
    refine WP_ret ?_
    repeat (first | with_reducible refine Exit.sel_ret ?_ | with_reducible refine Exit.blk_ret ?_ | with_reducible refine Exit.jmp_ret ?_)
    refine C_ret (fn := Tryd.f33) rfl (.tmp (v := .bool (decide (a7 ≤ (500 : Int)))) rfl .nil) ?_
    exact ⟨_, _, (.refl _), ok.wh, _, F_some hF, rfl, rfl⟩
theorem F_lecternref10_Right_ok {β : Type} {f : Bool → Option β} {G : β → Prop} {R : D → Heap → Prop} {p0 : List T_lecternref10_Stroke} (h : Heap) (hF : OptP ((F_lecternref10_Right p0).bind f) G) (hk : ∀ r, F_lecternref10_Right p0 = some r → OptP (f r) G → R (.bool r) h) : CallsA Tryd.prog 33 [.sl 2 (List.map c_T_lecternref10_Stroke p0) 0] h R := by
  obtain ⟨r0, hr, hF⟩ := F_bind hF
  refine (F_lecternref10_Right_w (G := fun r => r = r0) p0 h ⟨r0, hr, rfl⟩).mono ?_
  rintro _ _ ⟨r, rfl, rfl, rfl⟩
  exact hk _ hr hF
end Go.Proofs.YtocfjohangcajaaDoor
