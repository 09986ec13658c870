/- The walks. No condition. -/
import Derived.Test.YtocfjohangcajaaDoorWk1
set_option linter.unusedVariables false
set_option linter.unusedSimpArgs false
set_option maxRecDepth 20000
set_option maxHeartbeats 8000000
namespace Go.Proofs.YtocfjohangcajaaDoor
theorem F_lecternref10_mark_w (p0 : List UInt8) (p1 : Int) {G : Int × Int × Int × Int → Prop} (h : Heap) (hF : OptP (F_lecternref10_mark p0 p1) G) : CallsA Tryd.prog 31 [.str p0, .int .i64 p1] h fun d h' => ∃ r, G r ∧ d = .tup [.int .i64 r.1, .int .i64 r.2.1, .int .i64 r.2.2.1, .int .i64 r.2.2.2] ∧ h' = h := by
  refine CallsA.ret ?_
  refine C_body Tryd.func31 rfl en_31 Tryd.ntmps31 rfl (fun ok => ?_)
  rw [F_lecternref10_mark] at hF
  refine C_seq ?_
  refine C_reg (mdl []) ?_
  refine S_a (v := .int _ _) rfl ?_
  refine S_a (v := .int _ _) rfl ?_
  refine S_a (v := .int _ _) rfl ?_
  refine S_a (v := .int _ _) rfl ?_
  refine S_nil ?_
  refine C_join hF (fun (a23 : Int) s' => OK h [] ∧ WS s' ⟨mkSl 127 [(0, .str p0), (1, .int .i64 a23)], Hp h []⟩) (fun J24 hF => ?_) ?_
  ·
    refine WP_block ?_
    refine C_loop (σ := Int) hF (fun (a25 : Int) s' => OK h [] ∧ WS s' ⟨mkSl 127 [(0, .str p0), (1, .int .i64 a25)], Hp h []⟩) ?_ ?_
    ·
      have hwo : WO [] [] := .nil
      exact ⟨(hwo.spec ok).1, WS.mk' (.cons (.refl _) (.cons (.refl _) .nil)) ok hwo⟩
    ·
      rintro G26 hG27 rec28 a25 s' ih29 hF ⟨ok, hws⟩
      refine WP_ws hws ?_
      clear hws s'
      rw [F_lecternref10_mark_l0] at hF
      refine C_seq ?_
      refine C_seq ?_
      refine C_reg (mdl []) ?_
      refine S_m (v := .int _ _) rfl ?_
      refine S_m (v := .str _) rfl ?_
      refine S_lenS rfl ty_st_9 ?_
      refine S_bin rfl rfl (ev_lss ..) ?_
      refine S_m (v := .bool _) rfl ?_
      refine S_twoJ 29 45 hF (fun J31 hb30 hF => ?_) (fun J31 hb30 hF => ?_) (fun v32 hF => ?_)
      ·
        refine S_on rfl rfl hb30 ?_
        refine S_in ?_
        refine S_m (v := .str _) rfl ?_
        refine S_nil ?_
        refine S_on rfl rfl hb30 ?_
        refine S_in ?_
        refine S_m (v := .int _ _) rfl ?_
        refine S_nil ?_
        refine S_on rfl rfl hb30 ?_
        refine S_in ?_
        refine S_ixS rfl rfl ty_st_9 hF (fun x33 _ hF => ?_)
        refine S_nil ?_
        refine S_on rfl rfl hb30 ?_
        refine S_in ?_
        refine S_bin rfl rfl (ev_eql ..) ?_
        refine S_nil ?_
        refine S_on rfl rfl hb30 ?_
        refine S_in ?_
        refine S_m (v := .bool _) rfl ?_
        refine S_nil ?_
        refine S_twoJ 5 26 hF (fun J35 hb34 hF => ?_) (fun J35 hb34 hF => ?_) (fun v36 hF => ?_)
        ·
          refine S_off rfl rfl hb34 ?_
          refine S_offD ?_
          refine S_off rfl rfl hb34 ?_
          refine S_offD ?_
          refine S_off rfl rfl hb34 ?_
          refine S_offD ?_
          refine S_off rfl rfl hb34 ?_
          refine S_offD ?_
          refine S_on rfl rfl hb30 ?_
          refine S_in ?_
          refine S_pickT (v := .bool _) rfl hb34 rfl ?_
          refine S_nil ?_
          refine S_nil ?_
          refine ⟨_, hF, .hd (.refl _) ?_⟩
          repeat (first | with_reducible exact WS.refl _ | refine WS.add ?_ rfl)
        ·
          refine S_on rfl rfl hb34 ?_
          refine S_in ?_
          refine S_m (v := .str _) rfl ?_
          refine S_nil ?_
          refine S_on rfl rfl hb34 ?_
          refine S_in ?_
          refine S_m (v := .int _ _) rfl ?_
          refine S_nil ?_
          refine S_on rfl rfl hb34 ?_
          refine S_in ?_
          refine S_ixS rfl rfl ty_st_9 hF (fun x37 _ hF => ?_)
          refine S_nil ?_
          refine S_on rfl rfl hb34 ?_
          refine S_in ?_
          refine S_bin rfl rfl (ev_eql ..) ?_
          refine S_nil ?_
          refine S_on rfl rfl hb30 ?_
          refine S_in ?_
          refine S_pickF (v := .bool _) rfl hb34 rfl ?_
          refine S_nil ?_
          refine S_nil ?_
          refine ⟨_, hF, .hd (.refl _) ?_⟩
          repeat (first | with_reducible exact WS.refl _ | refine WS.add ?_ rfl)
        ·
          refine S_on rfl rfl hb30 ?_
          refine S_in ?_
          refine S_m (v := .bool _) rfl ?_
          refine S_nil ?_
          refine S_twoJ 5 32 hF (fun J39 hb38 hF => ?_) (fun J39 hb38 hF => ?_) (fun v40 hF => ?_)
          ·
            refine S_off rfl rfl hb38 ?_
            refine S_offD ?_
            refine S_off rfl rfl hb38 ?_
            refine S_offD ?_
            refine S_off rfl rfl hb38 ?_
            refine S_offD ?_
            refine S_off rfl rfl hb38 ?_
            refine S_offD ?_
            refine S_on rfl rfl hb30 ?_
            refine S_in ?_
            refine S_pickT (v := .bool _) rfl hb38 rfl ?_
            refine S_nil ?_
            refine S_nil ?_
            refine ⟨_, hF, .hd (.refl _) ?_⟩
            repeat (first | with_reducible exact WS.refl _ | refine WS.add ?_ rfl)
          ·
            refine S_on rfl rfl hb38 ?_
            refine S_in ?_
            refine S_m (v := .str _) rfl ?_
            refine S_nil ?_
            refine S_on rfl rfl hb38 ?_
            refine S_in ?_
            refine S_m (v := .int _ _) rfl ?_
            refine S_nil ?_
            refine S_on rfl rfl hb38 ?_
            refine S_in ?_
            refine S_ixS rfl rfl ty_st_9 hF (fun x41 _ hF => ?_)
            refine S_nil ?_
            refine S_on rfl rfl hb38 ?_
            refine S_in ?_
            refine S_bin rfl rfl (ev_eql ..) ?_
            refine S_nil ?_
            refine S_on rfl rfl hb30 ?_
            refine S_in ?_
            refine S_pickF (v := .bool _) rfl hb38 rfl ?_
            refine S_nil ?_
            refine S_nil ?_
            refine ⟨_, hF, .hd (.refl _) ?_⟩
            repeat (first | with_reducible exact WS.refl _ | refine WS.add ?_ rfl)
          ·
            refine S_on rfl rfl hb30 ?_
            refine S_in ?_
            refine S_m (v := .bool _) rfl ?_
            refine S_nil ?_
            refine S_twoJ 5 38 hF (fun J43 hb42 hF => ?_) (fun J43 hb42 hF => ?_) (fun v44 hF => ?_)
            ·
              refine S_off rfl rfl hb42 ?_
              refine S_offD ?_
              refine S_off rfl rfl hb42 ?_
              refine S_offD ?_
              refine S_off rfl rfl hb42 ?_
              refine S_offD ?_
              refine S_off rfl rfl hb42 ?_
              refine S_offD ?_
              refine S_on rfl rfl hb30 ?_
              refine S_in ?_
              refine S_pickT (v := .bool _) rfl hb42 rfl ?_
              refine S_nil ?_
              refine S_nil ?_
              refine ⟨_, hF, .hd (.refl _) ?_⟩
              repeat (first | with_reducible exact WS.refl _ | refine WS.add ?_ rfl)
            ·
              refine S_on rfl rfl hb42 ?_
              refine S_in ?_
              refine S_m (v := .str _) rfl ?_
              refine S_nil ?_
              refine S_on rfl rfl hb42 ?_
              refine S_in ?_
              refine S_m (v := .int _ _) rfl ?_
              refine S_nil ?_
              refine S_on rfl rfl hb42 ?_
              refine S_in ?_
              refine S_ixS rfl rfl ty_st_9 hF (fun x45 _ hF => ?_)
              refine S_nil ?_
              refine S_on rfl rfl hb42 ?_
              refine S_in ?_
              refine S_bin rfl rfl (ev_eql ..) ?_
              refine S_nil ?_
              refine S_on rfl rfl hb30 ?_
              refine S_in ?_
              refine S_pickF (v := .bool _) rfl hb42 rfl ?_
              refine S_nil ?_
              refine S_nil ?_
              refine ⟨_, hF, .hd (.refl _) ?_⟩
              repeat (first | with_reducible exact WS.refl _ | refine WS.add ?_ rfl)
            ·
              refine S_on rfl rfl hb30 ?_
              refine S_in ?_
              refine S_m (v := .bool _) rfl ?_
              refine S_nil ?_
              refine S_twoJ 5 44 hF (fun J47 hb46 hF => ?_) (fun J47 hb46 hF => ?_) (fun v48 hF => ?_)
              ·
                refine S_off rfl rfl hb46 ?_
                refine S_offD ?_
                refine S_off rfl rfl hb46 ?_
                refine S_offD ?_
                refine S_off rfl rfl hb46 ?_
                refine S_offD ?_
                refine S_off rfl rfl hb46 ?_
                refine S_offD ?_
                refine S_on rfl rfl hb30 ?_
                refine S_in ?_
                refine S_pickT (v := .bool _) rfl hb46 rfl ?_
                refine S_nil ?_
                refine S_nil ?_
                refine ⟨_, hF, .hd (.refl _) ?_⟩
                repeat (first | with_reducible exact WS.refl _ | refine WS.add ?_ rfl)
              ·
                refine S_on rfl rfl hb46 ?_
                refine S_in ?_
                refine S_m (v := .str _) rfl ?_
                refine S_nil ?_
                refine S_on rfl rfl hb46 ?_
                refine S_in ?_
                refine S_m (v := .int _ _) rfl ?_
                refine S_nil ?_
                refine S_on rfl rfl hb46 ?_
                refine S_in ?_
                refine S_ixS rfl rfl ty_st_9 hF (fun x49 _ hF => ?_)
                refine S_nil ?_
                refine S_on rfl rfl hb46 ?_
                refine S_in ?_
                refine S_bin rfl rfl (ev_eql ..) ?_
                refine S_nil ?_
                refine S_on rfl rfl hb30 ?_
                refine S_in ?_
                refine S_pickF (v := .bool _) rfl hb46 rfl ?_
                refine S_nil ?_
                refine S_nil ?_
                refine ⟨_, hF, .hd (.refl _) ?_⟩
                repeat (first | with_reducible exact WS.refl _ | refine WS.add ?_ rfl)
              ·
                refine S_pickT (v := .bool _) rfl hb30 rfl ?_
                refine S_nil ?_
                refine ⟨_, hF, .hd (.refl _) ?_⟩
                repeat (first | with_reducible exact WS.refl _ | refine WS.add ?_ rfl)
      ·
        refine S_off rfl rfl hb30 ?_
        refine S_offD ?_
        refine S_off rfl rfl hb30 ?_
        refine S_offD ?_
        refine S_off rfl rfl hb30 ?_
        refine S_offD ?_
        refine S_off rfl rfl hb30 ?_
        refine S_offD ?_
        refine S_off rfl rfl hb30 ?_
        refine S_offD ?_
        refine S_off2 rfl rfl ?_
        refine S_offD ?_
        refine S_off2 rfl rfl ?_
        refine S_offD ?_
        refine S_off2 rfl rfl ?_
        refine S_offD ?_
        refine S_off2 rfl rfl ?_
        refine S_offD ?_
        refine S_off rfl rfl hb30 ?_
        refine S_offD ?_
        refine S_off rfl rfl hb30 ?_
        refine S_offD ?_
        refine S_off2 rfl rfl ?_
        refine S_offD ?_
        refine S_off2 rfl rfl ?_
        refine S_offD ?_
        refine S_off2 rfl rfl ?_
        refine S_offD ?_
        refine S_off2 rfl rfl ?_
        refine S_offD ?_
        refine S_off rfl rfl hb30 ?_
        refine S_offD ?_
        refine S_off rfl rfl hb30 ?_
        refine S_offD ?_
        refine S_off2 rfl rfl ?_
        refine S_offD ?_
        refine S_off2 rfl rfl ?_
        refine S_offD ?_
        refine S_off2 rfl rfl ?_
        refine S_offD ?_
        refine S_off2 rfl rfl ?_
        refine S_offD ?_
        refine S_off rfl rfl hb30 ?_
        refine S_offD ?_
        refine S_off rfl rfl hb30 ?_
        refine S_offD ?_
        refine S_off2 rfl rfl ?_
        refine S_offD ?_
        refine S_off2 rfl rfl ?_
        refine S_offD ?_
        refine S_off2 rfl rfl ?_
        refine S_offD ?_
        refine S_off2 rfl rfl ?_
        refine S_offD ?_
        refine S_off rfl rfl hb30 ?_
        refine S_offD ?_
        refine S_pickF (v := .bool _) rfl hb30 rfl ?_
        refine S_nil ?_
        refine ⟨_, hF, .hd (.refl _) ?_⟩
        repeat (first | with_reducible exact WS.refl _ | refine WS.add ?_ rfl)
      ·
        refine S_nil ?_
        refine C_if (b := v32) rfl hF (fun hb50 hF => ?_) (fun hb50 hF => ?_)
        ·
          refine WP_skip ?_
          refine WP_block ?_
          refine C_reg (mdl []) ?_
          refine S_m (v := .int _ _) rfl ?_
          refine S_bin rfl rfl (ev_add ..) ?_
          refine S_a (v := .int _ _) rfl ?_
          refine S_nil ?_
          refine ih29 (IntKind.wrap .i64 (a25 + (1 : Int))) _ hF ?_
          have hwo : WO [] [] := .nil
          exact ⟨(hwo.spec ok).1, WS.mk' (.cons (.refl _) (.cons (.refl _) .nil)) ok hwo⟩
        ·
          refine WP_exit ?_
          simp only [Exit.sel, Exit.blk, Exit.jmp, if_true, if_false, reduceIte, Nat.reduceEqDiff, Nat.succ_ne_zero, Nat.zero_ne_one, Nat.one_ne_zero]
          replace hF := hG27 _ (F_some hF)
          have hwo : WO [] [] := .nil
          exact ⟨a25, hF, (hwo.spec ok).1, WS.mk' (.cons (.refl _) (.cons (.refl _) .nil)) ok hwo⟩
  ·
    rintro a23 s' hF ⟨ok, hws⟩
    refine WP_ws hws ?_
    clear hws s'
    refine C_seq ?_
    refine C_seq ?_
    refine C_reg (mdl []) ?_
    refine S_m (v := .int _ _) rfl ?_
    refine S_m (v := .str _) rfl ?_
    refine S_lenS rfl ty_st_9 ?_
    refine S_bin rfl rfl (ev_eql ..) ?_
    refine S_nil ?_
    refine C_if (b := (a23 == (p0.length : Int))) rfl hF (fun hb51 hF => ?_) (fun hb51 hF => ?_)
    ·
      refine C_seq ?_
      refine C_reg (mdl []) ?_
      refine S_m (v := .int _ _) rfl ?_
      refine S_m (v := .int _ _) rfl ?_
      refine S_a (v := .int _ _) rfl ?_
      refine S_a (v := .int _ _) rfl ?_
      refine S_a (v := .int _ _) rfl ?_
      refine S_a (v := .int _ _) rfl ?_
      refine S_nil ?_
      refine WP_ret ?_
      repeat (first | with_reducible refine Exit.sel_ret ?_ | with_reducible refine Exit.blk_ret ?_ | with_reducible refine Exit.jmp_ret ?_)
      refine C_ret (fn := Tryd.f31) rfl (.tmp (v := .int .i64 (0 : Int)) rfl (.tmp (v := .int .i64 a23) rfl (.tmp (v := .int .i64 a23) rfl (.tmp (v := .int .i64 (0 : Int)) rfl .nil)))) ?_
      exact ⟨_, _, (.tupC (.cons (.refl _) (.cons (.refl _) (.cons (.refl _) (.cons (.refl _) (.nil)))))), ok.wh, _, F_some hF, rfl, rfl⟩
    ·
      refine WP_skip ?_
      refine C_join hF (fun (_ : Unit) s' => OK h [] ∧ WS s' ⟨mkSl 127 [(0, .str p0), (1, .int .i64 a23)], Hp h []⟩) (fun J57 hF => ?_) ?_
      ·
        refine C_seq ?_
        refine C_reg (mdl []) ?_
        refine S_a (v := .int _ _) rfl ?_
        refine S_nil ?_
        refine WP_block ?_
        refine C_loop (σ := Int) hF (fun (a58 : Int) s' => OK h [] ∧ WS s' ⟨mkSl 127 [(0, .str p0), (1, .int .i64 a23), (8, .int .i64 a58)], Hp h []⟩) ?_ ?_
        ·
          have hwo : WO [] [] := .nil
          exact ⟨(hwo.spec ok).1, WS.mk' (.cons (.refl _) (.cons (.refl _) (.cons (.refl _) .nil))) ok hwo⟩
        ·
          rintro G59 hG60 rec61 a58 s' ih62 hF ⟨ok, hws⟩
          refine WP_ws hws ?_
          clear hws s'
          rw [F_lecternref10_mark_l1] at hF
          refine C_seq ?_
          refine C_seq ?_
          refine C_reg (mdl []) ?_
          refine S_m (v := .int _ _) rfl ?_
          refine S_bin rfl rfl (ev_lss ..) ?_
          refine S_nil ?_
          refine C_if (b := (decide (a58 < (10 : Int)))) rfl hF (fun hb63 hF => ?_) (fun hb63 hF => ?_)
          ·
            refine WP_skip ?_
            refine C_seq ?_
            refine WP_block ?_
            refine C_seq ?_
            refine C_drw (mdl []) (by kernel_rfl) (by kernel_rfl) ?_
            refine S_m (v := .str _) rfl ?_
            refine S_m (v := .int _ _) rfl ?_
            refine S_ixS rfl rfl ty_st_9 hF (fun x64 _ hF => ?_)
            refine S_m (v := .int _ _) rfl ?_
            refine S_ixS rfl rfl ty_st_9 hF (fun x65 _ hF => ?_)
            refine S_bin rfl rfl (ev_eql ..) ?_
            refine S_nil ?_
            refine C_if (b := ((x64.toNat : Int) == (x65.toNat : Int))) rfl hF (fun hb66 hF => ?_) (fun hb66 hF => ?_)
            ·
              refine C_seq ?_
              refine C_reg (mdl []) ?_
              refine S_m (v := .int _ _) rfl ?_
              refine S_m (v := .int _ _) rfl ?_
              refine S_bin rfl rfl (ev_add ..) ?_
              refine S_a (v := .int _ _) rfl ?_
              refine S_a (v := .int _ _) rfl ?_
              refine S_a (v := .int _ _) rfl ?_
              refine S_a (v := .int _ _) rfl ?_
              refine S_nil ?_
              refine WP_ret ?_
              replace hF := hG60 _ (F_some hF)
              repeat (first | with_reducible refine Exit.sel_ret ?_ | with_reducible refine Exit.blk_ret ?_ | with_reducible refine Exit.jmp_ret ?_)
              refine C_ret (fn := Tryd.f31) rfl (.tmp (v := .int .i64 (1 : Int)) rfl (.tmp (v := .int .i64 a23) rfl (.tmp (v := .int .i64 (IntKind.wrap .i64 (a23 + (1 : Int)))) rfl (.tmp (v := .int .i64 (0 : Int)) rfl .nil)))) ?_
              exact ⟨_, _, (.tupC (.cons (.refl _) (.cons (.refl _) (.cons (.refl _) (.cons (.refl _) (.nil)))))), ok.wh, _, F_some hF, rfl, rfl⟩
            ·
              refine WP_skip ?_
              refine C_reg (mdl []) ?_
              refine S_m (v := .int _ _) rfl ?_
              refine S_bin rfl rfl (ev_add ..) ?_
              refine S_a (v := .int _ _) rfl ?_
              refine S_nil ?_
              refine ih62 (IntKind.wrap .i64 (a58 + (1 : Int))) _ hF ?_
              have hwo : WO [] [] := .nil
              exact ⟨(hwo.spec ok).1, WS.mk' (.cons (.refl _) (.cons (.refl _) (.cons (.refl _) .nil))) ok hwo⟩
          ·
            refine WP_exit ?_
            simp only [Exit.sel, Exit.blk, Exit.jmp, if_true, if_false, reduceIte, Nat.reduceEqDiff, Nat.succ_ne_zero, Nat.zero_ne_one, Nat.one_ne_zero]
            replace hF := hG60 _ (F_some hF)
            have hwo : WO [] [] := .nil
            exact ⟨(), hF, (hwo.spec ok).1, WS.mk' (.cons (.refl _) (.cons (.refl _) .nil)) ok hwo⟩
      ·
        rintro ⟨⟩ s' hF ⟨ok, hws⟩
        refine WP_ws hws ?_
        clear hws s'
        refine C_seq ?_
        refine C_reg (mdl []) ?_
        refine S_m (v := .int _ _) rfl ?_
        refine S_a (v := .int _ _) rfl ?_
        refine S_nil ?_
        refine C_join hF (fun (a73 : Int) s' => OK h [] ∧ WS s' ⟨mkSl 127 [(0, .str p0), (1, .int .i64 a23), (9, .int .i64 a73)], Hp h []⟩) (fun J74 hF => ?_) ?_
        ·
          refine C_seq ?_
          refine C_reg (mdl []) ?_
          refine S_m (v := .str _) rfl ?_
          refine S_m (v := .int _ _) rfl ?_
          refine S_ixS rfl rfl ty_st_9 hF (fun x75 _ hF => ?_)
          refine S_bin rfl rfl (ev_eql ..) ?_
          refine S_m (v := .bool _) rfl ?_
          refine S_twoJ 5 77 hF (fun J77 hb76 hF => ?_) (fun J77 hb76 hF => ?_) (fun v78 hF => ?_)
          ·
            refine S_off rfl rfl hb76 ?_
            refine S_offD ?_
            refine S_off rfl rfl hb76 ?_
            refine S_offD ?_
            refine S_off rfl rfl hb76 ?_
            refine S_offD ?_
            refine S_off rfl rfl hb76 ?_
            refine S_offD ?_
            refine S_pickT (v := .bool _) rfl hb76 rfl ?_
            refine S_nil ?_
            refine ⟨_, hF, .hd (.refl _) ?_⟩
            repeat (first | with_reducible exact WS.refl _ | refine WS.add ?_ rfl)
          ·
            refine S_on rfl rfl hb76 ?_
            refine S_in ?_
            refine S_m (v := .str _) rfl ?_
            refine S_nil ?_
            refine S_on rfl rfl hb76 ?_
            refine S_in ?_
            refine S_m (v := .int _ _) rfl ?_
            refine S_nil ?_
            refine S_on rfl rfl hb76 ?_
            refine S_in ?_
            refine S_ixS rfl rfl ty_st_9 hF (fun x79 _ hF => ?_)
            refine S_nil ?_
            refine S_on rfl rfl hb76 ?_
            refine S_in ?_
            refine S_bin rfl rfl (ev_eql ..) ?_
            refine S_nil ?_
            refine S_pickF (v := .bool _) rfl hb76 rfl ?_
            refine S_nil ?_
            refine ⟨_, hF, .hd (.refl _) ?_⟩
            repeat (first | with_reducible exact WS.refl _ | refine WS.add ?_ rfl)
          ·
            refine S_nil ?_
            refine C_if (b := v78) rfl hF (fun hb80 hF => ?_) (fun hb80 hF => ?_)
            ·
              refine C_reg (mdl []) ?_
              refine S_m (v := .int _ _) rfl ?_
              refine S_bin rfl rfl (ev_add ..) ?_
              refine S_a (v := .int _ _) rfl ?_
              refine S_nil ?_
              have hwo : WO [] [] := .nil
              exact ⟨(IntKind.wrap .i64 (a23 + (1 : Int))), hF, (hwo.spec ok).1, WS.mk' (.cons (.refl _) (.cons (.refl _) (.cons (.refl _) .nil))) ok hwo⟩
            ·
              refine WP_skip ?_
              have hwo : WO [] [] := .nil
              exact ⟨a23, hF, (hwo.spec ok).1, WS.mk' (.cons (.refl _) (.cons (.refl _) (.cons (.refl _) .nil))) ok hwo⟩
        ·
          rintro a73 s' hF ⟨ok, hws⟩
          refine WP_ws hws ?_
          clear hws s'
          refine C_seq ?_
          refine C_reg (mdl []) ?_
          refine S_a (v := .int _ _) rfl ?_
          refine S_a (v := .int _ _) rfl ?_
          refine S_nil ?_
          refine C_join hF (fun (v : Int × Int × Int) s' => match v with | (a99, a100, a101) => OK h [] ∧ WS s' ⟨mkSl 127 [(0, .str p0), (1, .int .i64 a23), (9, .int .i64 a99), (10, .int .i64 a100), (11, .int .i64 a101)], Hp h []⟩) (fun J102 hF => ?_) ?_
          ·
            refine WP_block ?_
            refine C_loop (σ := Int × Int × Int) hF (fun (v : Int × Int × Int) s' => match v with | (a103, a104, a105) => OK h [] ∧ WS s' ⟨mkSl 127 [(0, .str p0), (1, .int .i64 a23), (9, .int .i64 a103), (10, .int .i64 a104), (11, .int .i64 a105)], Hp h []⟩) ?_ ?_
            ·
              have hwo : WO [] [] := .nil
              exact ⟨(hwo.spec ok).1, WS.mk' (.cons (.refl _) (.cons (.refl _) (.cons (.refl _) (.cons (.refl _) (.cons (.refl _) .nil))))) ok hwo⟩
            ·
              rintro G106 hG107 rec108 ⟨a103, a104, a105⟩ s' ih109 hF ⟨ok, hws⟩
              refine WP_ws hws ?_
              clear hws s'
              rw [F_lecternref10_mark_l2] at hF
              refine C_seq ?_
              refine C_seq ?_
              refine C_reg (mdl []) ?_
              refine S_m (v := .int _ _) rfl ?_
              refine S_m (v := .str _) rfl ?_
              refine S_lenS rfl ty_st_9 ?_
              refine S_bin rfl rfl (ev_lss ..) ?_
              refine S_m (v := .bool _) rfl ?_
              refine S_twoJ 5 89 hF (fun J111 hb110 hF => ?_) (fun J111 hb110 hF => ?_) (fun v112 hF => ?_)
              ·
                refine S_on rfl rfl hb110 ?_
                refine S_in ?_
                refine S_m (v := .str _) rfl ?_
                refine S_nil ?_
                refine S_on rfl rfl hb110 ?_
                refine S_in ?_
                refine S_m (v := .int _ _) rfl ?_
                refine S_nil ?_
                refine S_on rfl rfl hb110 ?_
                refine S_in ?_
                refine S_ixS rfl rfl ty_st_9 hF (fun x113 _ hF => ?_)
                refine S_nil ?_
                refine S_on rfl rfl hb110 ?_
                refine S_in ?_
                refine S_bin rfl rfl (ev_geq ..) ?_
                refine S_nil ?_
                refine S_pickT (v := .bool _) rfl hb110 rfl ?_
                refine S_nil ?_
                refine ⟨_, hF, .hd (.refl _) ?_⟩
                repeat (first | with_reducible exact WS.refl _ | refine WS.add ?_ rfl)
              ·
                refine S_off rfl rfl hb110 ?_
                refine S_offD ?_
                refine S_off rfl rfl hb110 ?_
                refine S_offD ?_
                refine S_off rfl rfl hb110 ?_
                refine S_offD ?_
                refine S_off rfl rfl hb110 ?_
                refine S_offD ?_
                refine S_pickF (v := .bool _) rfl hb110 rfl ?_
                refine S_nil ?_
                refine ⟨_, hF, .hd (.refl _) ?_⟩
                repeat (first | with_reducible exact WS.refl _ | refine WS.add ?_ rfl)
              ·
                refine S_m (v := .bool _) rfl ?_
                refine S_twoJ 5 95 hF (fun J115 hb114 hF => ?_) (fun J115 hb114 hF => ?_) (fun v116 hF => ?_)
                ·
                  refine S_on rfl rfl hb114 ?_
                  refine S_in ?_
                  refine S_m (v := .str _) rfl ?_
                  refine S_nil ?_
                  refine S_on rfl rfl hb114 ?_
                  refine S_in ?_
                  refine S_m (v := .int _ _) rfl ?_
                  refine S_nil ?_
                  refine S_on rfl rfl hb114 ?_
                  refine S_in ?_
                  refine S_ixS rfl rfl ty_st_9 hF (fun x117 _ hF => ?_)
                  refine S_nil ?_
                  refine S_on rfl rfl hb114 ?_
                  refine S_in ?_
                  refine S_bin rfl rfl (ev_leq ..) ?_
                  refine S_nil ?_
                  refine S_pickT (v := .bool _) rfl hb114 rfl ?_
                  refine S_nil ?_
                  refine ⟨_, hF, .hd (.refl _) ?_⟩
                  repeat (first | with_reducible exact WS.refl _ | refine WS.add ?_ rfl)
                ·
                  refine S_off rfl rfl hb114 ?_
                  refine S_offD ?_
                  refine S_off rfl rfl hb114 ?_
                  refine S_offD ?_
                  refine S_off rfl rfl hb114 ?_
                  refine S_offD ?_
                  refine S_off rfl rfl hb114 ?_
                  refine S_offD ?_
                  refine S_pickF (v := .bool _) rfl hb114 rfl ?_
                  refine S_nil ?_
                  refine ⟨_, hF, .hd (.refl _) ?_⟩
                  repeat (first | with_reducible exact WS.refl _ | refine WS.add ?_ rfl)
                ·
                  refine S_nil ?_
                  refine C_if (b := v116) rfl hF (fun hb118 hF => ?_) (fun hb118 hF => ?_)
                  ·
                    refine WP_skip ?_
                    refine WP_block ?_
                    refine C_join hF (fun (v : Int × Int) s' => match v with | (a121, a122) => OK h [] ∧ WS s' ⟨mkSl 127 [(0, .str p0), (1, .int .i64 a23), (9, .int .i64 a103), (10, .int .i64 a121), (11, .int .i64 a122)], Hp h []⟩) (fun J123 hF => ?_) ?_
                    ·
                      refine C_seq ?_
                      refine C_reg (mdl []) ?_
                      refine S_m (v := .int _ _) rfl ?_
                      refine S_bin rfl rfl (ev_lss ..) ?_
                      refine S_nil ?_
                      refine C_if (b := (decide (a105 < (8 : Int)))) rfl hF (fun hb124 hF => ?_) (fun hb124 hF => ?_)
                      ·
                        refine C_seq ?_
                        refine C_reg (mdl []) ?_
                        refine S_m (v := .int _ _) rfl ?_
                        refine S_bin rfl rfl (ev_mul ..) ?_
                        refine S_m (v := .str _) rfl ?_
                        refine S_m (v := .int _ _) rfl ?_
                        refine S_ixS rfl rfl ty_st_9 hF (fun x125 _ hF => ?_)
                        refine S_bin rfl rfl (ev_sub ..) ?_
                        refine S_conv rfl (e_ci ty_ki_3 ty_un_5) ?_
                        refine S_bin rfl rfl (ev_add ..) ?_
                        refine S_a (v := .int _ _) rfl ?_
                        refine S_nil ?_
                        refine C_reg (mdl []) ?_
                        refine S_m (v := .int _ _) rfl ?_
                        refine S_bin rfl rfl (ev_add ..) ?_
                        refine S_a (v := .int _ _) rfl ?_
                        refine S_nil ?_
                        have hwo : WO [] [] := .nil
                        exact ⟨((IntKind.wrap .i64 ((IntKind.wrap .i64 ((10 : Int) * a104)) + (IntKind.wrap .i64 (IntKind.wrap .u8 ((x125.toNat : Int) - (48 : Int)))))), (IntKind.wrap .i64 (a105 + (1 : Int)))), hF, (hwo.spec ok).1, WS.mk' (.cons (.refl _) (.cons (.refl _) (.cons (.refl _) (.cons (.refl _) (.cons (.refl _) .nil))))) ok hwo⟩
                      ·
                        refine WP_skip ?_
                        have hwo : WO [] [] := .nil
                        exact ⟨(a104, a105), hF, (hwo.spec ok).1, WS.mk' (.cons (.refl _) (.cons (.refl _) (.cons (.refl _) (.cons (.refl _) (.cons (.refl _) .nil))))) ok hwo⟩
                    ·
                      rintro ⟨a121, a122⟩ s' hF ⟨ok, hws⟩
                      refine WP_ws hws ?_
                      clear hws s'
                      refine C_reg (mdl []) ?_
                      refine S_m (v := .int _ _) rfl ?_
                      refine S_bin rfl rfl (ev_add ..) ?_
                      refine S_a (v := .int _ _) rfl ?_
                      refine S_nil ?_
                      refine ih109 ((IntKind.wrap .i64 (a103 + (1 : Int))), a121, a122) _ hF ?_
                      have hwo : WO [] [] := .nil
                      exact ⟨(hwo.spec ok).1, WS.mk' (.cons (.refl _) (.cons (.refl _) (.cons (.refl _) (.cons (.refl _) (.cons (.refl _) .nil))))) ok hwo⟩
                  ·
                    refine WP_exit ?_
                    simp only [Exit.sel, Exit.blk, Exit.jmp, if_true, if_false, reduceIte, Nat.reduceEqDiff, Nat.succ_ne_zero, Nat.zero_ne_one, Nat.one_ne_zero]
                    replace hF := hG107 _ (F_some hF)
                    have hwo : WO [] [] := .nil
                    exact ⟨(a103, a104, a105), hF, (hwo.spec ok).1, WS.mk' (.cons (.refl _) (.cons (.refl _) (.cons (.refl _) (.cons (.refl _) (.cons (.refl _) .nil))))) ok hwo⟩
          ·
            rintro ⟨a99, a100, a101⟩ s' hF ⟨ok, hws⟩
            refine WP_ws hws ?_
            clear hws s'
            refine C_seq ?_
            refine C_seq ?_
            refine C_reg (mdl []) ?_
            refine S_m (v := .int _ _) rfl ?_
            refine S_bin rfl rfl (ev_eql ..) ?_
            refine S_m (v := .bool _) rfl ?_
            refine S_two (b := (a101 == (0 : Int))) 3 115 (.bool ((a101 == (0 : Int)) || (decide ((7 : Int) < a101)))) (fun hb126 => ?_) (fun hb126 => ?_) ?_
            ·
              refine S_off rfl rfl hb126 ?_
              refine S_offD ?_
              refine S_off rfl rfl hb126 ?_
              refine S_offD ?_
              refine S_pickT (v := .bool _) rfl hb126 rfl ?_
              refine S_nil ?_
              refine .hd (or_t hb126) ?_
              repeat (first | with_reducible exact WS.refl _ | refine WS.add ?_ rfl)
            ·
              refine S_on rfl rfl hb126 ?_
              refine S_in ?_
              refine S_m (v := .int _ _) rfl ?_
              refine S_nil ?_
              refine S_on rfl rfl hb126 ?_
              refine S_in ?_
              refine S_bin rfl rfl (ev_gtr ..) ?_
              refine S_nil ?_
              refine S_pickF (v := .bool _) rfl hb126 rfl ?_
              refine S_nil ?_
              refine .hd (or_f hb126) ?_
              repeat (first | with_reducible exact WS.refl _ | refine WS.add ?_ rfl)
            refine S_nil ?_
            refine C_if (b := ((a101 == (0 : Int)) || (decide ((7 : Int) < a101)))) rfl hF (fun hb127 hF => ?_) (fun hb127 hF => ?_)
            ·
              refine C_seq ?_
              refine C_reg (mdl []) ?_
              refine S_m (v := .int _ _) rfl ?_
              refine S_m (v := .int _ _) rfl ?_
              refine S_a (v := .int _ _) rfl ?_
              refine S_a (v := .int _ _) rfl ?_
              refine S_a (v := .int _ _) rfl ?_
              refine S_a (v := .int _ _) rfl ?_
              refine S_nil ?_
              refine WP_ret ?_
              repeat (first | with_reducible refine Exit.sel_ret ?_ | with_reducible refine Exit.blk_ret ?_ | with_reducible refine Exit.jmp_ret ?_)
              refine C_ret (fn := Tryd.f31) rfl (.tmp (v := .int .i64 (3 : Int)) rfl (.tmp (v := .int .i64 a23) rfl (.tmp (v := .int .i64 a23) rfl (.tmp (v := .int .i64 (0 : Int)) rfl .nil)))) ?_
              exact ⟨_, _, (.tupC (.cons (.refl _) (.cons (.refl _) (.cons (.refl _) (.cons (.refl _) (.nil)))))), ok.wh, _, F_some hF, rfl, rfl⟩
            ·
              refine WP_skip ?_
              refine C_join hF (fun (a130 : Int) s' => OK h [] ∧ WS s' ⟨mkSl 127 [(1, .int .i64 a23), (9, .int .i64 a99), (10, .int .i64 a130)], Hp h []⟩) (fun J131 hF => ?_) ?_
              ·
                refine C_seq ?_
                refine C_reg (mdl []) ?_
                refine S_m (v := .str _) rfl ?_
                refine S_m (v := .int _ _) rfl ?_
                refine S_ixS rfl rfl ty_st_9 hF (fun x132 _ hF => ?_)
                refine S_bin rfl rfl (ev_eql ..) ?_
                refine S_nil ?_
                refine C_if (b := ((x132.toNat : Int) == (45 : Int))) rfl hF (fun hb133 hF => ?_) (fun hb133 hF => ?_)
                ·
                  refine C_reg (mdl []) ?_
                  refine S_m (v := .int _ _) rfl ?_
                  refine S_un rfl (ev_neg ..) ?_
                  refine S_a (v := .int _ _) rfl ?_
                  refine S_nil ?_
                  have hwo : WO [] [] := .nil
                  exact ⟨(IntKind.wrap .i64 (0 - a100)), hF, (hwo.spec ok).1, WS.mk' (.cons (.refl _) (.cons (.refl _) (.cons (.refl _) .nil))) ok hwo⟩
                ·
                  refine WP_skip ?_
                  have hwo : WO [] [] := .nil
                  exact ⟨a100, hF, (hwo.spec ok).1, WS.mk' (.cons (.refl _) (.cons (.refl _) (.cons (.refl _) .nil))) ok hwo⟩
              ·
                rintro a130 s' hF ⟨ok, hws⟩
                refine WP_ws hws ?_
                clear hws s'
                refine C_seq ?_
                refine C_reg (mdl []) ?_
                refine S_m (v := .int _ _) rfl ?_
                refine S_m (v := .int _ _) rfl ?_
                refine S_m (v := .int _ _) rfl ?_
                refine S_a (v := .int _ _) rfl ?_
                refine S_a (v := .int _ _) rfl ?_
                refine S_a (v := .int _ _) rfl ?_
                refine S_a (v := .int _ _) rfl ?_
                refine S_nil ?_
                refine WP_ret ?_
                repeat (first | with_reducible refine Exit.sel_ret ?_ | with_reducible refine Exit.blk_ret ?_ | with_reducible refine Exit.jmp_ret ?_)
                refine C_ret (fn := Tryd.f31) rfl (.tmp (v := .int .i64 (2 : Int)) rfl (.tmp (v := .int .i64 a23) rfl (.tmp (v := .int .i64 a99) rfl (.tmp (v := .int .i64 a130) rfl .nil)))) ?_
                exact ⟨_, _, (.tupC (.cons (.refl _) (.cons (.refl _) (.cons (.refl _) (.cons (.refl _) (.nil)))))), ok.wh, _, F_some hF, rfl, rfl⟩
theorem F_lecternref10_mark_ok {β : Type} {f : Int × Int × Int × Int → Option β} {G : β → Prop} {R : D → Heap → Prop} {p0 : List UInt8} {p1 : Int} (h : Heap) (hF : OptP ((F_lecternref10_mark p0 p1).bind f) G) (hk : ∀ r, F_lecternref10_mark p0 p1 = some r → OptP (f r) G → R (.tup [.int .i64 r.1, .int .i64 r.2.1, .int .i64 r.2.2.1, .int .i64 r.2.2.2]) h) : CallsA Tryd.prog 31 [.str p0, .int .i64 p1] h R := by
  obtain ⟨r0, hr, hF⟩ := F_bind hF
  refine (F_lecternref10_mark_w (G := fun r => r = r0) p0 p1 h ⟨r0, hr, rfl⟩).mono ?_
  rintro _ _ ⟨r, rfl, rfl, rfl⟩
  exact hk _ hr hF
theorem F_lecternref10_part_w (p0 : Int) {G : Bool → Prop} (h : Heap) (hF : OptP (F_lecternref10_part p0) G) : CallsA Tryd.prog 32 [.int .i64 p0] h fun d h' => ∃ r, G r ∧ d = .bool r ∧ h' = h := by
  refine CallsA.ret ?_
  refine C_body Tryd.func32 rfl en_32 Tryd.ntmps32 rfl (fun ok => ?_)
  rw [F_lecternref10_part] at hF
  refine C_seq ?_
  refine C_reg (mdl []) ?_
  refine S_a (v := .bool _) rfl ?_
  refine S_nil ?_
  refine C_seq ?_
  refine C_reg (mdl []) ?_
  refine S_m (v := .int _ _) rfl ?_
  refine S_bin rfl rfl (ev_geq ..) ?_
  refine S_m (v := .bool _) rfl ?_
  refine S_two (b := (decide ((-1000000 : Int) ≤ p0))) 3 8 (.bool ((decide ((-1000000 : Int) ≤ p0)) && (decide (p0 ≤ (1000000 : Int))))) (fun hb1 => ?_) (fun hb1 => ?_) ?_
  ·
    refine S_on rfl rfl hb1 ?_
    refine S_in ?_
    refine S_m (v := .int _ _) rfl ?_
    refine S_nil ?_
    refine S_on rfl rfl hb1 ?_
    refine S_in ?_
    refine S_bin rfl rfl (ev_leq ..) ?_
    refine S_nil ?_
    refine S_pickT (v := .bool _) rfl hb1 rfl ?_
    refine S_nil ?_
    refine .hd (and_t hb1) ?_
    repeat (first | with_reducible exact WS.refl _ | refine WS.add ?_ rfl)
  ·
    refine S_off rfl rfl hb1 ?_
    refine S_offD ?_
    refine S_off rfl rfl hb1 ?_
    refine S_offD ?_
    refine S_pickF (v := .bool _) rfl hb1 rfl ?_
    refine S_nil ?_
    refine .hd (and_f hb1) ?_
    repeat (first | with_reducible exact WS.refl _ | refine WS.add ?_ rfl)
  refine S_a (v := .bool _) rfl ?_
  refine S_nil ?_
  refine WP_ret ?_
  repeat (first | with_reducible refine Exit.sel_ret ?_ | with_reducible refine Exit.blk_ret ?_ | with_reducible refine Exit.jmp_ret ?_)
  refine C_ret (fn := Tryd.f32) rfl (.tmp (v := .bool ((decide ((-1000000 : Int) ≤ p0)) && (decide (p0 ≤ (1000000 : Int))))) rfl .nil) ?_
  exact ⟨_, _, (.refl _), ok.wh, _, F_some hF, rfl, rfl⟩
theorem F_lecternref10_part_ok {β : Type} {f : Bool → Option β} {G : β → Prop} {R : D → Heap → Prop} {p0 : Int} (h : Heap) (hF : OptP ((F_lecternref10_part p0).bind f) G) (hk : ∀ r, F_lecternref10_part p0 = some r → OptP (f r) G → R (.bool r) h) : CallsA Tryd.prog 32 [.int .i64 p0] h R := by
  obtain ⟨r0, hr, hF⟩ := F_bind hF
  refine (F_lecternref10_part_w (G := fun r => r = r0) p0 h ⟨r0, hr, rfl⟩).mono ?_
  rintro _ _ ⟨r, rfl, rfl, rfl⟩
  exact hk _ hr hF
theorem F_lecternref10_Read_w (p0 : List UInt8) {G : (List T_lecternref10_Stroke) × Int × Int → Prop} (h : Heap) (hF : OptP (F_lecternref10_Read p0) G) : CallsA Tryd.prog 13 [.str p0] h fun d h' => ∃ r, G r ∧ d = .tup [.sl 2 (List.map c_T_lecternref10_Stroke r.1) 0, .int .i64 r.2.1, .int .i64 r.2.2] ∧ h' = h := by
  refine CallsA.ret ?_
  refine C_body Tryd.func13 rfl en_13 Tryd.ntmps13 rfl (fun ok => ?_)
  rw [F_lecternref10_Read] at hF
  refine C_seq ?_
  refine C_reg (mdl []) ?_
  refine S_a (v := .snil) rfl ?_
  refine S_one 2 (v := .sl 2 (List.map c_T_lecternref10_Stroke ([] : List T_lecternref10_Stroke)) 0) (.nil _) ?_
  refine S_a (v := .int _ _) rfl ?_
  refine S_a (v := .int _ _) rfl ?_
  refine S_nil ?_
  refine C_seq ?_
  refine C_reg (mdl [(26, 1)]) ?_
  refine S_lit1O (cs := []) (c := cR_T_lecternref10_Stroke) (e := tagR (some 0) ([] : List T_lecternref10_Stroke)) ok rfl ty_el_27 rfl (by kernel_rfl) rfl ?_
  intro u1 zu1 ok
  refine S_room0 ok (fun ok => ?_)
  refine S_a (v := mslO _ _ _) rfl ?_
  refine S_nil ?_
  refine C_seq ?_
  refine C_reg (mdl [(6, 1)]) ?_
  refine S_bld (v := .agg (c_T_lecternref10_Spot (⟨(0 : Int), (0 : Int)⟩ : T_lecternref10_Spot))) (b_st ty_zc_52 ty_pl_52 rfl) ?_
  refine S_all1 ok rfl ty_zc_52 ?_
  intro i3 hi3 ok
  refine S_st (j := 0) (cs' := [.int .i64 (⟨(0 : Int), (0 : Int)⟩ : T_lecternref10_Spot).X, .int .i64 (⟨(0 : Int), (0 : Int)⟩ : T_lecternref10_Spot).Y]) ok rfl rfl rfl hi3 rfl ty_sz_52 rfl rfl (fun ok => ?_)
  refine S_nil ?_
  refine C_seq ?_
  refine C_reg (mdl []) ?_
  refine S_a (v := .bool _) rfl ?_
  refine S_nil ?_
  refine C_seq ?_
  refine C_reg (mdl []) ?_
  refine S_a (v := .int _ _) rfl ?_
  refine S_nil ?_
  refine C_seq ?_
  refine C_reg (mdl []) ?_
  refine S_a (v := .int _ _) rfl ?_
  refine S_nil ?_
  refine WP_block ?_
  refine C_loop (σ := (List T_lecternref10_Stroke) × Int × Int × Bool × Int × Int) hF (fun (v : (List T_lecternref10_Stroke) × Int × Int × Bool × Int × Int) s' => match v with | (a5, a7, a8, a9, a10, a11) => ∃ g4 g6 : Nat, (g4 = 0 → a5 = []) ∧ (g6 = 0 → a5 = []) ∧ OK h [(i3, .cells [.int .i64 a7, .int .i64 a8]), (g6, .room), mo g4 cR_T_lecternref10_Stroke (tagR (some g6) a5)] ∧ WS s' ⟨mkSl 206 [(0, .str p0), (5, mslO 2 g4 a5), (6, .ptr i3 0), (7, .bool a9), (8, .int .i64 a10), (9, .int .i64 a11)], Hp h [(i3, .cells [.int .i64 a7, .int .i64 a8]), (g6, .room), mo g4 cR_T_lecternref10_Stroke (tagR (some g6) a5)]⟩) ?_ ?_
  ·
    have hwo : WO [(i3, .cells [.int .i64 (⟨(0 : Int), (0 : Int)⟩ : T_lecternref10_Spot).X, .int .i64 (⟨(0 : Int), (0 : Int)⟩ : T_lecternref10_Spot).Y]), (0, .room), mo u1 cR_T_lecternref10_Stroke (tagR (some 0) ([] : List T_lecternref10_Stroke))] [(i3, .cells [.int .i64 (⟨(0 : Int), (0 : Int)⟩ : T_lecternref10_Spot).X, .int .i64 (⟨(0 : Int), (0 : Int)⟩ : T_lecternref10_Spot).Y]), (0, .room), mo u1 cR_T_lecternref10_Stroke (tagR (some 0) ([] : List T_lecternref10_Stroke))] := (.keep (.keep (.keep .nil)))
    exact ⟨u1, 0, (fun _ => rfl), (fun _ => rfl), (hwo.spec ok).1, WS.mk' (.cons (.refl _) (.cons (.refl _) (.cons (.refl _) (.cons (.refl _) (.cons (.refl _) (.cons (.refl _) .nil)))))) ok hwo⟩
  ·
    rintro G12 hG13 rec14 ⟨a5, a7, a8, a9, a10, a11⟩ s' ih15 hF ⟨g4, g6, zg4, zg6, ok, hws⟩
    refine WP_ws hws ?_
    clear hws s'
    rw [F_lecternref10_Read_l0] at hF
    refine WP_block ?_
    refine C_seq ?_
    refine C_reg (mdl []) ?_
    refine S_m (v := .str _) rfl ?_
    refine S_m (v := .int _ _) rfl ?_
    refine S_call (F_lecternref10_mark_ok _ hF fun x16 _ hF => ?_) (.cons (.refl _) (.cons (.refl _) (.nil)))
    refine S_m (v := .tup _) rfl ?_
    refine S_ext rfl rfl ?_
    refine S_ext rfl rfl ?_
    refine S_ext rfl rfl ?_
    refine S_ext rfl rfl ?_
    refine S_a (v := .int _ _) rfl ?_
    refine S_a (v := .int _ _) rfl ?_
    refine S_a (v := .int _ _) rfl ?_
    refine S_a (v := .int _ _) rfl ?_
    refine S_nil ?_
    refine C_seq ?_
    refine C_seq ?_
    refine C_reg (mdl []) ?_
    refine S_m (v := .int _ _) rfl ?_
    refine S_bin rfl rfl (ev_eql ..) ?_
    refine S_nil ?_
    refine C_if (b := (x16.1 == (0 : Int))) rfl hF (fun hb17 hF => ?_) (fun hb17 hF => ?_)
    ·
      refine C_seq ?_
      refine C_reg (mdl []) ?_
      refine S_m (v := mslO _ _ _) rfl ?_
      refine S_a (v := mslO _ _ _) rfl ?_
      refine S_frzR (c := cR_T_lecternref10_Stroke) (c1 := c_T_lecternref10_Stroke) 2 2 ok zg4 rfl rfl cR_T_lecternref10_Stroke_len (cR_T_lecternref10_Stroke_w _) (fun _ => rfl) (fun ok => ?_)
      refine S_a (v := .int _ _) rfl ?_
      refine S_a (v := .int _ _) rfl ?_
      refine S_nil ?_
      refine WP_ret ?_
      replace hF := hG13 _ (F_some hF)
      repeat (first | with_reducible refine Exit.sel_ret ?_ | with_reducible refine Exit.blk_ret ?_ | with_reducible refine Exit.jmp_ret ?_)
      refine C_ret (fn := Tryd.f13) rfl (.tmp (v := .sl 2 (List.map c_T_lecternref10_Stroke a5) 0) rfl (.tmp (v := .int .i64 (0 : Int)) rfl (.tmp (v := .int .i64 (0 : Int)) rfl .nil))) ?_
      exact ⟨_, _, (.tupC (.cons (.refl _) (.cons (.refl _) (.cons (.refl _) (.nil))))), ok.wh, _, F_some hF, rfl, rfl⟩
    ·
      refine WP_skip ?_
      refine C_seq ?_
      refine C_seq ?_
      refine C_reg (mdl []) ?_
      refine S_m (v := .int _ _) rfl ?_
      refine S_bin rfl rfl (ev_neq ..) ?_
      refine S_nil ?_
      refine C_if (b := (x16.1 != (1 : Int))) rfl hF (fun hb19 hF => ?_) (fun hb19 hF => ?_)
      ·
        refine C_seq ?_
        refine C_reg (mdl []) ?_
        refine S_m (v := .int _ _) rfl ?_
        refine S_a (v := .snil) rfl ?_
        refine S_one 2 (v := .sl 2 (List.map c_T_lecternref10_Stroke ([] : List T_lecternref10_Stroke)) 0) (.nil _) ?_
        refine S_a (v := .int _ _) rfl ?_
        refine S_a (v := .int _ _) rfl ?_
        refine S_nil ?_
        refine WP_ret ?_
        replace hF := hG13 _ (F_some hF)
        repeat (first | with_reducible refine Exit.sel_ret ?_ | with_reducible refine Exit.blk_ret ?_ | with_reducible refine Exit.jmp_ret ?_)
        refine C_ret (fn := Tryd.f13) rfl (.tmp (v := .sl 2 (List.map c_T_lecternref10_Stroke ([] : List T_lecternref10_Stroke)) 0) rfl (.tmp (v := .int .i64 x16.2.1) rfl (.tmp (v := .int .i64 (37 : Int)) rfl .nil))) ?_
        exact ⟨_, _, (.tupC (.cons (.refl _) (.cons (.refl _) (.cons (.refl _) (.nil))))), ok.wh, _, F_some hF, rfl, rfl⟩
      ·
        refine WP_skip ?_
        refine C_seq ?_
        refine C_reg (mdl []) ?_
        refine S_m (v := .str _) rfl ?_
        refine S_m (v := .int _ _) rfl ?_
        refine S_ixS rfl rfl ty_st_9 hF (fun x20 _ hF => ?_)
        refine S_a (v := .int _ _) rfl ?_
        refine S_nil ?_
        refine C_seq ?_
        refine C_reg (mdl []) ?_
        refine S_m (v := .int _ _) rfl ?_
        refine S_a (v := .int _ _) rfl ?_
        refine S_nil ?_
        refine C_seq ?_
        refine C_reg (mdl []) ?_
        refine S_m (v := .int _ _) rfl ?_
        refine S_bin rfl rfl (ev_eql ..) ?_
        refine S_m (v := .bool _) rfl ?_
        refine S_two (b := ((x20.toNat : Int) == (77 : Int))) 3 51 (.bool (((x20.toNat : Int) == (77 : Int)) || ((x20.toNat : Int) == (109 : Int)))) (fun hb21 => ?_) (fun hb21 => ?_) ?_
        ·
          refine S_off rfl rfl hb21 ?_
          refine S_offD ?_
          refine S_off rfl rfl hb21 ?_
          refine S_offD ?_
          refine S_pickT (v := .bool _) rfl hb21 rfl ?_
          refine S_nil ?_
          refine .hd (or_t hb21) ?_
          repeat (first | with_reducible exact WS.refl _ | refine WS.add ?_ rfl)
        ·
          refine S_on rfl rfl hb21 ?_
          refine S_in ?_
          refine S_m (v := .int _ _) rfl ?_
          refine S_nil ?_
          refine S_on rfl rfl hb21 ?_
          refine S_in ?_
          refine S_bin rfl rfl (ev_eql ..) ?_
          refine S_nil ?_
          refine S_pickF (v := .bool _) rfl hb21 rfl ?_
          refine S_nil ?_
          refine .hd (or_f hb21) ?_
          repeat (first | with_reducible exact WS.refl _ | refine WS.add ?_ rfl)
        refine S_a (v := .bool _) rfl ?_
        refine S_nil ?_
        refine C_seq ?_
        refine C_seq ?_
        refine C_reg (mdl []) ?_
        refine S_m (v := .bool _) rfl ?_
        refine S_un rfl (ev_not _) ?_
        refine S_m (v := .bool _) rfl ?_
        refine S_two (b := (!(((x20.toNat : Int) == (77 : Int)) || ((x20.toNat : Int) == (109 : Int))))) 3 57 (.bool ((!(((x20.toNat : Int) == (77 : Int)) || ((x20.toNat : Int) == (109 : Int)))) && (!a9))) (fun hb22 => ?_) (fun hb22 => ?_) ?_
        ·
          refine S_on rfl rfl hb22 ?_
          refine S_in ?_
          refine S_m (v := .bool _) rfl ?_
          refine S_nil ?_
          refine S_on rfl rfl hb22 ?_
          refine S_in ?_
          refine S_un rfl (ev_not _) ?_
          refine S_nil ?_
          refine S_pickT (v := .bool _) rfl hb22 rfl ?_
          refine S_nil ?_
          refine .hd (and_t hb22) ?_
          repeat (first | with_reducible exact WS.refl _ | refine WS.add ?_ rfl)
        ·
          refine S_off rfl rfl hb22 ?_
          refine S_offD ?_
          refine S_off rfl rfl hb22 ?_
          refine S_offD ?_
          refine S_pickF (v := .bool _) rfl hb22 rfl ?_
          refine S_nil ?_
          refine .hd (and_f hb22) ?_
          repeat (first | with_reducible exact WS.refl _ | refine WS.add ?_ rfl)
        refine S_nil ?_
        refine C_if (b := ((!(((x20.toNat : Int) == (77 : Int)) || ((x20.toNat : Int) == (109 : Int)))) && (!a9))) rfl hF (fun hb23 hF => ?_) (fun hb23 hF => ?_)
        ·
          refine C_seq ?_
          refine C_reg (mdl []) ?_
          refine S_m (v := .int _ _) rfl ?_
          refine S_a (v := .snil) rfl ?_
          refine S_one 2 (v := .sl 2 (List.map c_T_lecternref10_Stroke ([] : List T_lecternref10_Stroke)) 0) (.nil _) ?_
          refine S_a (v := .int _ _) rfl ?_
          refine S_a (v := .int _ _) rfl ?_
          refine S_nil ?_
          refine WP_ret ?_
          replace hF := hG13 _ (F_some hF)
          repeat (first | with_reducible refine Exit.sel_ret ?_ | with_reducible refine Exit.blk_ret ?_ | with_reducible refine Exit.jmp_ret ?_)
          refine C_ret (fn := Tryd.f13) rfl (.tmp (v := .sl 2 (List.map c_T_lecternref10_Stroke ([] : List T_lecternref10_Stroke)) 0) rfl (.tmp (v := .int .i64 x16.2.1) rfl (.tmp (v := .int .i64 (37 : Int)) rfl .nil))) ?_
          exact ⟨_, _, (.tupC (.cons (.refl _) (.cons (.refl _) (.cons (.refl _) (.nil))))), ok.wh, _, F_some hF, rfl, rfl⟩
        ·
          refine WP_skip ?_
          refine C_seq ?_
          refine C_seq ?_
          refine C_reg (mdl []) ?_
          refine S_m (v := .int _ _) rfl ?_
          refine S_bin rfl rfl (ev_eql ..) ?_
          refine S_m (v := .bool _) rfl ?_
          refine S_two (b := ((x20.toNat : Int) == (90 : Int))) 3 64 (.bool (((x20.toNat : Int) == (90 : Int)) || ((x20.toNat : Int) == (122 : Int)))) (fun hb24 => ?_) (fun hb24 => ?_) ?_
          ·
            refine S_off rfl rfl hb24 ?_
            refine S_offD ?_
            refine S_off rfl rfl hb24 ?_
            refine S_offD ?_
            refine S_pickT (v := .bool _) rfl hb24 rfl ?_
            refine S_nil ?_
            refine .hd (or_t hb24) ?_
            repeat (first | with_reducible exact WS.refl _ | refine WS.add ?_ rfl)
          ·
            refine S_on rfl rfl hb24 ?_
            refine S_in ?_
            refine S_m (v := .int _ _) rfl ?_
            refine S_nil ?_
            refine S_on rfl rfl hb24 ?_
            refine S_in ?_
            refine S_bin rfl rfl (ev_eql ..) ?_
            refine S_nil ?_
            refine S_pickF (v := .bool _) rfl hb24 rfl ?_
            refine S_nil ?_
            refine .hd (or_f hb24) ?_
            repeat (first | with_reducible exact WS.refl _ | refine WS.add ?_ rfl)
          refine S_nil ?_
          refine C_if (b := (((x20.toNat : Int) == (90 : Int)) || ((x20.toNat : Int) == (122 : Int)))) rfl hF (fun hb25 hF => ?_) (fun hb25 hF => ?_)
          ·
            refine C_seq ?_
            refine C_reg (mdl []) ?_
            refine S_m (v := mslO _ _ _) rfl ?_
            refine S_m (v := mslO _ _ _) rfl ?_
            refine S_lenO zg4 rfl ty_sl_27 ?_
            refine S_bin rfl rfl (ev_sub ..) ?_
            refine S_ixR zg4 rfl rfl ty_sl_27 ty_sz_80 hF (fun x26 hx26 hF => ?_)
            refine S_faP rfl ty_fd_80_1 ty_sz_4 ?_
            refine S_stR (c := cR_T_lecternref10_Stroke) (q := 2) (j := 2) (f0 := 1) (b := (⟨x26.Spots, true⟩ : T_lecternref10_Stroke)) (r' := g6) ok zg4 rfl rfl rfl cR_T_lecternref10_Stroke_len hx26 rfl rfl ty_sz_4 rfl rfl (fun za27 ok => ?_)
            obtain ⟨a27, ha27, hF⟩ := F_let hF
            rw [← ha27] at ok za27
            rw [← ha27]
            have hms : mslO 2 g4 a5 = mslO 2 g4 a27 := mslO_len (by rw [ha27, List.length_set])
            try rw [hms] at ok
            try rw [hms]
            clear hms
            have hg6 := nz_lst zg6 hx26
            refine S_nil ?_
            refine C_seq ?_
            refine C_reg (mdl []) ?_
            refine S_m (v := mslO _ _ _) rfl ?_
            refine S_m (v := mslO _ _ _) rfl ?_
            refine S_lenO za27 rfl ty_sl_27 ?_
            refine S_bin rfl rfl (ev_sub ..) ?_
            refine S_ixR za27 rfl rfl ty_sl_27 ty_sz_80 hF (fun x28 hx28 hF => ?_)
            refine S_faP rfl ty_fd_80_0 ty_sz_78 ?_
            refine S_ldR (c := cR_T_lecternref10_Stroke) (q := 2) (j := 2) (f0 := 0) ok rfl za27 rfl rfl cR_T_lecternref10_Stroke_len hx28 rfl rfl (p_one (v := .sl 2 (List.map c_T_lecternref10_Spot x28.Spots) g6) ty_ag_78 ty_sz_78 rfl) ?_
            refine S_one 77 (v := .sl 2 (List.map c_T_lecternref10_Spot x28.Spots) 0) (.zero _ _ _) ?_
            refine S_ix rfl rfl ty_sl_78 ty_sz_52 hF (fun x29 _ hF => ?_)
            refine S_ldQ rfl (p_agg (vs := c_T_lecternref10_Spot x29) ty_ag_52 ty_sz_52 rfl rfl) ?_
            refine S_st (j := 0) (cs' := [.int .i64 x29.X, .int .i64 x29.Y]) ok rfl rfl rfl hi3 rfl ty_sz_52 rfl rfl (fun ok => ?_)
            refine S_nil ?_
            refine C_seq ?_
            refine C_reg (mdl []) ?_
            refine S_a (v := .bool _) rfl ?_
            refine S_nil ?_
            refine WP_exit ?_
            simp only [Exit.sel, Exit.blk, Exit.jmp, if_true, if_false, reduceIte, Nat.reduceEqDiff, Nat.succ_ne_zero, Nat.zero_ne_one, Nat.one_ne_zero]
            refine ih15 (a27, x29.X, x29.Y, false, a10, x16.2.2.1) _ hF ?_
            have hwo : WO [(i3, .cells [.int .i64 x29.X, .int .i64 x29.Y]), (g6, .room), mo g4 cR_T_lecternref10_Stroke (tagR (some g6) a27)] [(i3, .cells [.int .i64 x29.X, .int .i64 x29.Y]), (g6, .room), mo g4 cR_T_lecternref10_Stroke (tagR (some g6) a27)] := (.keep (.keep (.keep .nil)))
            exact ⟨g4, g6, za27, (fun h => absurd h hg6), (hwo.spec ok).1, WS.mk' (.cons (.refl _) (.cons (.refl _) (.cons (.refl _) (.cons (.refl _) (.cons (.refl _) (.cons (.refl _) .nil)))))) ok hwo⟩
          ·
            refine WP_skip ?_
            refine C_seq ?_
            refine C_reg (mdl []) ?_
            refine S_a (v := .int _ _) rfl ?_
            refine S_nil ?_
            refine WP_block ?_
            refine C_loop (σ := (List T_lecternref10_Stroke) × Int × Int × Bool × Int × Int × Int) hF (fun (v : (List T_lecternref10_Stroke) × Int × Int × Bool × Int × Int × Int) s' => match v with | (a31, a33, a34, a35, a36, a37, a38) => ∃ g30 g32 : Nat, (g30 = 0 → a31 = []) ∧ (g32 = 0 → a31 = []) ∧ OK h [(i3, .cells [.int .i64 a33, .int .i64 a34]), (g32, .room), mo g30 cR_T_lecternref10_Stroke (tagR (some g32) a31)] ∧ WS s' ⟨mkSl 206 [(0, .str p0), (5, mslO 2 g30 a31), (6, .ptr i3 0), (7, .bool a35), (8, .int .i64 a36), (9, .int .i64 a37), (14, .int .u8 (x20.toNat : Int)), (15, .bool (((x20.toNat : Int) == (77 : Int)) || ((x20.toNat : Int) == (109 : Int)))), (16, .int .i64 a38)], Hp h [(i3, .cells [.int .i64 a33, .int .i64 a34]), (g32, .room), mo g30 cR_T_lecternref10_Stroke (tagR (some g32) a31)]⟩) ?_ ?_
            ·
              have hwo : WO [(i3, .cells [.int .i64 a7, .int .i64 a8]), (g6, .room), mo g4 cR_T_lecternref10_Stroke (tagR (some g6) a5)] [(i3, .cells [.int .i64 a7, .int .i64 a8]), (g6, .room), mo g4 cR_T_lecternref10_Stroke (tagR (some g6) a5)] := (.keep (.keep (.keep .nil)))
              exact ⟨g4, g6, zg4, zg6, (hwo.spec ok).1, WS.mk' (.cons (.refl _) (.cons (.refl _) (.cons (.refl _) (.cons (.refl _) (.cons (.refl _) (.cons (.refl _) (.cons (.refl _) (.cons (.refl _) (.cons (.refl _) .nil))))))))) ok hwo⟩
            ·
              rintro G39 hG40 rec41 ⟨a31, a33, a34, a35, a36, a37, a38⟩ s' ih42 hF ⟨g30, g32, zg30, zg32, ok, hws⟩
              refine WP_ws hws ?_
              clear hws s'
              rw [F_lecternref10_Read_l1] at hF
              refine C_seq ?_
              refine WP_block ?_
              refine C_seq ?_
              refine C_reg (mdl []) ?_
              refine S_m (v := .str _) rfl ?_
              refine S_m (v := .int _ _) rfl ?_
              refine S_call (F_lecternref10_mark_ok _ hF fun x43 _ hF => ?_) (.cons (.refl _) (.cons (.refl _) (.nil)))
              refine S_m (v := .tup _) rfl ?_
              refine S_ext rfl rfl ?_
              refine S_ext rfl rfl ?_
              refine S_ext rfl rfl ?_
              refine S_ext rfl rfl ?_
              refine S_a (v := .int _ _) rfl ?_
              refine S_a (v := .int _ _) rfl ?_
              refine S_a (v := .int _ _) rfl ?_
              refine S_a (v := .int _ _) rfl ?_
              refine S_nil ?_
              refine C_seq ?_
              refine C_seq ?_
              refine C_reg (mdl []) ?_
              refine S_m (v := .int _ _) rfl ?_
              refine S_bin rfl rfl (ev_neq ..) ?_
              refine S_m (v := .bool _) rfl ?_
              refine S_two (b := (x43.1 != (2 : Int))) 3 95 (.bool ((x43.1 != (2 : Int)) && (decide ((0 : Int) < a38)))) (fun hb44 => ?_) (fun hb44 => ?_) ?_
              ·
                refine S_on rfl rfl hb44 ?_
                refine S_in ?_
                refine S_m (v := .int _ _) rfl ?_
                refine S_nil ?_
                refine S_on rfl rfl hb44 ?_
                refine S_in ?_
                refine S_bin rfl rfl (ev_gtr ..) ?_
                refine S_nil ?_
                refine S_pickT (v := .bool _) rfl hb44 rfl ?_
                refine S_nil ?_
                refine .hd (and_t hb44) ?_
                repeat (first | with_reducible exact WS.refl _ | refine WS.add ?_ rfl)
              ·
                refine S_off rfl rfl hb44 ?_
                refine S_offD ?_
                refine S_off rfl rfl hb44 ?_
                refine S_offD ?_
                refine S_pickF (v := .bool _) rfl hb44 rfl ?_
                refine S_nil ?_
                refine .hd (and_f hb44) ?_
                repeat (first | with_reducible exact WS.refl _ | refine WS.add ?_ rfl)
              refine S_nil ?_
              refine C_if (b := ((x43.1 != (2 : Int)) && (decide ((0 : Int) < a38)))) rfl hF (fun hb45 hF => ?_) (fun hb45 hF => ?_)
              ·
                refine WP_exit ?_
                simp only [Exit.sel, Exit.blk, Exit.jmp, if_true, if_false, reduceIte, Nat.reduceEqDiff, Nat.succ_ne_zero, Nat.zero_ne_one, Nat.one_ne_zero]
                replace hF := hG40 _ (F_some hF)
                refine ih15 (a31, a33, a34, a35, a36, a37) _ hF ?_
                have hwo : WO [(i3, .cells [.int .i64 a33, .int .i64 a34]), (g32, .room), mo g30 cR_T_lecternref10_Stroke (tagR (some g32) a31)] [(i3, .cells [.int .i64 a33, .int .i64 a34]), (g32, .room), mo g30 cR_T_lecternref10_Stroke (tagR (some g32) a31)] := (.keep (.keep (.keep .nil)))
                exact ⟨g30, g32, zg30, zg32, (hwo.spec ok).1, WS.mk' (.cons (.refl _) (.cons (.refl _) (.cons (.refl _) (.cons (.refl _) (.cons (.refl _) (.cons (.refl _) .nil)))))) ok hwo⟩
              ·
                refine WP_skip ?_
                refine C_seq ?_
                refine C_seq ?_
                refine C_reg (mdl []) ?_
                refine S_m (v := .int _ _) rfl ?_
                refine S_bin rfl rfl (ev_neq ..) ?_
                refine S_nil ?_
                refine C_if (b := (x43.1 != (2 : Int))) rfl hF (fun hb46 hF => ?_) (fun hb46 hF => ?_)
                ·
                  refine C_seq ?_
                  refine C_reg (mdl []) ?_
                  refine S_m (v := .int _ _) rfl ?_
                  refine S_a (v := .snil) rfl ?_
                  refine S_one 2 (v := .sl 2 (List.map c_T_lecternref10_Stroke ([] : List T_lecternref10_Stroke)) 0) (.nil _) ?_
                  refine S_a (v := .int _ _) rfl ?_
                  refine S_a (v := .int _ _) rfl ?_
                  refine S_nil ?_
                  refine WP_ret ?_
                  replace hF := hG40 _ (F_some hF)
                  replace hF := hG13 _ (F_some hF)
                  repeat (first | with_reducible refine Exit.sel_ret ?_ | with_reducible refine Exit.blk_ret ?_ | with_reducible refine Exit.jmp_ret ?_)
                  refine C_ret (fn := Tryd.f13) rfl (.tmp (v := .sl 2 (List.map c_T_lecternref10_Stroke ([] : List T_lecternref10_Stroke)) 0) rfl (.tmp (v := .int .i64 x43.2.1) rfl (.tmp (v := .int .i64 (37 : Int)) rfl .nil))) ?_
                  exact ⟨_, _, (.tupC (.cons (.refl _) (.cons (.refl _) (.cons (.refl _) (.nil))))), ok.wh, _, F_some hF, rfl, rfl⟩
                ·
                  refine WP_skip ?_
                  refine C_seq ?_
                  refine C_reg (mdl []) ?_
                  refine S_m (v := .int _ _) rfl ?_
                  refine S_a (v := .int _ _) rfl ?_
                  refine S_nil ?_
                  refine C_seq ?_
                  refine C_reg (mdl [(21, 1)]) ?_
                  refine S_m (v := .int _ _) rfl ?_
                  refine S_bld (v := .agg (c_T_lecternref10_Spot (⟨x43.2.2.2, (0 : Int)⟩ : T_lecternref10_Spot))) (b_st ty_zc_52 ty_pl_52 rfl) ?_
                  refine S_all1 ok rfl ty_zc_52 ?_
                  intro i47 hi47 ok
                  refine S_st (j := 0) (cs' := [.int .i64 (⟨x43.2.2.2, (0 : Int)⟩ : T_lecternref10_Spot).X, .int .i64 (⟨x43.2.2.2, (0 : Int)⟩ : T_lecternref10_Spot).Y]) ok rfl rfl rfl hi47 rfl ty_sz_52 rfl rfl (fun ok => ?_)
                  refine S_nil ?_
                  refine C_join hF (fun (v : Int × Int × Int × Int) s' => match v with | (a56, a57, a58, a59) => OK h [(i47, .cells [.int .i64 a58, .int .i64 a59]), (i3, .cells [.int .i64 a33, .int .i64 a34]), (g32, .room), mo g30 cR_T_lecternref10_Stroke (tagR (some g32) a31)] ∧ WS s' ⟨mkSl 206 [(0, .str p0), (5, mslO 2 g30 a31), (6, .ptr i3 0), (7, .bool a35), (8, .int .i64 a36), (9, .int .i64 a56), (14, .int .u8 (x20.toNat : Int)), (15, .bool (((x20.toNat : Int) == (77 : Int)) || ((x20.toNat : Int) == (109 : Int)))), (16, .int .i64 a38), (18, .int .i64 a57), (21, .ptr i47 0)], Hp h [(i47, .cells [.int .i64 a58, .int .i64 a59]), (i3, .cells [.int .i64 a33, .int .i64 a34]), (g32, .room), mo g30 cR_T_lecternref10_Stroke (tagR (some g32) a31)]⟩) (fun J60 hF => ?_) ?_
                  ·
                    refine C_seq ?_
                    refine C_reg (mdl []) ?_
                    refine S_m (v := .int _ _) rfl ?_
                    refine S_nil ?_
                    refine WP_block ?_
                    refine C_seq ?_
                    refine C_reg (mdl []) ?_
                    refine S_bin rfl rfl (ev_eql ..) ?_
                    refine S_a (v := .bool _) rfl ?_
                    refine S_nil ?_
                    refine C_if (b := ((x20.toNat : Int) == (72 : Int))) rfl hF (fun hb61 hF => ?_) (fun hb61 hF => ?_)
                    ·
                      refine C_reg (mdl []) ?_
                      refine S_m (v := .int _ _) rfl ?_
                      refine S_faP rfl ty_fd_52_1 ty_sz_3 ?_
                      refine S_ldP (j := 1) ok rfl rfl rfl hi3 (p_one (v := .int .i64 a34) ty_ag_3 ty_sz_3 rfl) ?_
                      refine S_bld (v := .agg (c_T_lecternref10_Spot (⟨x43.2.2.2, a34⟩ : T_lecternref10_Spot))) (b_st ty_zc_52 ty_pl_52 rfl) ?_
                      refine S_st (j := 0) (cs' := [.int .i64 (⟨x43.2.2.2, a34⟩ : T_lecternref10_Spot).X, .int .i64 (⟨x43.2.2.2, a34⟩ : T_lecternref10_Spot).Y]) ok rfl rfl rfl hi47 rfl ty_sz_52 rfl rfl (fun ok => ?_)
                      refine S_nil ?_
                      have hwo : WO [(i47, .cells [.int .i64 (⟨x43.2.2.2, a34⟩ : T_lecternref10_Spot).X, .int .i64 (⟨x43.2.2.2, a34⟩ : T_lecternref10_Spot).Y]), (i3, .cells [.int .i64 a33, .int .i64 a34]), (g32, .room), mo g30 cR_T_lecternref10_Stroke (tagR (some g32) a31)] [(i47, .cells [.int .i64 (⟨x43.2.2.2, a34⟩ : T_lecternref10_Spot).X, .int .i64 (⟨x43.2.2.2, a34⟩ : T_lecternref10_Spot).Y]), (i3, .cells [.int .i64 a33, .int .i64 a34]), (g32, .room), mo g30 cR_T_lecternref10_Stroke (tagR (some g32) a31)] := (.keep (.keep (.keep (.keep .nil))))
                      exact ⟨(x43.2.2.1, x43.2.1, (⟨x43.2.2.2, a34⟩ : T_lecternref10_Spot).X, (⟨x43.2.2.2, a34⟩ : T_lecternref10_Spot).Y), hF, (hwo.spec ok).1, WS.mk' (.cons (.refl _) (.cons (.refl _) (.cons (.refl _) (.cons (.refl _) (.cons (.refl _) (.cons (.refl _) (.cons (.refl _) (.cons (.refl _) (.cons (.refl _) (.cons (.refl _) (.cons (.refl _) .nil))))))))))) ok hwo⟩
                    ·
                      refine C_seq ?_
                      refine C_reg (mdl []) ?_
                      refine S_bin rfl rfl (ev_eql ..) ?_
                      refine S_a (v := .bool _) rfl ?_
                      refine S_nil ?_
                      refine C_if (b := ((x20.toNat : Int) == (104 : Int))) rfl hF (fun hb62 hF => ?_) (fun hb62 hF => ?_)
                      ·
                        refine C_reg (mdl []) ?_
                        refine S_faP rfl ty_fd_52_0 ty_sz_3 ?_
                        refine S_ldP (j := 1) ok rfl rfl rfl hi3 (p_one (v := .int .i64 a33) ty_ag_3 ty_sz_3 rfl) ?_
                        refine S_m (v := .int _ _) rfl ?_
                        refine S_bin rfl rfl (ev_add ..) ?_
                        refine S_faP rfl ty_fd_52_1 ty_sz_3 ?_
                        refine S_ldP (j := 1) ok rfl rfl rfl hi3 (p_one (v := .int .i64 a34) ty_ag_3 ty_sz_3 rfl) ?_
                        refine S_bld (v := .agg (c_T_lecternref10_Spot (⟨(IntKind.wrap .i64 (a33 + x43.2.2.2)), a34⟩ : T_lecternref10_Spot))) (b_st ty_zc_52 ty_pl_52 rfl) ?_
                        refine S_st (j := 0) (cs' := [.int .i64 (⟨(IntKind.wrap .i64 (a33 + x43.2.2.2)), a34⟩ : T_lecternref10_Spot).X, .int .i64 (⟨(IntKind.wrap .i64 (a33 + x43.2.2.2)), a34⟩ : T_lecternref10_Spot).Y]) ok rfl rfl rfl hi47 rfl ty_sz_52 rfl rfl (fun ok => ?_)
                        refine S_nil ?_
                        have hwo : WO [(i47, .cells [.int .i64 (⟨(IntKind.wrap .i64 (a33 + x43.2.2.2)), a34⟩ : T_lecternref10_Spot).X, .int .i64 (⟨(IntKind.wrap .i64 (a33 + x43.2.2.2)), a34⟩ : T_lecternref10_Spot).Y]), (i3, .cells [.int .i64 a33, .int .i64 a34]), (g32, .room), mo g30 cR_T_lecternref10_Stroke (tagR (some g32) a31)] [(i47, .cells [.int .i64 (⟨(IntKind.wrap .i64 (a33 + x43.2.2.2)), a34⟩ : T_lecternref10_Spot).X, .int .i64 (⟨(IntKind.wrap .i64 (a33 + x43.2.2.2)), a34⟩ : T_lecternref10_Spot).Y]), (i3, .cells [.int .i64 a33, .int .i64 a34]), (g32, .room), mo g30 cR_T_lecternref10_Stroke (tagR (some g32) a31)] := (.keep (.keep (.keep (.keep .nil))))
                        exact ⟨(x43.2.2.1, x43.2.1, (⟨(IntKind.wrap .i64 (a33 + x43.2.2.2)), a34⟩ : T_lecternref10_Spot).X, (⟨(IntKind.wrap .i64 (a33 + x43.2.2.2)), a34⟩ : T_lecternref10_Spot).Y), hF, (hwo.spec ok).1, WS.mk' (.cons (.refl _) (.cons (.refl _) (.cons (.refl _) (.cons (.refl _) (.cons (.refl _) (.cons (.refl _) (.cons (.refl _) (.cons (.refl _) (.cons (.refl _) (.cons (.refl _) (.cons (.refl _) .nil))))))))))) ok hwo⟩
                      ·
                        refine C_seq ?_
                        refine C_reg (mdl []) ?_
                        refine S_bin rfl rfl (ev_eql ..) ?_
                        refine S_a (v := .bool _) rfl ?_
                        refine S_nil ?_
                        refine C_if (b := ((x20.toNat : Int) == (86 : Int))) rfl hF (fun hb63 hF => ?_) (fun hb63 hF => ?_)
                        ·
                          refine C_reg (mdl []) ?_
                          refine S_faP rfl ty_fd_52_0 ty_sz_3 ?_
                          refine S_ldP (j := 1) ok rfl rfl rfl hi3 (p_one (v := .int .i64 a33) ty_ag_3 ty_sz_3 rfl) ?_
                          refine S_m (v := .int _ _) rfl ?_
                          refine S_bld (v := .agg (c_T_lecternref10_Spot (⟨a33, x43.2.2.2⟩ : T_lecternref10_Spot))) (b_st ty_zc_52 ty_pl_52 rfl) ?_
                          refine S_st (j := 0) (cs' := [.int .i64 (⟨a33, x43.2.2.2⟩ : T_lecternref10_Spot).X, .int .i64 (⟨a33, x43.2.2.2⟩ : T_lecternref10_Spot).Y]) ok rfl rfl rfl hi47 rfl ty_sz_52 rfl rfl (fun ok => ?_)
                          refine S_nil ?_
                          have hwo : WO [(i47, .cells [.int .i64 (⟨a33, x43.2.2.2⟩ : T_lecternref10_Spot).X, .int .i64 (⟨a33, x43.2.2.2⟩ : T_lecternref10_Spot).Y]), (i3, .cells [.int .i64 a33, .int .i64 a34]), (g32, .room), mo g30 cR_T_lecternref10_Stroke (tagR (some g32) a31)] [(i47, .cells [.int .i64 (⟨a33, x43.2.2.2⟩ : T_lecternref10_Spot).X, .int .i64 (⟨a33, x43.2.2.2⟩ : T_lecternref10_Spot).Y]), (i3, .cells [.int .i64 a33, .int .i64 a34]), (g32, .room), mo g30 cR_T_lecternref10_Stroke (tagR (some g32) a31)] := (.keep (.keep (.keep (.keep .nil))))
                          exact ⟨(x43.2.2.1, x43.2.1, (⟨a33, x43.2.2.2⟩ : T_lecternref10_Spot).X, (⟨a33, x43.2.2.2⟩ : T_lecternref10_Spot).Y), hF, (hwo.spec ok).1, WS.mk' (.cons (.refl _) (.cons (.refl _) (.cons (.refl _) (.cons (.refl _) (.cons (.refl _) (.cons (.refl _) (.cons (.refl _) (.cons (.refl _) (.cons (.refl _) (.cons (.refl _) (.cons (.refl _) .nil))))))))))) ok hwo⟩
                        ·
                          refine C_seq ?_
                          refine C_reg (mdl []) ?_
                          refine S_bin rfl rfl (ev_eql ..) ?_
                          refine S_a (v := .bool _) rfl ?_
                          refine S_nil ?_
                          refine C_if (b := ((x20.toNat : Int) == (118 : Int))) rfl hF (fun hb64 hF => ?_) (fun hb64 hF => ?_)
                          ·
                            refine C_reg (mdl []) ?_
                            refine S_faP rfl ty_fd_52_0 ty_sz_3 ?_
                            refine S_ldP (j := 1) ok rfl rfl rfl hi3 (p_one (v := .int .i64 a33) ty_ag_3 ty_sz_3 rfl) ?_
                            refine S_faP rfl ty_fd_52_1 ty_sz_3 ?_
                            refine S_ldP (j := 1) ok rfl rfl rfl hi3 (p_one (v := .int .i64 a34) ty_ag_3 ty_sz_3 rfl) ?_
                            refine S_m (v := .int _ _) rfl ?_
                            refine S_bin rfl rfl (ev_add ..) ?_
                            refine S_bld (v := .agg (c_T_lecternref10_Spot (⟨a33, (IntKind.wrap .i64 (a34 + x43.2.2.2))⟩ : T_lecternref10_Spot))) (b_st ty_zc_52 ty_pl_52 rfl) ?_
                            refine S_st (j := 0) (cs' := [.int .i64 (⟨a33, (IntKind.wrap .i64 (a34 + x43.2.2.2))⟩ : T_lecternref10_Spot).X, .int .i64 (⟨a33, (IntKind.wrap .i64 (a34 + x43.2.2.2))⟩ : T_lecternref10_Spot).Y]) ok rfl rfl rfl hi47 rfl ty_sz_52 rfl rfl (fun ok => ?_)
                            refine S_nil ?_
                            have hwo : WO [(i47, .cells [.int .i64 (⟨a33, (IntKind.wrap .i64 (a34 + x43.2.2.2))⟩ : T_lecternref10_Spot).X, .int .i64 (⟨a33, (IntKind.wrap .i64 (a34 + x43.2.2.2))⟩ : T_lecternref10_Spot).Y]), (i3, .cells [.int .i64 a33, .int .i64 a34]), (g32, .room), mo g30 cR_T_lecternref10_Stroke (tagR (some g32) a31)] [(i47, .cells [.int .i64 (⟨a33, (IntKind.wrap .i64 (a34 + x43.2.2.2))⟩ : T_lecternref10_Spot).X, .int .i64 (⟨a33, (IntKind.wrap .i64 (a34 + x43.2.2.2))⟩ : T_lecternref10_Spot).Y]), (i3, .cells [.int .i64 a33, .int .i64 a34]), (g32, .room), mo g30 cR_T_lecternref10_Stroke (tagR (some g32) a31)] := (.keep (.keep (.keep (.keep .nil))))
                            exact ⟨(x43.2.2.1, x43.2.1, (⟨a33, (IntKind.wrap .i64 (a34 + x43.2.2.2))⟩ : T_lecternref10_Spot).X, (⟨a33, (IntKind.wrap .i64 (a34 + x43.2.2.2))⟩ : T_lecternref10_Spot).Y), hF, (hwo.spec ok).1, WS.mk' (.cons (.refl _) (.cons (.refl _) (.cons (.refl _) (.cons (.refl _) (.cons (.refl _) (.cons (.refl _) (.cons (.refl _) (.cons (.refl _) (.cons (.refl _) (.cons (.refl _) (.cons (.refl _) .nil))))))))))) ok hwo⟩
                          ·
                            refine C_seq ?_
                            refine C_reg (mdl []) ?_
                            refine S_m (v := .str _) rfl ?_
                            refine S_m (v := .int _ _) rfl ?_
                            refine S_call (F_lecternref10_mark_ok _ hF fun x65 _ hF => ?_) (.cons (.refl _) (.cons (.refl _) (.nil)))
                            refine S_m (v := .tup _) rfl ?_
                            refine S_ext rfl rfl ?_
                            refine S_ext rfl rfl ?_
                            refine S_ext rfl rfl ?_
                            refine S_ext rfl rfl ?_
                            refine S_a (v := .int _ _) rfl ?_
                            refine S_a (v := .int _ _) rfl ?_
                            refine S_a (v := .int _ _) rfl ?_
                            refine S_a (v := .int _ _) rfl ?_
                            refine S_nil ?_
                            refine C_seq ?_
                            refine C_seq ?_
                            refine C_reg (mdl []) ?_
                            refine S_m (v := .int _ _) rfl ?_
                            refine S_bin rfl rfl (ev_neq ..) ?_
                            refine S_nil ?_
                            refine C_if (b := (x65.1 != (2 : Int))) rfl hF (fun hb66 hF => ?_) (fun hb66 hF => ?_)
                            ·
                              refine C_seq ?_
                              refine C_reg (mdl []) ?_
                              refine S_m (v := .int _ _) rfl ?_
                              refine S_a (v := .snil) rfl ?_
                              refine S_one 2 (v := .sl 2 (List.map c_T_lecternref10_Stroke ([] : List T_lecternref10_Stroke)) 0) (.nil _) ?_
                              refine S_a (v := .int _ _) rfl ?_
                              refine S_a (v := .int _ _) rfl ?_
                              refine S_nil ?_
                              refine WP_ret ?_
                              replace hF := hG40 _ (F_some hF)
                              replace hF := hG13 _ (F_some hF)
                              repeat (first | with_reducible refine Exit.sel_ret ?_ | with_reducible refine Exit.blk_ret ?_ | with_reducible refine Exit.jmp_ret ?_)
                              refine C_ret (fn := Tryd.f13) rfl (.tmp (v := .sl 2 (List.map c_T_lecternref10_Stroke ([] : List T_lecternref10_Stroke)) 0) rfl (.tmp (v := .int .i64 x65.2.1) rfl (.tmp (v := .int .i64 (37 : Int)) rfl .nil))) ?_
                              exact ⟨_, _, (.tupC (.cons (.refl _) (.cons (.refl _) (.cons (.refl _) (.nil))))), ok.wh, _, F_some hF, rfl, rfl⟩
                            ·
                              refine WP_skip ?_
                              refine C_seq ?_
                              refine C_reg (mdl []) ?_
                              refine S_m (v := .int _ _) rfl ?_
                              refine S_a (v := .int _ _) rfl ?_
                              refine S_nil ?_
                              refine C_seq ?_
                              refine C_reg (mdl []) ?_
                              refine S_m (v := .int _ _) rfl ?_
                              refine S_a (v := .int _ _) rfl ?_
                              refine S_nil ?_
                              refine C_seq ?_
                              refine C_reg (mdl []) ?_
                              refine S_m (v := .int _ _) rfl ?_
                              refine S_faP rfl ty_fd_52_1 ty_sz_3 ?_
                              refine S_st (j := 0) (cs' := [.int .i64 (⟨x43.2.2.2, (0 : Int)⟩ : T_lecternref10_Spot).X, .int .i64 x65.2.2.2]) ok rfl rfl rfl hi47 rfl ty_sz_3 rfl rfl (fun ok => ?_)
                              refine S_nil ?_
                              refine C_seq ?_
                              refine C_reg (mdl []) ?_
                              refine S_m (v := .int _ _) rfl ?_
                              refine S_bin rfl rfl (ev_eql ..) ?_
                              refine S_m (v := .bool _) rfl ?_
                              refine S_two (b := ((x20.toNat : Int) == (109 : Int))) 3 123 (.bool (((x20.toNat : Int) == (109 : Int)) || ((x20.toNat : Int) == (108 : Int)))) (fun hb67 => ?_) (fun hb67 => ?_) ?_
                              ·
                                refine S_off rfl rfl hb67 ?_
                                refine S_offD ?_
                                refine S_off rfl rfl hb67 ?_
                                refine S_offD ?_
                                refine S_pickT (v := .bool _) rfl hb67 rfl ?_
                                refine S_nil ?_
                                refine .hd (or_t hb67) ?_
                                repeat (first | with_reducible exact WS.refl _ | refine WS.add ?_ rfl)
                              ·
                                refine S_on rfl rfl hb67 ?_
                                refine S_in ?_
                                refine S_m (v := .int _ _) rfl ?_
                                refine S_nil ?_
                                refine S_on rfl rfl hb67 ?_
                                refine S_in ?_
                                refine S_bin rfl rfl (ev_eql ..) ?_
                                refine S_nil ?_
                                refine S_pickF (v := .bool _) rfl hb67 rfl ?_
                                refine S_nil ?_
                                refine .hd (or_f hb67) ?_
                                repeat (first | with_reducible exact WS.refl _ | refine WS.add ?_ rfl)
                              refine S_nil ?_
                              refine C_if (b := (((x20.toNat : Int) == (109 : Int)) || ((x20.toNat : Int) == (108 : Int)))) rfl hF (fun hb68 hF => ?_) (fun hb68 hF => ?_)
                              ·
                                refine C_reg (mdl []) ?_
                                refine S_faP rfl ty_fd_52_0 ty_sz_3 ?_
                                refine S_ldP (j := 1) ok rfl rfl rfl hi3 (p_one (v := .int .i64 a33) ty_ag_3 ty_sz_3 rfl) ?_
                                refine S_m (v := .int _ _) rfl ?_
                                refine S_bin rfl rfl (ev_add ..) ?_
                                refine S_faP rfl ty_fd_52_1 ty_sz_3 ?_
                                refine S_ldP (j := 1) ok rfl rfl rfl hi3 (p_one (v := .int .i64 a34) ty_ag_3 ty_sz_3 rfl) ?_
                                refine S_m (v := .int _ _) rfl ?_
                                refine S_bin rfl rfl (ev_add ..) ?_
                                refine S_bld (v := .agg (c_T_lecternref10_Spot (⟨(IntKind.wrap .i64 (a33 + x43.2.2.2)), (IntKind.wrap .i64 (a34 + x65.2.2.2))⟩ : T_lecternref10_Spot))) (b_st ty_zc_52 ty_pl_52 rfl) ?_
                                refine S_st (j := 0) (cs' := [.int .i64 (⟨(IntKind.wrap .i64 (a33 + x43.2.2.2)), (IntKind.wrap .i64 (a34 + x65.2.2.2))⟩ : T_lecternref10_Spot).X, .int .i64 (⟨(IntKind.wrap .i64 (a33 + x43.2.2.2)), (IntKind.wrap .i64 (a34 + x65.2.2.2))⟩ : T_lecternref10_Spot).Y]) ok rfl rfl rfl hi47 rfl ty_sz_52 rfl rfl (fun ok => ?_)
                                refine S_nil ?_
                                have hwo : WO [(i47, .cells [.int .i64 (⟨(IntKind.wrap .i64 (a33 + x43.2.2.2)), (IntKind.wrap .i64 (a34 + x65.2.2.2))⟩ : T_lecternref10_Spot).X, .int .i64 (⟨(IntKind.wrap .i64 (a33 + x43.2.2.2)), (IntKind.wrap .i64 (a34 + x65.2.2.2))⟩ : T_lecternref10_Spot).Y]), (i3, .cells [.int .i64 a33, .int .i64 a34]), (g32, .room), mo g30 cR_T_lecternref10_Stroke (tagR (some g32) a31)] [(i47, .cells [.int .i64 (⟨(IntKind.wrap .i64 (a33 + x43.2.2.2)), (IntKind.wrap .i64 (a34 + x65.2.2.2))⟩ : T_lecternref10_Spot).X, .int .i64 (⟨(IntKind.wrap .i64 (a33 + x43.2.2.2)), (IntKind.wrap .i64 (a34 + x65.2.2.2))⟩ : T_lecternref10_Spot).Y]), (i3, .cells [.int .i64 a33, .int .i64 a34]), (g32, .room), mo g30 cR_T_lecternref10_Stroke (tagR (some g32) a31)] := (.keep (.keep (.keep (.keep .nil))))
                                exact ⟨(x65.2.2.1, x65.2.1, (⟨(IntKind.wrap .i64 (a33 + x43.2.2.2)), (IntKind.wrap .i64 (a34 + x65.2.2.2))⟩ : T_lecternref10_Spot).X, (⟨(IntKind.wrap .i64 (a33 + x43.2.2.2)), (IntKind.wrap .i64 (a34 + x65.2.2.2))⟩ : T_lecternref10_Spot).Y), hF, (hwo.spec ok).1, WS.mk' (.cons (.refl _) (.cons (.refl _) (.cons (.refl _) (.cons (.refl _) (.cons (.refl _) (.cons (.refl _) (.cons (.refl _) (.cons (.refl _) (.cons (.refl _) (.cons (.refl _) (.cons (.refl _) .nil))))))))))) ok hwo⟩
                              ·
                                refine WP_skip ?_
                                have hwo : WO [(i47, .cells [.int .i64 (⟨x43.2.2.2, (0 : Int)⟩ : T_lecternref10_Spot).X, .int .i64 x65.2.2.2]), (i3, .cells [.int .i64 a33, .int .i64 a34]), (g32, .room), mo g30 cR_T_lecternref10_Stroke (tagR (some g32) a31)] [(i47, .cells [.int .i64 (⟨x43.2.2.2, (0 : Int)⟩ : T_lecternref10_Spot).X, .int .i64 x65.2.2.2]), (i3, .cells [.int .i64 a33, .int .i64 a34]), (g32, .room), mo g30 cR_T_lecternref10_Stroke (tagR (some g32) a31)] := (.keep (.keep (.keep (.keep .nil))))
                                exact ⟨(x65.2.2.1, x65.2.1, (⟨x43.2.2.2, (0 : Int)⟩ : T_lecternref10_Spot).X, x65.2.2.2), hF, (hwo.spec ok).1, WS.mk' (.cons (.refl _) (.cons (.refl _) (.cons (.refl _) (.cons (.refl _) (.cons (.refl _) (.cons (.refl _) (.cons (.refl _) (.cons (.refl _) (.cons (.refl _) (.cons (.refl _) (.cons (.refl _) .nil))))))))))) ok hwo⟩
                  ·
                    rintro ⟨a56, a57, a58, a59⟩ s' hF ⟨ok, hws⟩
                    refine WP_ws hws ?_
                    clear hws s'
                    refine C_seq ?_
                    refine C_reg (mdl []) ?_
                    refine S_m (v := .int _ _) rfl ?_
                    refine S_bin rfl rfl (ev_add ..) ?_
                    refine S_a (v := .int _ _) rfl ?_
                    refine S_nil ?_
                    refine C_seq ?_
                    refine C_seq ?_
                    refine C_reg (mdl []) ?_
                    refine S_faP rfl ty_fd_52_0 ty_sz_3 ?_
                    refine S_ldP (j := 0) ok rfl rfl rfl hi47 (p_one (v := .int .i64 a58) ty_ag_3 ty_sz_3 rfl) ?_
                    refine S_call (F_lecternref10_part_ok _ hF fun x69 _ hF => ?_) (.cons (.refl _) (.nil))
                    refine S_un rfl (ev_not _) ?_
                    refine S_m (v := .bool _) rfl ?_
                    refine S_twoJ 5 174 hF (fun J71 hb70 hF => ?_) (fun J71 hb70 hF => ?_) (fun v72 hF => ?_)
                    ·
                      refine S_off rfl rfl hb70 ?_
                      refine S_offD ?_
                      refine S_off rfl rfl hb70 ?_
                      refine S_offD ?_
                      refine S_off rfl rfl hb70 ?_
                      refine S_offD ?_
                      refine S_off rfl rfl hb70 ?_
                      refine S_offD ?_
                      refine S_pickT (v := .bool _) rfl hb70 rfl ?_
                      refine S_nil ?_
                      refine ⟨_, hF, .hd (.refl _) ?_⟩
                      repeat (first | with_reducible exact WS.refl _ | refine WS.add ?_ rfl)
                    ·
                      refine S_on rfl rfl hb70 ?_
                      refine S_in ?_
                      refine S_faP rfl ty_fd_52_1 ty_sz_3 ?_
                      refine S_nil ?_
                      refine S_on rfl rfl hb70 ?_
                      refine S_in ?_
                      refine S_ldP (j := 0) ok rfl rfl rfl hi47 (p_one (v := .int .i64 a59) ty_ag_3 ty_sz_3 rfl) ?_
                      refine S_nil ?_
                      refine S_on rfl rfl hb70 ?_
                      refine S_in ?_
                      refine S_call (F_lecternref10_part_ok _ hF fun x73 _ hF => ?_) (.cons (.refl _) (.nil))
                      refine S_nil ?_
                      refine S_on rfl rfl hb70 ?_
                      refine S_in ?_
                      refine S_un rfl (ev_not _) ?_
                      refine S_nil ?_
                      refine S_pickF (v := .bool _) rfl hb70 rfl ?_
                      refine S_nil ?_
                      refine ⟨_, hF, .hd (.refl _) ?_⟩
                      repeat (first | with_reducible exact WS.refl _ | refine WS.add ?_ rfl)
                    ·
                      refine S_m (v := .bool _) rfl ?_
                      refine S_two (b := v72) 3 178 (.bool (v72 || (decide ((500 : Int) < (IntKind.wrap .i64 (a36 + (1 : Int))))))) (fun hb74 => ?_) (fun hb74 => ?_) ?_
                      ·
                        refine S_off rfl rfl hb74 ?_
                        refine S_offD ?_
                        refine S_off rfl rfl hb74 ?_
                        refine S_offD ?_
                        refine S_pickT (v := .bool _) rfl hb74 rfl ?_
                        refine S_nil ?_
                        refine .hd (or_t hb74) ?_
                        repeat (first | with_reducible exact WS.refl _ | refine WS.add ?_ rfl)
                      ·
                        refine S_on rfl rfl hb74 ?_
                        refine S_in ?_
                        refine S_m (v := .int _ _) rfl ?_
                        refine S_nil ?_
                        refine S_on rfl rfl hb74 ?_
                        refine S_in ?_
                        refine S_bin rfl rfl (ev_gtr ..) ?_
                        refine S_nil ?_
                        refine S_pickF (v := .bool _) rfl hb74 rfl ?_
                        refine S_nil ?_
                        refine .hd (or_f hb74) ?_
                        repeat (first | with_reducible exact WS.refl _ | refine WS.add ?_ rfl)
                      refine S_nil ?_
                      refine C_if (b := (v72 || (decide ((500 : Int) < (IntKind.wrap .i64 (a36 + (1 : Int))))))) rfl hF (fun hb75 hF => ?_) (fun hb75 hF => ?_)
                      ·
                        refine C_seq ?_
                        refine C_reg (mdl []) ?_
                        refine S_m (v := .int _ _) rfl ?_
                        refine S_a (v := .snil) rfl ?_
                        refine S_one 2 (v := .sl 2 (List.map c_T_lecternref10_Stroke ([] : List T_lecternref10_Stroke)) 0) (.nil _) ?_
                        refine S_a (v := .int _ _) rfl ?_
                        refine S_a (v := .int _ _) rfl ?_
                        refine S_nil ?_
                        refine WP_ret ?_
                        replace hF := hG40 _ (F_some hF)
                        replace hF := hG13 _ (F_some hF)
                        repeat (first | with_reducible refine Exit.sel_ret ?_ | with_reducible refine Exit.blk_ret ?_ | with_reducible refine Exit.jmp_ret ?_)
                        refine C_ret (fn := Tryd.f13) rfl (.tmp (v := .sl 2 (List.map c_T_lecternref10_Stroke ([] : List T_lecternref10_Stroke)) 0) rfl (.tmp (v := .int .i64 a57) rfl (.tmp (v := .int .i64 (5 : Int)) rfl .nil))) ?_
                        exact ⟨_, _, (.tupC (.cons (.refl _) (.cons (.refl _) (.cons (.refl _) (.nil))))), ok.wh, _, F_some hF, rfl, rfl⟩
                      ·
                        refine WP_skip ?_
                        refine C_join hF (fun (v : (List T_lecternref10_Stroke) × Bool) s' => match v with | (a82, a84) => ∃ g81 g83 : Nat, (g81 = 0 → a82 = []) ∧ (g83 = 0 → a82 = []) ∧ OK h [(g83, .room), (i47, .cells [.int .i64 a58, .int .i64 a59]), (i3, .cells [.int .i64 a33, .int .i64 a34]), mo g81 cR_T_lecternref10_Stroke (tagR (some g83) a82)] ∧ WS s' ⟨mkSl 206 [(0, .str p0), (5, mslO 2 g81 a82), (6, .ptr i3 0), (7, .bool a84), (8, .int .i64 (IntKind.wrap .i64 (a36 + (1 : Int)))), (9, .int .i64 a56), (14, .int .u8 (x20.toNat : Int)), (15, .bool (((x20.toNat : Int) == (77 : Int)) || ((x20.toNat : Int) == (109 : Int)))), (16, .int .i64 a38), (21, .ptr i47 0)], Hp h [(g83, .room), (i47, .cells [.int .i64 a58, .int .i64 a59]), (i3, .cells [.int .i64 a33, .int .i64 a34]), mo g81 cR_T_lecternref10_Stroke (tagR (some g83) a82)]⟩) (fun J85 hF => ?_) ?_
                        ·
                          refine C_seq ?_
                          refine C_reg (mdl []) ?_
                          refine S_m (v := .bool _) rfl ?_
                          refine S_m (v := .bool _) rfl ?_
                          refine S_two (b := (((x20.toNat : Int) == (77 : Int)) || ((x20.toNat : Int) == (109 : Int)))) 3 184 (.bool ((((x20.toNat : Int) == (77 : Int)) || ((x20.toNat : Int) == (109 : Int))) && (a38 == (0 : Int)))) (fun hb86 => ?_) (fun hb86 => ?_) ?_
                          ·
                            refine S_on rfl rfl hb86 ?_
                            refine S_in ?_
                            refine S_m (v := .int _ _) rfl ?_
                            refine S_nil ?_
                            refine S_on rfl rfl hb86 ?_
                            refine S_in ?_
                            refine S_bin rfl rfl (ev_eql ..) ?_
                            refine S_nil ?_
                            refine S_pickT (v := .bool _) rfl hb86 rfl ?_
                            refine S_nil ?_
                            refine .hd (and_t hb86) ?_
                            repeat (first | with_reducible exact WS.refl _ | refine WS.add ?_ rfl)
                          ·
                            refine S_off rfl rfl hb86 ?_
                            refine S_offD ?_
                            refine S_off rfl rfl hb86 ?_
                            refine S_offD ?_
                            refine S_pickF (v := .bool _) rfl hb86 rfl ?_
                            refine S_nil ?_
                            refine .hd (and_f hb86) ?_
                            repeat (first | with_reducible exact WS.refl _ | refine WS.add ?_ rfl)
                          refine S_nil ?_
                          refine C_if (b := ((((x20.toNat : Int) == (77 : Int)) || ((x20.toNat : Int) == (109 : Int))) && (a38 == (0 : Int)))) rfl hF (fun hb87 hF => ?_) (fun hb87 hF => ?_)
                          ·
                            refine C_seq ?_
                            refine C_reg (mdl [(188, 1)]) ?_
                            refine S_m (v := mslO _ _ _) rfl ?_
                            refine S_bld (v := .agg [.snil, .bool false]) (b_st ty_zc_80 ty_pl_80 rfl) ?_
                            refine S_lit0 (es := [[.snil, .bool false]]) rfl ty_el_27 rfl rfl rfl ?_
                            refine S_appR (c := cR_T_lecternref10_Stroke) (x0 := (⟨([] : List T_lecternref10_Spot), false⟩ : T_lecternref10_Stroke)) (off := 0) (kk := 2) (r := g32) (j := 3) ok zg30 rfl rfl rfl cR_T_lecternref10_Stroke_len rfl (cR_T_lecternref10_Stroke_w _) rfl rfl (fun _ => rfl) ty_el_27 ty_ni_27 hF ?_
                            intro u88 r89 hu88 hr89 ok hF
                            obtain ⟨a90, ha90, hF⟩ := F_let hF
                            rw [← ha90] at ok
                            rw [← ha90]
                            refine S_a (v := mslO _ _ _) rfl ?_
                            refine S_nil ?_
                            refine C_reg (mdl []) ?_
                            refine S_a (v := .bool _) rfl ?_
                            refine S_nil ?_
                            have hwo : WO [(r89, .room), (i47, .cells [.int .i64 a58, .int .i64 a59]), (i3, .cells [.int .i64 a33, .int .i64 a34]), (g32, .room), mo u88 cR_T_lecternref10_Stroke (tagR (some r89) a90)] [(r89, .room), (i47, .cells [.int .i64 a58, .int .i64 a59]), (i3, .cells [.int .i64 a33, .int .i64 a34]), mo u88 cR_T_lecternref10_Stroke (tagR (some r89) a90)] := (.keep (.keep (.keep (.drop (.keep .nil)))))
                            exact ⟨(a90, true), hF, u88, r89, (fun h => absurd h hu88), (fun h => absurd h hr89), (hwo.spec ok).1, WS.mk' (.cons (.refl _) (.cons (.refl _) (.cons (.refl _) (.cons (.refl _) (.cons (.refl _) (.cons (.refl _) (.cons (.refl _) (.cons (.refl _) (.cons (.refl _) (.cons (.refl _) .nil)))))))))) ok hwo⟩
                          ·
                            refine WP_skip ?_
                            obtain ⟨hpe, ok⟩ := Hp_pull 3 ok rfl
                            rw [hpe]; clear hpe
                            obtain ⟨hpe, ok⟩ := Hp_pull 2 ok rfl
                            rw [hpe]; clear hpe
                            obtain ⟨hpe, ok⟩ := Hp_pull 2 ok rfl
                            rw [hpe]; clear hpe
                            obtain ⟨hpe, ok⟩ := Hp_pull 3 ok rfl
                            rw [hpe]; clear hpe
                            have hwo : WO [(g32, .room), (i47, .cells [.int .i64 a58, .int .i64 a59]), (i3, .cells [.int .i64 a33, .int .i64 a34]), mo g30 cR_T_lecternref10_Stroke (tagR (some g32) a31)] [(g32, .room), (i47, .cells [.int .i64 a58, .int .i64 a59]), (i3, .cells [.int .i64 a33, .int .i64 a34]), mo g30 cR_T_lecternref10_Stroke (tagR (some g32) a31)] := (.keep (.keep (.keep (.keep .nil))))
                            exact ⟨(a31, a35), hF, g30, g32, zg30, zg32, (hwo.spec ok).1, WS.mk' (.cons (.refl _) (.cons (.refl _) (.cons (.refl _) (.cons (.refl _) (.cons (.refl _) (.cons (.refl _) (.cons (.refl _) (.cons (.refl _) (.cons (.refl _) (.cons (.refl _) .nil)))))))))) ok hwo⟩
                        ·
                          rintro ⟨a82, a84⟩ s' hF ⟨g81, g83, zg81, zg83, ok, hws⟩
                          refine WP_ws hws ?_
                          clear hws s'
                          refine C_seq ?_
                          refine C_drw (mdl [(202, 2)]) (by kernel_rfl) (by kernel_rfl) ?_
                          refine S_m (v := mslO _ _ _) rfl ?_
                          refine S_m (v := mslO _ _ _) rfl ?_
                          refine S_lenO zg81 rfl ty_sl_27 ?_
                          refine S_bin rfl rfl (ev_sub ..) ?_
                          refine S_m (v := mslO _ _ _) rfl ?_
                          refine S_m (v := mslO _ _ _) rfl ?_
                          refine S_lenO zg81 rfl ty_sl_27 ?_
                          refine S_bin rfl rfl (ev_sub ..) ?_
                          refine S_ixR zg81 rfl rfl ty_sl_27 ty_sz_80 hF (fun x91 hx91 hF => ?_)
                          refine S_faP rfl ty_fd_80_0 ty_sz_78 ?_
                          refine S_ldR (c := cR_T_lecternref10_Stroke) (q := 2) (j := 3) (f0 := 0) ok rfl zg81 rfl rfl cR_T_lecternref10_Stroke_len hx91 rfl rfl (p_one (v := .sl 2 (List.map c_T_lecternref10_Spot x91.Spots) g83) ty_ag_78 ty_sz_78 rfl) ?_
                          have hg83 := nz_lst zg83 hx91
                          refine S_ldP (j := 1) ok rfl rfl rfl hi47 (p_agg (vs := c_T_lecternref10_Spot (⟨a58, a59⟩ : T_lecternref10_Spot)) ty_ag_52 ty_sz_52 rfl rfl) ?_
                          refine S_lit0 (cs := [.int .i64 (⟨a58, a59⟩ : T_lecternref10_Spot).X, .int .i64 (⟨a58, a59⟩ : T_lecternref10_Spot).Y]) (es := (List.map c_T_lecternref10_Spot [(⟨a58, a59⟩ : T_lecternref10_Spot)])) rfl ty_el_78 rfl (by kernel_rfl) (by kernel_rfl) ?_
                          refine S_app (j := 0) ok rfl rfl rfl rfl hg83 ty_el_78 ty_ni_78 hF ?_
                          intro r92 hr92 ok hF
                          refine S_ixR zg81 rfl rfl ty_sl_27 ty_sz_80 hF (fun x93 hx93 hF => ?_)
                          refine S_faP rfl ty_fd_80_0 ty_sz_78 ?_
                          refine S_stR (c := cR_T_lecternref10_Stroke) (q := 2) (j := 3) (f0 := 0) (b := (⟨(x91.Spots ++ [(⟨a58, a59⟩ : T_lecternref10_Spot)]), x93.Closed⟩ : T_lecternref10_Stroke)) (r' := r92) ok zg81 rfl rfl rfl cR_T_lecternref10_Stroke_len hx93 rfl rfl ty_sz_78 rfl rfl (fun za94 ok => ?_)
                          obtain ⟨a94, ha94, hF⟩ := F_let hF
                          rw [← ha94] at ok za94
                          rw [← ha94]
                          have hms : mslO 2 g81 a82 = mslO 2 g81 a94 := mslO_len (by rw [ha94, List.length_set])
                          try rw [hms] at ok
                          try rw [hms]
                          clear hms
                          refine S_nil ?_
                          refine C_reg (mdl []) ?_
                          refine S_ldP (j := 1) ok rfl rfl rfl hi47 (p_agg (vs := c_T_lecternref10_Spot (⟨a58, a59⟩ : T_lecternref10_Spot)) ty_ag_52 ty_sz_52 rfl rfl) ?_
                          refine S_st (j := 2) (cs' := [.int .i64 (⟨a58, a59⟩ : T_lecternref10_Spot).X, .int .i64 (⟨a58, a59⟩ : T_lecternref10_Spot).Y]) ok rfl rfl rfl hi3 rfl ty_sz_52 rfl rfl (fun ok => ?_)
                          refine S_nil ?_
                          refine C_reg (mdl []) ?_
                          refine S_m (v := .int _ _) rfl ?_
                          refine S_bin rfl rfl (ev_add ..) ?_
                          refine S_a (v := .int _ _) rfl ?_
                          refine S_nil ?_
                          refine ih42 (a94, (⟨a58, a59⟩ : T_lecternref10_Spot).X, (⟨a58, a59⟩ : T_lecternref10_Spot).Y, a84, (IntKind.wrap .i64 (a36 + (1 : Int))), a56, (IntKind.wrap .i64 (a38 + (1 : Int)))) _ hF ?_
                          obtain ⟨hpe, ok⟩ := Hp_pull 3 ok rfl
                          rw [hpe]; clear hpe
                          obtain ⟨hpe, ok⟩ := Hp_pull 1 ok rfl
                          rw [hpe]; clear hpe
                          obtain ⟨hpe, ok⟩ := Hp_pull 3 ok rfl
                          rw [hpe]; clear hpe
                          have hwo : WO [(i3, .cells [.int .i64 (⟨a58, a59⟩ : T_lecternref10_Spot).X, .int .i64 (⟨a58, a59⟩ : T_lecternref10_Spot).Y]), (r92, .room), mo g81 cR_T_lecternref10_Stroke (tagR (some r92) a94), (i47, .cells [.int .i64 a58, .int .i64 a59])] [(i3, .cells [.int .i64 (⟨a58, a59⟩ : T_lecternref10_Spot).X, .int .i64 (⟨a58, a59⟩ : T_lecternref10_Spot).Y]), (r92, .room), mo g81 cR_T_lecternref10_Stroke (tagR (some r92) a94)] := (.keep (.keep (.keep (.drop .nil))))
                          exact ⟨g81, r92, za94, (fun h => absurd h hr92), (hwo.spec ok).1, WS.mk' (.cons (.refl _) (.cons (.refl _) (.cons (.refl _) (.cons (.refl _) (.cons (.refl _) (.cons (.refl _) (.cons (.refl _) (.cons (.refl _) (.cons (.refl _) .nil))))))))) ok hwo⟩
theorem F_lecternref10_Read_ok {β : Type} {f : (List T_lecternref10_Stroke) × Int × Int → Option β} {G : β → Prop} {R : D → Heap → Prop} {p0 : List UInt8} (h : Heap) (hF : OptP ((F_lecternref10_Read p0).bind f) G) (hk : ∀ r, F_lecternref10_Read p0 = some r → OptP (f r) G → R (.tup [.sl 2 (List.map c_T_lecternref10_Stroke r.1) 0, .int .i64 r.2.1, .int .i64 r.2.2]) h) : CallsA Tryd.prog 13 [.str p0] h R := by
  obtain ⟨r0, hr, hF⟩ := F_bind hF
  refine (F_lecternref10_Read_w (G := fun r => r = r0) p0 h ⟨r0, hr, rfl⟩).mono ?_
  rintro _ _ ⟨r, rfl, rfl, rfl⟩
  exact hk _ hr hF
theorem F_lecternref10_From_w (p0 : Nat × Nat) {G : T_lecternref10_Spot × Bool → Prop} (h : Heap) (hF : OptP (F_lecternref10_From p0) G) : CallsA Tryd.prog 25 [.cplx .f64 p0.1 p0.2] h fun d h' => ∃ r, G r ∧ d = .tup [.agg (c_T_lecternref10_Spot r.1), .bool r.2] ∧ h' = h := by
  refine CallsA.ret ?_
  refine C_body Tryd.func25 rfl en_25 Tryd.ntmps25 rfl (fun ok => ?_)
  rw [F_lecternref10_From] at hF
  refine C_seq ?_
  refine C_reg (mdl [(2, 1)]) ?_
  refine S_all1 ok rfl ty_zc_52 ?_
  intro i1 hi1 ok
  refine S_a (v := .bool _) rfl ?_
  refine S_nil ?_
  refine C_seq ?_
  refine C_reg (mdl []) ?_
  refine S_m (v := .cplx _ _ _) rfl ?_
  refine S_real (a := p0) rfl ?_
  refine S_m (v := .cplx _ _ _) rfl ?_
  refine S_imag (a := p0) rfl ?_
  refine S_a (v := .float _ _) rfl ?_
  refine S_a (v := .float _ _) rfl ?_
  refine S_nil ?_
  refine C_seq ?_
  refine C_seq ?_
  refine C_reg (mdl []) ?_
  refine S_m (v := .float _ _) rfl ?_
  refine S_bin rfl rfl (e_fge (a := p0.1) (b := (13920209183539462144 : Nat))) ?_
  refine S_m (v := .bool _) rfl ?_
  refine S_two (b := (fge p0.1 (13920209183539462144 : Nat))) 3 16 (.bool ((fge p0.1 (13920209183539462144 : Nat)) && (fle p0.1 (4696837146684686336 : Nat)))) (fun hb2 => ?_) (fun hb2 => ?_) ?_
  ·
    refine S_on rfl rfl hb2 ?_
    refine S_in ?_
    refine S_m (v := .float _ _) rfl ?_
    refine S_nil ?_
    refine S_on rfl rfl hb2 ?_
    refine S_in ?_
    refine S_bin rfl rfl (e_fle (a := p0.1) (b := (4696837146684686336 : Nat))) ?_
    refine S_nil ?_
    refine S_pickT (v := .bool _) rfl hb2 rfl ?_
    refine S_nil ?_
    refine .hd (and_t hb2) ?_
    repeat (first | with_reducible exact WS.refl _ | refine WS.add ?_ rfl)
  ·
    refine S_off rfl rfl hb2 ?_
    refine S_offD ?_
    refine S_off rfl rfl hb2 ?_
    refine S_offD ?_
    refine S_pickF (v := .bool _) rfl hb2 rfl ?_
    refine S_nil ?_
    refine .hd (and_f hb2) ?_
    repeat (first | with_reducible exact WS.refl _ | refine WS.add ?_ rfl)
  refine S_m (v := .bool _) rfl ?_
  refine S_two (b := ((fge p0.1 (13920209183539462144 : Nat)) && (fle p0.1 (4696837146684686336 : Nat)))) 3 20 (.bool (((fge p0.1 (13920209183539462144 : Nat)) && (fle p0.1 (4696837146684686336 : Nat))) && (fge p0.2 (13920209183539462144 : Nat)))) (fun hb3 => ?_) (fun hb3 => ?_) ?_
  ·
    refine S_on rfl rfl hb3 ?_
    refine S_in ?_
    refine S_m (v := .float _ _) rfl ?_
    refine S_nil ?_
    refine S_on rfl rfl hb3 ?_
    refine S_in ?_
    refine S_bin rfl rfl (e_fge (a := p0.2) (b := (13920209183539462144 : Nat))) ?_
    refine S_nil ?_
    refine S_pickT (v := .bool _) rfl hb3 rfl ?_
    refine S_nil ?_
    refine .hd (and_t hb3) ?_
    repeat (first | with_reducible exact WS.refl _ | refine WS.add ?_ rfl)
  ·
    refine S_off rfl rfl hb3 ?_
    refine S_offD ?_
    refine S_off rfl rfl hb3 ?_
    refine S_offD ?_
    refine S_pickF (v := .bool _) rfl hb3 rfl ?_
    refine S_nil ?_
    refine .hd (and_f hb3) ?_
    repeat (first | with_reducible exact WS.refl _ | refine WS.add ?_ rfl)
  refine S_m (v := .bool _) rfl ?_
  refine S_two (b := (((fge p0.1 (13920209183539462144 : Nat)) && (fle p0.1 (4696837146684686336 : Nat))) && (fge p0.2 (13920209183539462144 : Nat)))) 3 24 (.bool ((((fge p0.1 (13920209183539462144 : Nat)) && (fle p0.1 (4696837146684686336 : Nat))) && (fge p0.2 (13920209183539462144 : Nat))) && (fle p0.2 (4696837146684686336 : Nat)))) (fun hb4 => ?_) (fun hb4 => ?_) ?_
  ·
    refine S_on rfl rfl hb4 ?_
    refine S_in ?_
    refine S_m (v := .float _ _) rfl ?_
    refine S_nil ?_
    refine S_on rfl rfl hb4 ?_
    refine S_in ?_
    refine S_bin rfl rfl (e_fle (a := p0.2) (b := (4696837146684686336 : Nat))) ?_
    refine S_nil ?_
    refine S_pickT (v := .bool _) rfl hb4 rfl ?_
    refine S_nil ?_
    refine .hd (and_t hb4) ?_
    repeat (first | with_reducible exact WS.refl _ | refine WS.add ?_ rfl)
  ·
    refine S_off rfl rfl hb4 ?_
    refine S_offD ?_
    refine S_off rfl rfl hb4 ?_
    refine S_offD ?_
    refine S_pickF (v := .bool _) rfl hb4 rfl ?_
    refine S_nil ?_
    refine .hd (and_f hb4) ?_
    repeat (first | with_reducible exact WS.refl _ | refine WS.add ?_ rfl)
  refine S_un rfl (ev_not _) ?_
  refine S_nil ?_
  refine C_if (b := (!((((fge p0.1 (13920209183539462144 : Nat)) && (fle p0.1 (4696837146684686336 : Nat))) && (fge p0.2 (13920209183539462144 : Nat))) && (fle p0.2 (4696837146684686336 : Nat))))) rfl hF (fun hb5 hF => ?_) (fun hb5 hF => ?_)
  ·
    refine C_seq ?_
    refine C_reg (mdl []) ?_
    refine S_bld (v := .agg (c_T_lecternref10_Spot (⟨(0 : Int), (0 : Int)⟩ : T_lecternref10_Spot))) (b_st ty_zc_52 ty_pl_52 rfl) ?_
    refine S_st (j := 0) (cs' := [.int .i64 (⟨(0 : Int), (0 : Int)⟩ : T_lecternref10_Spot).X, .int .i64 (⟨(0 : Int), (0 : Int)⟩ : T_lecternref10_Spot).Y]) ok rfl rfl rfl hi1 rfl ty_sz_52 rfl rfl (fun ok => ?_)
    refine S_a (v := .bool _) rfl ?_
    refine S_nil ?_
    refine WP_ret ?_
    repeat (first | with_reducible refine Exit.sel_ret ?_ | with_reducible refine Exit.blk_ret ?_ | with_reducible refine Exit.jmp_ret ?_)
    refine C_ret (fn := Tryd.f25) rfl (.cell rfl (ld_ptr (j := 0) ok rfl hi1 (p_agg (vs := [.int .i64 (⟨(0 : Int), (0 : Int)⟩ : T_lecternref10_Spot).X, .int .i64 (⟨(0 : Int), (0 : Int)⟩ : T_lecternref10_Spot).Y]) ty_ag_52 ty_sz_52 rfl rfl)) (.tmp (v := .bool false) rfl .nil)) ?_
    exact ⟨_, _, (.tupC (.cons (.aggC (.cons (.refl _) (.cons (.refl _) (.nil)))) (.cons (.refl _) (.nil)))), ok.wh, _, F_some hF, rfl, rfl⟩
  ·
    refine WP_skip ?_
    refine C_seq ?_
    refine C_reg (mdl [(6, 1)]) ?_
    refine S_m (v := .float _ _) rfl ?_
    refine S_f2i rfl ty_ki_3 ty_un_40 hF (fun x6 _ hF => ?_)
    refine S_m (v := .float _ _) rfl ?_
    refine S_f2i rfl ty_ki_3 ty_un_40 hF (fun x7 _ hF => ?_)
    refine S_bld (v := .agg (c_T_lecternref10_Spot (⟨x6, x7⟩ : T_lecternref10_Spot))) (b_st ty_zc_52 ty_pl_52 rfl) ?_
    refine S_all1 ok rfl ty_zc_52 ?_
    intro i8 hi8 ok
    refine S_st (j := 0) (cs' := [.int .i64 (⟨x6, x7⟩ : T_lecternref10_Spot).X, .int .i64 (⟨x6, x7⟩ : T_lecternref10_Spot).Y]) ok rfl rfl rfl hi8 rfl ty_sz_52 rfl rfl (fun ok => ?_)
    refine S_nil ?_
    refine C_join hF (fun (v : Int × Int × Bool) s' => match v with | (a11, a12, a13) => OK h [(i1, .cells [.int .i64 a11, .int .i64 a12])] ∧ WS s' ⟨mkSl 45 [(2, .ptr i1 0), (3, .bool a13)], Hp h [(i1, .cells [.int .i64 a11, .int .i64 a12])]⟩) (fun J14 hF => ?_) ?_
    ·
      refine C_fork (mdl []) [0, 1, 2, 3, 4, 5, 6, 7, 10] [8, 9, 11, 12, 13, 14] [13, 8, 9, 11, 12, 14] [_, _, _, _, _, _, _, _, _] [_, _, _, _, _, _] [_, _, _, _, _, _] (by kernel_rfl) rfl rfl rfl rfl (by kernel_rfl) ?_
      refine S_ldP (j := 0) ok rfl rfl rfl hi8 (p_agg (vs := c_T_lecternref10_Spot (⟨x6, x7⟩ : T_lecternref10_Spot)) ty_ag_52 ty_sz_52 rfl rfl) ?_
      refine S_faP rfl ty_fd_52_0 ty_sz_3 ?_
      refine S_ldP (j := 0) ok rfl rfl rfl hi8 (p_one (v := .int .i64 (⟨x6, x7⟩ : T_lecternref10_Spot).X) ty_ag_3 ty_sz_3 rfl) ?_
      refine S_conv rfl (e_i2f ty_ki_40 ty_fa_40 ty_un_3) ?_
      refine S_m (v := .float _ _) rfl ?_
      refine S_bin rfl rfl (e_feq (a := (i2f (⟨x6, x7⟩ : T_lecternref10_Spot).X)) (b := p0.1)) ?_
      refine S_m (v := .bool _) rfl ?_
      refine S_if (b := (feq (i2f (⟨x6, x7⟩ : T_lecternref10_Spot).X) p0.1)) hF (fun hb15 hF => ?_) (fun hb16 hF => ?_)
      ·
        refine S_on rfl rfl hb15 ?_
        refine S_in ?_
        refine S_faP rfl ty_fd_52_1 ty_sz_3 ?_
        refine S_nil ?_
        refine S_on rfl rfl hb15 ?_
        refine S_in ?_
        refine S_m (v := .float _ _) rfl ?_
        refine S_nil ?_
        refine S_nil ?_
        refine ⟨?_, ?_⟩
        ·
          refine S_on rfl rfl hb15 ?_
          refine S_in ?_
          refine S_ldP (j := 0) ok rfl rfl rfl hi8 (p_one (v := .int .i64 (⟨x6, x7⟩ : T_lecternref10_Spot).Y) ty_ag_3 ty_sz_3 rfl) ?_
          refine S_nil ?_
          refine S_on rfl rfl hb15 ?_
          refine S_in ?_
          refine S_conv rfl (e_i2f ty_ki_40 ty_fa_40 ty_un_3) ?_
          refine S_nil ?_
          refine S_on rfl rfl hb15 ?_
          refine S_in ?_
          refine S_bin rfl rfl (e_feq (a := (i2f (⟨x6, x7⟩ : T_lecternref10_Spot).Y)) (b := p0.2)) ?_
          refine S_nil ?_
          refine S_pickT (v := .bool _) rfl hb15 rfl ?_
          refine S_st (j := 1) (cs' := [.int .i64 (⟨x6, x7⟩ : T_lecternref10_Spot).X, .int .i64 (⟨x6, x7⟩ : T_lecternref10_Spot).Y]) ok rfl rfl rfl hi1 rfl ty_sz_52 rfl rfl (fun ok => ?_)
          refine S_a (v := .bool _) rfl ?_
          refine S_nil ?_
          have hwo : WO [(i8, .cells [.int .i64 (⟨x6, x7⟩ : T_lecternref10_Spot).X, .int .i64 (⟨x6, x7⟩ : T_lecternref10_Spot).Y]), (i1, .cells [.int .i64 (⟨x6, x7⟩ : T_lecternref10_Spot).X, .int .i64 (⟨x6, x7⟩ : T_lecternref10_Spot).Y])] [(i1, .cells [.int .i64 (⟨x6, x7⟩ : T_lecternref10_Spot).X, .int .i64 (⟨x6, x7⟩ : T_lecternref10_Spot).Y])] := (.drop (.keep .nil))
          exact ⟨((⟨x6, x7⟩ : T_lecternref10_Spot).X, (⟨x6, x7⟩ : T_lecternref10_Spot).Y, (feq (i2f (⟨x6, x7⟩ : T_lecternref10_Spot).Y) p0.2)), hF, (hwo.spec ok).1, WS.mk' (.cons (.refl _) (.cons (.refl _) .nil)) ok hwo⟩
        ·
          refine S_st (j := 1) (cs' := [.int .i64 (⟨x6, x7⟩ : T_lecternref10_Spot).X, .int .i64 (⟨x6, x7⟩ : T_lecternref10_Spot).Y]) ok rfl rfl rfl hi1 rfl ty_sz_52 rfl rfl (fun ok => ?_)
          refine S_on rfl rfl hb15 ?_
          refine S_in ?_
          refine S_ldP (j := 0) ok rfl rfl rfl hi8 (p_one (v := .int .i64 (⟨x6, x7⟩ : T_lecternref10_Spot).Y) ty_ag_3 ty_sz_3 rfl) ?_
          refine S_nil ?_
          refine S_on rfl rfl hb15 ?_
          refine S_in ?_
          refine S_conv rfl (e_i2f ty_ki_40 ty_fa_40 ty_un_3) ?_
          refine S_nil ?_
          refine S_on rfl rfl hb15 ?_
          refine S_in ?_
          refine S_bin rfl rfl (e_feq (a := (i2f (⟨x6, x7⟩ : T_lecternref10_Spot).Y)) (b := p0.2)) ?_
          refine S_nil ?_
          refine S_pickT (v := .bool _) rfl hb15 rfl ?_
          refine S_a (v := .bool _) rfl ?_
          refine S_nil ?_
          have hwo : WO [(i8, .cells [.int .i64 (⟨x6, x7⟩ : T_lecternref10_Spot).X, .int .i64 (⟨x6, x7⟩ : T_lecternref10_Spot).Y]), (i1, .cells [.int .i64 (⟨x6, x7⟩ : T_lecternref10_Spot).X, .int .i64 (⟨x6, x7⟩ : T_lecternref10_Spot).Y])] [(i1, .cells [.int .i64 (⟨x6, x7⟩ : T_lecternref10_Spot).X, .int .i64 (⟨x6, x7⟩ : T_lecternref10_Spot).Y])] := (.drop (.keep .nil))
          exact ⟨((⟨x6, x7⟩ : T_lecternref10_Spot).X, (⟨x6, x7⟩ : T_lecternref10_Spot).Y, (feq (i2f (⟨x6, x7⟩ : T_lecternref10_Spot).Y) p0.2)), hF, (hwo.spec ok).1, WS.mk' (.cons (.refl _) (.cons (.refl _) .nil)) ok hwo⟩
      ·
        refine S_off rfl rfl hb16 ?_
        refine S_offD ?_
        refine S_off rfl rfl hb16 ?_
        refine S_offD ?_
        refine S_nil ?_
        refine ⟨?_, ?_⟩
        ·
          refine S_off rfl rfl hb16 ?_
          refine S_offD ?_
          refine S_off rfl rfl hb16 ?_
          refine S_offD ?_
          refine S_off rfl rfl hb16 ?_
          refine S_offD ?_
          refine S_pickF (v := .bool _) rfl hb16 rfl ?_
          refine S_st (j := 1) (cs' := [.int .i64 (⟨x6, x7⟩ : T_lecternref10_Spot).X, .int .i64 (⟨x6, x7⟩ : T_lecternref10_Spot).Y]) ok rfl rfl rfl hi1 rfl ty_sz_52 rfl rfl (fun ok => ?_)
          refine S_a (v := .bool _) rfl ?_
          refine S_nil ?_
          have hwo : WO [(i8, .cells [.int .i64 (⟨x6, x7⟩ : T_lecternref10_Spot).X, .int .i64 (⟨x6, x7⟩ : T_lecternref10_Spot).Y]), (i1, .cells [.int .i64 (⟨x6, x7⟩ : T_lecternref10_Spot).X, .int .i64 (⟨x6, x7⟩ : T_lecternref10_Spot).Y])] [(i1, .cells [.int .i64 (⟨x6, x7⟩ : T_lecternref10_Spot).X, .int .i64 (⟨x6, x7⟩ : T_lecternref10_Spot).Y])] := (.drop (.keep .nil))
          exact ⟨((⟨x6, x7⟩ : T_lecternref10_Spot).X, (⟨x6, x7⟩ : T_lecternref10_Spot).Y, false), hF, (hwo.spec ok).1, WS.mk' (.cons (.refl _) (.cons (.refl _) .nil)) ok hwo⟩
        ·
          refine S_st (j := 1) (cs' := [.int .i64 (⟨x6, x7⟩ : T_lecternref10_Spot).X, .int .i64 (⟨x6, x7⟩ : T_lecternref10_Spot).Y]) ok rfl rfl rfl hi1 rfl ty_sz_52 rfl rfl (fun ok => ?_)
          refine S_off rfl rfl hb16 ?_
          refine S_offD ?_
          refine S_off rfl rfl hb16 ?_
          refine S_offD ?_
          refine S_off rfl rfl hb16 ?_
          refine S_offD ?_
          refine S_pickF (v := .bool _) rfl hb16 rfl ?_
          refine S_a (v := .bool _) rfl ?_
          refine S_nil ?_
          have hwo : WO [(i8, .cells [.int .i64 (⟨x6, x7⟩ : T_lecternref10_Spot).X, .int .i64 (⟨x6, x7⟩ : T_lecternref10_Spot).Y]), (i1, .cells [.int .i64 (⟨x6, x7⟩ : T_lecternref10_Spot).X, .int .i64 (⟨x6, x7⟩ : T_lecternref10_Spot).Y])] [(i1, .cells [.int .i64 (⟨x6, x7⟩ : T_lecternref10_Spot).X, .int .i64 (⟨x6, x7⟩ : T_lecternref10_Spot).Y])] := (.drop (.keep .nil))
          exact ⟨((⟨x6, x7⟩ : T_lecternref10_Spot).X, (⟨x6, x7⟩ : T_lecternref10_Spot).Y, false), hF, (hwo.spec ok).1, WS.mk' (.cons (.refl _) (.cons (.refl _) .nil)) ok hwo⟩
    ·
      rintro ⟨a11, a12, a13⟩ s' hF ⟨ok, hws⟩
      refine WP_ws hws ?_
      clear hws s'
      refine WP_ret ?_
      repeat (first | with_reducible refine Exit.sel_ret ?_ | with_reducible refine Exit.blk_ret ?_ | with_reducible refine Exit.jmp_ret ?_)
      refine C_ret (fn := Tryd.f25) rfl (.cell rfl (ld_ptr (j := 0) ok rfl hi1 (p_agg (vs := [.int .i64 a11, .int .i64 a12]) ty_ag_52 ty_sz_52 rfl rfl)) (.tmp (v := .bool a13) rfl .nil)) ?_
      exact ⟨_, _, (.tupC (.cons (.aggC (.cons (.refl _) (.cons (.refl _) (.nil)))) (.cons (.refl _) (.nil)))), ok.wh, _, F_some hF, rfl, rfl⟩
theorem F_lecternref10_From_ok {β : Type} {f : T_lecternref10_Spot × Bool → Option β} {G : β → Prop} {R : D → Heap → Prop} {p0 : Nat × Nat} (h : Heap) (hF : OptP ((F_lecternref10_From p0).bind f) G) (hk : ∀ r, F_lecternref10_From p0 = some r → OptP (f r) G → R (.tup [.agg (c_T_lecternref10_Spot r.1), .bool r.2]) h) : CallsA Tryd.prog 25 [.cplx .f64 p0.1 p0.2] h R := by
  obtain ⟨r0, hr, hF⟩ := F_bind hF
  refine (F_lecternref10_From_w (G := fun r => r = r0) p0 h ⟨r0, hr, rfl⟩).mono ?_
  rintro _ _ ⟨r, rfl, rfl, rfl⟩
  exact hk _ hr hF
theorem F_lecternlaw10_same_w (p0 : List T_trace_Stroke) (p1 : List T_lecternref10_Stroke) {G : Bool → Prop} (h : Heap) (hF : OptP (F_lecternlaw10_same p0 p1) G) : CallsA Tryd.prog 14 [.sl 2 (List.map c_T_trace_Stroke p0) 0, .sl 2 (List.map c_T_lecternref10_Stroke p1) 0] h fun d h' => ∃ r, G r ∧ d = .bool r ∧ h' = h := by
  refine CallsA.ret ?_
  refine C_body Tryd.func14 rfl en_14 Tryd.ntmps14 rfl (fun ok => ?_)
  rw [F_lecternlaw10_same] at hF
  refine C_seq ?_
  refine C_reg (mdl []) ?_
  refine S_a (v := .bool _) rfl ?_
  refine S_nil ?_
  refine C_seq ?_
  refine C_seq ?_
  refine C_reg (mdl []) ?_
  refine S_m (v := .sl _ _ _) rfl ?_
  refine S_lenL rfl ty_sl_23 ?_
  refine S_m (v := .sl _ _ _) rfl ?_
  refine S_lenL rfl ty_sl_27 ?_
  refine S_bin rfl rfl (ev_neq ..) ?_
  refine S_nil ?_
  refine C_if (b := ((p0.length : Int) != (p1.length : Int))) rfl hF (fun hb1 hF => ?_) (fun hb1 hF => ?_)
  ·
    refine C_seq ?_
    refine C_reg (mdl []) ?_
    refine S_a (v := .bool _) rfl ?_
    refine S_nil ?_
    refine WP_ret ?_
    repeat (first | with_reducible refine Exit.sel_ret ?_ | with_reducible refine Exit.blk_ret ?_ | with_reducible refine Exit.jmp_ret ?_)
    refine C_ret (fn := Tryd.f14) rfl (.tmp (v := .bool false) rfl .nil) ?_
    exact ⟨_, _, (.refl _), ok.wh, _, F_some hF, rfl, rfl⟩
  ·
    refine WP_skip ?_
    refine C_join hF (fun (_ : Unit) s' => OK h [] ∧ WS s' ⟨mkSl 78 [], Hp h []⟩) (fun J64 hF => ?_) ?_
    ·
      refine C_seq ?_
      refine C_reg (mdl []) ?_
      refine S_m (v := .sl _ _ _) rfl ?_
      refine S_lenL rfl ty_sl_23 ?_
      refine S_m (v := .int _ _) rfl ?_
      refine S_nil ?_
      refine WP_block ?_
      refine C_loop (σ := Int) hF (fun (a65 : Int) s' => OK h [] ∧ WS s' ⟨mkSl 78 [(0, .sl 2 (List.map c_T_trace_Stroke p0) 0), (1, .sl 2 (List.map c_T_lecternref10_Stroke p1) 0), (16, .int .i64 (p0.length : Int)), (17, .int .i64 a65)], Hp h []⟩) ?_ ?_
      ·
        have hwo : WO [] [] := .nil
        exact ⟨(hwo.spec ok).1, WS.mk' (.cons (.refl _) (.cons (.refl _) (.cons (.refl _) (.cons (.refl _) .nil)))) ok hwo⟩
      ·
        rintro G66 hG67 rec68 a65 s' ih69 hF ⟨ok, hws⟩
        refine WP_ws hws ?_
        clear hws s'
        rw [F_lecternlaw10_same_l0] at hF
        refine C_seq ?_
        refine C_reg (mdl []) ?_
        refine S_bin rfl rfl (ev_lss ..) ?_
        refine S_nil ?_
        refine C_seq ?_
        refine C_if (b := (decide (a65 < (p0.length : Int)))) rfl hF (fun hb70 hF => ?_) (fun hb70 hF => ?_)
        ·
          refine WP_skip ?_
          refine C_join hF (fun (_ : Unit) s' => OK h [] ∧ WS s' ⟨mkSl 78 [(0, .sl 2 (List.map c_T_trace_Stroke p0) 0), (1, .sl 2 (List.map c_T_lecternref10_Stroke p1) 0), (16, .int .i64 (p0.length : Int)), (17, .int .i64 a65)], Hp h []⟩) (fun J101 hF => ?_) ?_
          ·
            refine WP_block ?_
            refine C_seq ?_
            refine C_reg (mdl []) ?_
            refine S_m (v := .int _ _) rfl ?_
            refine S_a (v := .int _ _) rfl ?_
            refine S_nil ?_
            refine C_seq ?_
            refine C_join hF (fun (a108 : Bool) s' => OK h [] ∧ WS s' ⟨mkSl 78 [(0, .sl 2 (List.map c_T_trace_Stroke p0) 0), (1, .sl 2 (List.map c_T_lecternref10_Stroke p1) 0), (5, .int .i64 a65), (16, .int .i64 (p0.length : Int)), (17, .int .i64 a65), (45, .bool a108)], Hp h []⟩) (fun J109 hF => ?_) ?_
            ·
              refine C_drw (mdl [(24, 3), (29, 3), (36, 3), (42, 3)]) (by kernel_rfl) (by kernel_rfl) ?_
              refine S_m (v := .sl _ _ _) rfl ?_
              refine S_m (v := .int _ _) rfl ?_
              refine S_ix rfl rfl ty_sl_23 ty_sz_56 hF (fun x110 _ hF => ?_)
              refine S_faQ rfl ty_fd_56_1 ty_sz_4 rfl ?_
              refine S_ldQ rfl (p_one ty_ag_4 ty_sz_4 rfl) ?_
              refine S_m (v := .sl _ _ _) rfl ?_
              refine S_m (v := .int _ _) rfl ?_
              refine S_ix rfl rfl ty_sl_27 ty_sz_80 hF (fun x111 _ hF => ?_)
              refine S_faQ rfl ty_fd_80_1 ty_sz_4 rfl ?_
              refine S_ldQ rfl (p_one ty_ag_4 ty_sz_4 rfl) ?_
              refine S_bin rfl rfl (e_bne ty_bo_4) ?_
              refine S_m (v := .bool _) rfl ?_
              refine S_if (b := (!(x110.Closed == x111.Closed))) hF (fun hb112 hF => ?_) (fun hb113 hF => ?_)
              ·
                refine S_off rfl rfl hb112 ?_
                refine S_offD ?_
                refine S_off rfl rfl hb112 ?_
                refine S_offD ?_
                refine S_off rfl rfl hb112 ?_
                refine S_offD ?_
                refine S_off rfl rfl hb112 ?_
                refine S_offD ?_
                refine S_off rfl rfl hb112 ?_
                refine S_offD ?_
                refine S_off rfl rfl hb112 ?_
                refine S_offD ?_
                refine S_off rfl rfl hb112 ?_
                refine S_offD ?_
                refine S_off rfl rfl hb112 ?_
                refine S_offD ?_
                refine S_off rfl rfl hb112 ?_
                refine S_offD ?_
                refine S_off rfl rfl hb112 ?_
                refine S_offD ?_
                refine S_off rfl rfl hb112 ?_
                refine S_offD ?_
                refine S_off rfl rfl hb112 ?_
                refine S_offD ?_
                refine S_off rfl rfl hb112 ?_
                refine S_offD ?_
                refine S_pickT (v := .bool _) rfl hb112 rfl ?_
                refine S_nil ?_
                have hwo : WO [] [] := .nil
                exact ⟨true, hF, (hwo.spec ok).1, WS.mk' (.cons (.refl _) (.cons (.refl _) (.cons (.refl _) (.cons (.refl _) (.cons (.refl _) (.cons (.refl _) .nil)))))) ok hwo⟩
              ·
                refine S_on rfl rfl hb113 ?_
                refine S_in ?_
                refine S_m (v := .sl _ _ _) rfl ?_
                refine S_nil ?_
                refine S_on rfl rfl hb113 ?_
                refine S_in ?_
                refine S_m (v := .int _ _) rfl ?_
                refine S_nil ?_
                refine S_on rfl rfl hb113 ?_
                refine S_in ?_
                refine S_ix rfl rfl ty_sl_23 ty_sz_56 hF (fun x114 _ hF => ?_)
                refine S_nil ?_
                refine S_on rfl rfl hb113 ?_
                refine S_in ?_
                refine S_faQ rfl ty_fd_56_0 ty_sz_54 rfl ?_
                refine S_nil ?_
                refine S_on rfl rfl hb113 ?_
                refine S_in ?_
                refine S_ldQ rfl (p_one ty_ag_54 ty_sz_54 rfl) ?_
                refine S_nil ?_
                refine S_on rfl rfl hb113 ?_
                refine S_in ?_
                refine S_lenL rfl ty_sl_54 ?_
                refine S_nil ?_
                refine S_on rfl rfl hb113 ?_
                refine S_in ?_
                refine S_m (v := .sl _ _ _) rfl ?_
                refine S_nil ?_
                refine S_on rfl rfl hb113 ?_
                refine S_in ?_
                refine S_m (v := .int _ _) rfl ?_
                refine S_nil ?_
                refine S_on rfl rfl hb113 ?_
                refine S_in ?_
                refine S_ix rfl rfl ty_sl_27 ty_sz_80 hF (fun x115 _ hF => ?_)
                refine S_nil ?_
                refine S_on rfl rfl hb113 ?_
                refine S_in ?_
                refine S_faQ rfl ty_fd_80_0 ty_sz_78 rfl ?_
                refine S_nil ?_
                refine S_on rfl rfl hb113 ?_
                refine S_in ?_
                refine S_ldQ rfl (p_one ty_ag_78 ty_sz_78 rfl) ?_
                refine S_nil ?_
                refine S_on rfl rfl hb113 ?_
                refine S_in ?_
                refine S_lenL rfl ty_sl_78 ?_
                refine S_nil ?_
                refine S_on rfl rfl hb113 ?_
                refine S_in ?_
                refine S_bin rfl rfl (ev_neq ..) ?_
                refine S_nil ?_
                refine S_pickF (v := .bool _) rfl hb113 rfl ?_
                refine S_nil ?_
                have hwo : WO [] [] := .nil
                exact ⟨((x114.Spots.length : Int) != (x115.Spots.length : Int)), hF, (hwo.spec ok).1, WS.mk' (.cons (.refl _) (.cons (.refl _) (.cons (.refl _) (.cons (.refl _) (.cons (.refl _) (.cons (.refl _) .nil)))))) ok hwo⟩
            ·
              rintro a108 s' hF ⟨ok, hws⟩
              refine WP_ws hws ?_
              clear hws s'
              refine C_if (b := a108) rfl hF (fun hb116 hF => ?_) (fun hb116 hF => ?_)
              ·
                refine C_seq ?_
                refine C_reg (mdl []) ?_
                refine S_a (v := .bool _) rfl ?_
                refine S_nil ?_
                refine WP_ret ?_
                replace hF := hG67 _ (F_some hF)
                repeat (first | with_reducible refine Exit.sel_ret ?_ | with_reducible refine Exit.blk_ret ?_ | with_reducible refine Exit.jmp_ret ?_)
                refine C_ret (fn := Tryd.f14) rfl (.tmp (v := .bool false) rfl .nil) ?_
                exact ⟨_, _, (.refl _), ok.wh, _, F_some hF, rfl, rfl⟩
              ·
                refine WP_skip ?_
                refine C_seq ?_
                refine C_reg (mdl []) ?_
                refine S_m (v := .sl _ _ _) rfl ?_
                refine S_m (v := .int _ _) rfl ?_
                refine S_ix rfl rfl ty_sl_23 ty_sz_56 hF (fun x117 _ hF => ?_)
                refine S_faQ rfl ty_fd_56_0 ty_sz_54 rfl ?_
                refine S_ldQ rfl (p_one ty_ag_54 ty_sz_54 rfl) ?_
                refine S_lenL rfl ty_sl_54 ?_
                refine S_m (v := .int _ _) rfl ?_
                refine S_nil ?_
                refine WP_block ?_
                refine C_loop (σ := Int) hF (fun (a118 : Int) s' => OK h [] ∧ WS s' ⟨mkSl 78 [(0, .sl 2 (List.map c_T_trace_Stroke p0) 0), (1, .sl 2 (List.map c_T_lecternref10_Stroke p1) 0), (5, .int .i64 a65), (16, .int .i64 (p0.length : Int)), (17, .int .i64 a65), (50, .sl 1 (List.map c_cplx x117.Spots) 0), (51, .int .i64 (x117.Spots.length : Int)), (52, .int .i64 a118)], Hp h []⟩) ?_ ?_
                ·
                  have hwo : WO [] [] := .nil
                  exact ⟨(hwo.spec ok).1, WS.mk' (.cons (.refl _) (.cons (.refl _) (.cons (.refl _) (.cons (.refl _) (.cons (.refl _) (.cons (.refl _) (.cons (.refl _) (.cons (.refl _) .nil)))))))) ok hwo⟩
                ·
                  rintro G119 hG120 rec121 a118 s' ih122 hF ⟨ok, hws⟩
                  refine WP_ws hws ?_
                  clear hws s'
                  rw [F_lecternlaw10_same_l1] at hF
                  refine C_seq ?_
                  refine C_reg (mdl []) ?_
                  refine S_bin rfl rfl (ev_lss ..) ?_
                  refine S_nil ?_
                  refine C_seq ?_
                  refine C_if (b := (decide (a118 < (x117.Spots.length : Int)))) rfl hF (fun hb123 hF => ?_) (fun hb123 hF => ?_)
                  ·
                    refine WP_skip ?_
                    refine C_seq ?_
                    refine WP_block ?_
                    refine C_seq ?_
                    refine C_reg (mdl []) ?_
                    refine S_m (v := .int _ _) rfl ?_
                    refine S_ix rfl rfl ty_sl_54 ty_sz_45 hF (fun x124 _ hF => ?_)
                    refine S_ldQ rfl (p_one ty_ag_45 ty_sz_45 rfl) ?_
                    refine S_a (v := .int _ _) rfl ?_
                    refine S_a (v := .cplx _ _ _) rfl ?_
                    refine S_nil ?_
                    refine C_seq ?_
                    refine C_reg (mdl [(8, 1)]) ?_
                    refine S_m (v := .cplx _ _ _) rfl ?_
                    refine S_call (F_lecternref10_From_ok _ hF fun x125 _ hF => ?_) (.cons (.refl _) (.nil))
                    refine S_m (v := .tup _) rfl ?_
                    refine S_ext rfl rfl ?_
                    refine S_ext rfl rfl ?_
                    refine S_all1 ok rfl ty_zc_52 ?_
                    intro i126 hi126 ok
                    refine S_st (j := 0) (cs' := [.int .i64 x125.1.X, .int .i64 x125.1.Y]) ok rfl rfl rfl hi126 rfl ty_sz_52 rfl rfl (fun ok => ?_)
                    refine S_a (v := .bool _) rfl ?_
                    refine S_nil ?_
                    refine C_join hF (fun (a131 : Bool) s' => OK h [] ∧ WS s' ⟨mkSl 78 [(0, .sl 2 (List.map c_T_trace_Stroke p0) 0), (1, .sl 2 (List.map c_T_lecternref10_Stroke p1) 0), (5, .int .i64 a65), (16, .int .i64 (p0.length : Int)), (17, .int .i64 a65), (50, .sl 1 (List.map c_cplx x117.Spots) 0), (51, .int .i64 (x117.Spots.length : Int)), (52, .int .i64 a118), (75, .bool a131)], Hp h []⟩) (fun J132 hF => ?_) ?_
                    ·
                      refine C_drw (mdl [(70, 3), (73, 3)]) (by kernel_rfl) (by kernel_rfl) ?_
                      refine S_m (v := .bool _) rfl ?_
                      refine S_un rfl (ev_not _) ?_
                      refine S_m (v := .bool _) rfl ?_
                      refine S_if (b := (!x125.2)) hF (fun hb133 hF => ?_) (fun hb134 hF => ?_)
                      ·
                        refine S_off rfl rfl hb133 ?_
                        refine S_offD ?_
                        refine S_off rfl rfl hb133 ?_
                        refine S_offD ?_
                        refine S_off rfl rfl hb133 ?_
                        refine S_offD ?_
                        refine S_off rfl rfl hb133 ?_
                        refine S_offD ?_
                        refine S_off rfl rfl hb133 ?_
                        refine S_offD ?_
                        refine S_off rfl rfl hb133 ?_
                        refine S_offD ?_
                        refine S_off rfl rfl hb133 ?_
                        refine S_offD ?_
                        refine S_off rfl rfl hb133 ?_
                        refine S_offD ?_
                        refine S_off rfl rfl hb133 ?_
                        refine S_offD ?_
                        refine S_off rfl rfl hb133 ?_
                        refine S_offD ?_
                        refine S_pickT (v := .bool _) rfl hb133 rfl ?_
                        refine S_nil ?_
                        have hwo : WO [(i126, .cells [.int .i64 x125.1.X, .int .i64 x125.1.Y])] [] := (.drop .nil)
                        exact ⟨true, hF, (hwo.spec ok).1, WS.mk' (.cons (.refl _) (.cons (.refl _) (.cons (.refl _) (.cons (.refl _) (.cons (.refl _) (.cons (.refl _) (.cons (.refl _) (.cons (.refl _) (.cons (.refl _) .nil))))))))) ok hwo⟩
                      ·
                        refine S_on rfl rfl hb134 ?_
                        refine S_in ?_
                        refine S_ldP (j := 0) ok rfl rfl rfl hi126 (p_agg (vs := c_T_lecternref10_Spot x125.1) ty_ag_52 ty_sz_52 rfl rfl) ?_
                        refine S_nil ?_
                        refine S_on rfl rfl hb134 ?_
                        refine S_in ?_
                        refine S_m (v := .sl _ _ _) rfl ?_
                        refine S_nil ?_
                        refine S_on rfl rfl hb134 ?_
                        refine S_in ?_
                        refine S_m (v := .int _ _) rfl ?_
                        refine S_nil ?_
                        refine S_on rfl rfl hb134 ?_
                        refine S_in ?_
                        refine S_ix rfl rfl ty_sl_27 ty_sz_80 hF (fun x135 _ hF => ?_)
                        refine S_nil ?_
                        refine S_on rfl rfl hb134 ?_
                        refine S_in ?_
                        refine S_faQ rfl ty_fd_80_0 ty_sz_78 rfl ?_
                        refine S_nil ?_
                        refine S_on rfl rfl hb134 ?_
                        refine S_in ?_
                        refine S_ldQ rfl (p_one ty_ag_78 ty_sz_78 rfl) ?_
                        refine S_nil ?_
                        refine S_on rfl rfl hb134 ?_
                        refine S_in ?_
                        refine S_m (v := .int _ _) rfl ?_
                        refine S_nil ?_
                        refine S_on rfl rfl hb134 ?_
                        refine S_in ?_
                        refine S_ix rfl rfl ty_sl_78 ty_sz_52 hF (fun x136 _ hF => ?_)
                        refine S_nil ?_
                        refine S_on rfl rfl hb134 ?_
                        refine S_in ?_
                        refine S_ldQ rfl (p_agg (vs := c_T_lecternref10_Spot x136) ty_ag_52 ty_sz_52 rfl rfl) ?_
                        refine S_nil ?_
                        refine S_on rfl rfl hb134 ?_
                        refine S_in ?_
                        refine S_bin rfl rfl (e_aggn (b := ((x125.1.X == x136.X) && ((x125.1.Y == x136.Y) && true))) ty_qg_52 ty_sf_52 (by simp only [c_T_lecternref10_Spot, ev_eqF_cons, ev_eqF_nil, ev_part, ty_sf_52, ty_qg_52, ty_ag_3, ty_sz_3, ty_ki_3, ty_ag_3, ty_sz_3, ty_ki_3, ev_eq_int, ev_eq_str, ev_eq_bool, ev_eq_agg, ev_eq_int2, ev_eq_str2, ev_eq_bool2, List.drop_zero, List.drop_succ_cons, List.length_cons, List.length_nil, List.take_succ_cons, List.take_zero, Option.isSome_some, if_true, Option.bind_some, Option.map_some, Nat.reduceAdd, Nat.reduceLeDiff])) ?_
                        refine S_nil ?_
                        refine S_pickF (v := .bool _) rfl hb134 rfl ?_
                        refine S_nil ?_
                        have hwo : WO [(i126, .cells [.int .i64 x125.1.X, .int .i64 x125.1.Y])] [] := (.drop .nil)
                        exact ⟨(!((x125.1.X == x136.X) && ((x125.1.Y == x136.Y) && true))), hF, (hwo.spec ok).1, WS.mk' (.cons (.refl _) (.cons (.refl _) (.cons (.refl _) (.cons (.refl _) (.cons (.refl _) (.cons (.refl _) (.cons (.refl _) (.cons (.refl _) (.cons (.refl _) .nil))))))))) ok hwo⟩
                    ·
                      rintro a131 s' hF ⟨ok, hws⟩
                      refine WP_ws hws ?_
                      clear hws s'
                      refine C_if (b := a131) rfl hF (fun hb137 hF => ?_) (fun hb137 hF => ?_)
                      ·
                        refine C_seq ?_
                        refine C_reg (mdl []) ?_
                        refine S_a (v := .bool _) rfl ?_
                        refine S_nil ?_
                        refine WP_ret ?_
                        replace hF := hG120 _ (F_some hF)
                        replace hF := hG67 _ (F_some hF)
                        repeat (first | with_reducible refine Exit.sel_ret ?_ | with_reducible refine Exit.blk_ret ?_ | with_reducible refine Exit.jmp_ret ?_)
                        refine C_ret (fn := Tryd.f14) rfl (.tmp (v := .bool false) rfl .nil) ?_
                        exact ⟨_, _, (.refl _), ok.wh, _, F_some hF, rfl, rfl⟩
                      ·
                        refine WP_skip ?_
                        refine C_reg (mdl []) ?_
                        refine S_bin rfl rfl (ev_add ..) ?_
                        refine S_m (v := .int _ _) rfl ?_
                        refine S_nil ?_
                        refine ih122 (IntKind.wrap .i64 (a118 + (1 : Int))) _ hF ?_
                        have hwo : WO [] [] := .nil
                        exact ⟨(hwo.spec ok).1, WS.mk' (.cons (.refl _) (.cons (.refl _) (.cons (.refl _) (.cons (.refl _) (.cons (.refl _) (.cons (.refl _) (.cons (.refl _) (.cons (.refl _) .nil)))))))) ok hwo⟩
                  ·
                    refine WP_exit ?_
                    simp only [Exit.sel, Exit.blk, Exit.jmp, if_true, if_false, reduceIte, Nat.reduceEqDiff, Nat.succ_ne_zero, Nat.zero_ne_one, Nat.one_ne_zero]
                    replace hF := hG120 _ (F_some hF)
                    have hwo : WO [] [] := .nil
                    exact ⟨(), hF, (hwo.spec ok).1, WS.mk' (.cons (.refl _) (.cons (.refl _) (.cons (.refl _) (.cons (.refl _) .nil)))) ok hwo⟩
          ·
            rintro ⟨⟩ s' hF ⟨ok, hws⟩
            refine WP_ws hws ?_
            clear hws s'
            refine C_reg (mdl []) ?_
            refine S_bin rfl rfl (ev_add ..) ?_
            refine S_m (v := .int _ _) rfl ?_
            refine S_nil ?_
            refine ih69 (IntKind.wrap .i64 (a65 + (1 : Int))) _ hF ?_
            have hwo : WO [] [] := .nil
            exact ⟨(hwo.spec ok).1, WS.mk' (.cons (.refl _) (.cons (.refl _) (.cons (.refl _) (.cons (.refl _) .nil)))) ok hwo⟩
        ·
          refine WP_exit ?_
          simp only [Exit.sel, Exit.blk, Exit.jmp, if_true, if_false, reduceIte, Nat.reduceEqDiff, Nat.succ_ne_zero, Nat.zero_ne_one, Nat.one_ne_zero]
          replace hF := hG67 _ (F_some hF)
          have hwo : WO [] [] := .nil
          exact ⟨(), hF, (hwo.spec ok).1, WS.mk' .nil ok hwo⟩
    ·
      rintro ⟨⟩ s' hF ⟨ok, hws⟩
      refine WP_ws hws ?_
      clear hws s'
      refine C_seq ?_
      refine C_reg (mdl []) ?_
      refine S_a (v := .bool _) rfl ?_
      refine S_nil ?_
      refine WP_ret ?_
      repeat (first | with_reducible refine Exit.sel_ret ?_ | with_reducible refine Exit.blk_ret ?_ | with_reducible refine Exit.jmp_ret ?_)
      refine C_ret (fn := Tryd.f14) rfl (.tmp (v := .bool true) rfl .nil) ?_
      exact ⟨_, _, (.refl _), ok.wh, _, F_some hF, rfl, rfl⟩
theorem F_lecternlaw10_same_ok {β : Type} {f : Bool → Option β} {G : β → Prop} {R : D → Heap → Prop} {p0 : List T_trace_Stroke} {p1 : List T_lecternref10_Stroke} (h : Heap) (hF : OptP ((F_lecternlaw10_same p0 p1).bind f) G) (hk : ∀ r, F_lecternlaw10_same p0 p1 = some r → OptP (f r) G → R (.bool r) h) : CallsA Tryd.prog 14 [.sl 2 (List.map c_T_trace_Stroke p0) 0, .sl 2 (List.map c_T_lecternref10_Stroke p1) 0] h R := by
  obtain ⟨r0, hr, hF⟩ := F_bind hF
  refine (F_lecternlaw10_same_w (G := fun r => r = r0) p0 p1 h ⟨r0, hr, rfl⟩).mono ?_
  rintro _ _ ⟨r, rfl, rfl, rfl⟩
  exact hk _ hr hF
theorem F_lecternlaw10_TraceReads_w (p0 : List UInt8) {G : Bool → Prop} (h : Heap) (hF : OptP (F_lecternlaw10_TraceReads p0) G) : CallsA Tryd.prog 3 [.str p0] h fun d h' => ∃ r, G r ∧ d = .bool r := by
  refine CallsA.ret ?_
  refine C_body Tryd.func3 rfl en_3 Tryd.ntmps3 rfl (fun ok => ?_)
  rw [F_lecternlaw10_TraceReads] at hF
  refine C_seq ?_
  refine C_reg (mdl []) ?_
  refine S_a (v := .bool _) rfl ?_
  refine S_nil ?_
  refine C_seq ?_
  refine C_seq ?_
  refine C_reg (mdl []) ?_
  refine S_call (F_lecternlaw10_awake_ok _ hF fun x1 _ hF => ?_) (.nil)
  refine S_un rfl (ev_not _) ?_
  refine S_nil ?_
  refine C_if (b := (!x1)) rfl hF (fun hb2 hF => ?_) (fun hb2 hF => ?_)
  ·
    refine C_seq ?_
    refine C_reg (mdl []) ?_
    refine S_a (v := .bool _) rfl ?_
    refine S_nil ?_
    refine WP_ret ?_
    repeat (first | with_reducible refine Exit.sel_ret ?_ | with_reducible refine Exit.blk_ret ?_ | with_reducible refine Exit.jmp_ret ?_)
    refine C_ret (fn := Tryd.f3) rfl (.tmp (v := .bool false) rfl .nil) ?_
    exact ⟨_, _, (.refl _), WH.refl _, _, F_some hF, rfl⟩
  ·
    refine WP_skip ?_
    refine C_seq ?_
    refine C_reg (mdl []) ?_
    refine S_m (v := .str _) rfl ?_
    refine S_call (F_trace_Read_ok _ hF fun x3 _ hF => ?_) (.cons (.refl _) (.nil))
    refine S_m (v := .tup _) rfl ?_
    refine S_ext rfl rfl ?_
    refine S_ext rfl rfl ?_
    refine S_ext rfl rfl ?_
    refine S_a (v := .sl _ _ _) rfl ?_
    refine S_a (v := .int _ _) rfl ?_
    refine S_a (v := .int _ _) rfl ?_
    refine S_nil ?_
    refine C_seq ?_
    refine C_reg (mdl []) ?_
    refine S_m (v := .str _) rfl ?_
    refine S_call (F_lecternref10_Read_ok _ hF fun x4 _ hF => ?_) (.cons (.refl _) (.nil))
    refine S_m (v := .tup _) rfl ?_
    refine S_ext rfl rfl ?_
    refine S_ext rfl rfl ?_
    refine S_ext rfl rfl ?_
    refine S_a (v := .sl _ _ _) rfl ?_
    refine S_a (v := .int _ _) rfl ?_
    refine S_a (v := .int _ _) rfl ?_
    refine S_nil ?_
    refine C_seq ?_
    refine C_reg (mdl []) ?_
    refine S_m (v := .int _ _) rfl ?_
    refine S_m (v := .int _ _) rfl ?_
    refine S_bin rfl rfl (ev_eql ..) ?_
    refine S_m (v := .bool _) rfl ?_
    refine S_two (b := (x3.2.2 == x4.2.2)) 4 30 (.bool ((x3.2.2 == x4.2.2) && (x3.2.1 == x4.2.1))) (fun hb5 => ?_) (fun hb5 => ?_) ?_
    ·
      refine S_on rfl rfl hb5 ?_
      refine S_in ?_
      refine S_m (v := .int _ _) rfl ?_
      refine S_nil ?_
      refine S_on rfl rfl hb5 ?_
      refine S_in ?_
      refine S_m (v := .int _ _) rfl ?_
      refine S_nil ?_
      refine S_on rfl rfl hb5 ?_
      refine S_in ?_
      refine S_bin rfl rfl (ev_eql ..) ?_
      refine S_nil ?_
      refine S_pickT (v := .bool _) rfl hb5 rfl ?_
      refine S_nil ?_
      refine .hd (and_t hb5) ?_
      repeat (first | with_reducible exact WS.refl _ | refine WS.add ?_ rfl)
    ·
      refine S_off rfl rfl hb5 ?_
      refine S_offD ?_
      refine S_off rfl rfl hb5 ?_
      refine S_offD ?_
      refine S_off rfl rfl hb5 ?_
      refine S_offD ?_
      refine S_pickF (v := .bool _) rfl hb5 rfl ?_
      refine S_nil ?_
      refine .hd (and_f hb5) ?_
      repeat (first | with_reducible exact WS.refl _ | refine WS.add ?_ rfl)
    refine S_m (v := .bool _) rfl ?_
    refine S_twoJ 4 35 hF (fun J7 hb6 hF => ?_) (fun J7 hb6 hF => ?_) (fun v8 hF => ?_)
    ·
      refine S_on rfl rfl hb6 ?_
      refine S_in ?_
      refine S_m (v := .sl _ _ _) rfl ?_
      refine S_nil ?_
      refine S_on rfl rfl hb6 ?_
      refine S_in ?_
      refine S_m (v := .sl _ _ _) rfl ?_
      refine S_nil ?_
      refine S_on rfl rfl hb6 ?_
      refine S_in ?_
      refine S_call (F_lecternlaw10_same_ok _ hF fun x9 _ hF => ?_) (.cons (.refl _) (.cons (.refl _) (.nil)))
      refine S_nil ?_
      refine S_pickT (v := .bool _) rfl hb6 rfl ?_
      refine S_nil ?_
      refine ⟨_, hF, .hd (.refl _) ?_⟩
      repeat (first | with_reducible exact WS.refl _ | refine WS.add ?_ rfl)
    ·
      refine S_off rfl rfl hb6 ?_
      refine S_offD ?_
      refine S_off rfl rfl hb6 ?_
      refine S_offD ?_
      refine S_off rfl rfl hb6 ?_
      refine S_offD ?_
      refine S_pickF (v := .bool _) rfl hb6 rfl ?_
      refine S_nil ?_
      refine ⟨_, hF, .hd (.refl _) ?_⟩
      repeat (first | with_reducible exact WS.refl _ | refine WS.add ?_ rfl)
    ·
      refine S_a (v := .bool _) rfl ?_
      refine S_nil ?_
      refine WP_ret ?_
      repeat (first | with_reducible refine Exit.sel_ret ?_ | with_reducible refine Exit.blk_ret ?_ | with_reducible refine Exit.jmp_ret ?_)
      refine C_ret (fn := Tryd.f3) rfl (.tmp (v := .bool v8) rfl .nil) ?_
      exact ⟨_, _, (.refl _), WH.refl _, _, F_some hF, rfl⟩
theorem F_lecternref10_Right_w (p0 : List T_lecternref10_Stroke) {G : Bool → Prop} (h : Heap) (hF : OptP (F_lecternref10_Right p0) G) : CallsA Tryd.prog 33 [.sl 2 (List.map c_T_lecternref10_Stroke p0) 0] h fun d h' => ∃ r, G r ∧ d = .bool r ∧ h' = h := by
  refine CallsA.ret ?_
  refine C_body Tryd.func33 rfl en_33 Tryd.ntmps33 rfl (fun ok => ?_)
  rw [F_lecternref10_Right] at hF
  refine C_seq ?_
  refine C_reg (mdl []) ?_
  refine S_a (v := .bool _) rfl ?_
  refine S_nil ?_
  refine C_seq ?_
  refine C_reg (mdl []) ?_
  refine S_a (v := .int _ _) rfl ?_
  refine S_nil ?_
  refine C_join hF (fun (a7 : Int) s' => OK h [] ∧ WS s' ⟨mkSl 24 [(3, .int .i64 a7)], Hp h []⟩) (fun J8 hF => ?_) ?_
  ·
    refine C_seq ?_
    refine C_reg (mdl []) ?_
    refine S_m (v := .sl _ _ _) rfl ?_
    refine S_lenL rfl ty_sl_27 ?_
    refine S_m (v := .int _ _) rfl ?_
    refine S_nil ?_
    refine WP_block ?_
    refine C_loop (σ := Int × Int) hF (fun (v : Int × Int) s' => match v with | (a9, a10) => OK h [] ∧ WS s' ⟨mkSl 24 [(3, .int .i64 a9), (6, .sl 2 (List.map c_T_lecternref10_Stroke p0) 0), (7, .int .i64 (p0.length : Int)), (8, .int .i64 a10)], Hp h []⟩) ?_ ?_
    ·
      have hwo : WO [] [] := .nil
      exact ⟨(hwo.spec ok).1, WS.mk' (.cons (.refl _) (.cons (.refl _) (.cons (.refl _) (.cons (.refl _) .nil)))) ok hwo⟩
    ·
      rintro G11 hG12 rec13 ⟨a9, a10⟩ s' ih14 hF ⟨ok, hws⟩
      refine WP_ws hws ?_
      clear hws s'
      rw [F_lecternref10_Right_l0] at hF
      refine C_seq ?_
      refine C_reg (mdl []) ?_
      refine S_bin rfl rfl (ev_lss ..) ?_
      refine S_nil ?_
      refine C_seq ?_
      refine C_if (b := (decide (a10 < (p0.length : Int)))) rfl hF (fun hb15 hF => ?_) (fun hb15 hF => ?_)
      ·
        refine WP_skip ?_
        refine C_seq ?_
        refine WP_block ?_
        refine C_seq ?_
        refine C_reg (mdl [(5, 1)]) ?_
        refine S_ix rfl rfl ty_sl_27 ty_sz_80 hF (fun x16 _ hF => ?_)
        refine S_ldQ rfl (p_agg (vs := c_T_lecternref10_Stroke x16) ty_ag_80 ty_sz_80 rfl rfl) ?_
        refine S_all1 ok rfl ty_zc_80 ?_
        intro i17 hi17 ok
        refine S_st (j := 0) (cs' := [.sl 2 (List.map c_T_lecternref10_Spot x16.Spots) 0, .bool x16.Closed]) ok rfl rfl rfl hi17 rfl ty_sz_80 rfl rfl (fun ok => ?_)
        refine S_nil ?_
        refine C_seq ?_
        refine C_reg (mdl []) ?_
        refine S_m (v := .int _ _) rfl ?_
        refine S_faP rfl ty_fd_80_0 ty_sz_78 ?_
        refine S_ldP (j := 0) ok rfl rfl rfl hi17 (p_one (v := .sl 2 (List.map c_T_lecternref10_Spot x16.Spots) 0) ty_ag_78 ty_sz_78 rfl) ?_
        refine S_lenL rfl ty_sl_78 ?_
        refine S_bin rfl rfl (ev_add ..) ?_
        refine S_a (v := .int _ _) rfl ?_
        refine S_nil ?_
        refine C_seq ?_
        refine C_reg (mdl []) ?_
        refine S_faP rfl ty_fd_80_0 ty_sz_78 ?_
        refine S_ldP (j := 0) ok rfl rfl rfl hi17 (p_one (v := .sl 2 (List.map c_T_lecternref10_Spot x16.Spots) 0) ty_ag_78 ty_sz_78 rfl) ?_
        refine S_lenL rfl ty_sl_78 ?_
        refine S_bin rfl rfl (ev_eql ..) ?_
        refine S_nil ?_
        refine C_if (b := ((x16.Spots.length : Int) == (0 : Int))) rfl hF (fun hb18 hF => ?_) (fun hb18 hF => ?_)
        ·
          refine C_seq ?_
          refine C_reg (mdl []) ?_
          refine S_a (v := .bool _) rfl ?_
          refine S_nil ?_
          refine WP_ret ?_
          replace hF := hG12 _ (F_some hF)
          repeat (first | with_reducible refine Exit.sel_ret ?_ | with_reducible refine Exit.blk_ret ?_ | with_reducible refine Exit.jmp_ret ?_)
          refine C_ret (fn := Tryd.f33) rfl (.tmp (v := .bool false) rfl .nil) ?_
          exact ⟨_, _, (.refl _), ok.wh, _, F_some hF, rfl, rfl⟩
        ·
          refine WP_skip ?_
          refine C_reg (mdl []) ?_
          refine S_bin rfl rfl (ev_add ..) ?_
          refine S_m (v := .int _ _) rfl ?_
          refine S_nil ?_
          refine ih14 ((IntKind.wrap .i64 (a9 + (x16.Spots.length : Int))), (IntKind.wrap .i64 (a10 + (1 : Int)))) _ hF ?_
          have hwo : WO [(i17, .cells [.sl 2 (List.map c_T_lecternref10_Spot x16.Spots) 0, .bool x16.Closed])] [] := (.drop .nil)
          exact ⟨(hwo.spec ok).1, WS.mk' (.cons (.refl _) (.cons (.refl _) (.cons (.refl _) (.cons (.refl _) .nil)))) ok hwo⟩
      ·
        refine WP_exit ?_
        simp only [Exit.sel, Exit.blk, Exit.jmp, if_true, if_false, reduceIte, Nat.reduceEqDiff, Nat.succ_ne_zero, Nat.zero_ne_one, Nat.one_ne_zero]
        replace hF := hG12 _ (F_some hF)
        have hwo : WO [] [] := .nil
        exact ⟨a9, hF, (hwo.spec ok).1, WS.mk' (.cons (.refl _) .nil) ok hwo⟩
  ·
    rintro a7 s' hF ⟨ok, hws⟩
    refine WP_ws hws ?_
    clear hws s'
    refine C_seq ?_
    refine C_reg (mdl []) ?_
    refine S_m (v := .int _ _) rfl ?_
    refine S_bin rfl rfl (ev_leq ..) ?_
    refine S_a (v := .bool _) rfl ?_
    refine S_nil ?_
    refine WP_ret ?_
    repeat (first | with_reducible refine Exit.sel_ret ?_ | with_reducible refine Exit.blk_ret ?_ | with_reducible refine Exit.jmp_ret ?_)
    refine C_ret (fn := Tryd.f33) rfl (.tmp (v := .bool (decide (a7 ≤ (500 : Int)))) rfl .nil) ?_
    exact ⟨_, _, (.refl _), ok.wh, _, F_some hF, rfl, rfl⟩
theorem F_lecternref10_Right_ok {β : Type} {f : Bool → Option β} {G : β → Prop} {R : D → Heap → Prop} {p0 : List T_lecternref10_Stroke} (h : Heap) (hF : OptP ((F_lecternref10_Right p0).bind f) G) (hk : ∀ r, F_lecternref10_Right p0 = some r → OptP (f r) G → R (.bool r) h) : CallsA Tryd.prog 33 [.sl 2 (List.map c_T_lecternref10_Stroke p0) 0] h R := by
  obtain ⟨r0, hr, hF⟩ := F_bind hF
  refine (F_lecternref10_Right_w (G := fun r => r = r0) p0 h ⟨r0, hr, rfl⟩).mono ?_
  rintro _ _ ⟨r, rfl, rfl, rfl⟩
  exact hk _ hr hF
theorem F_lecternlaw10_figure_w (p0 : List T_lecternlaw10_Line) {G : (List T_trace_Stroke) × (List T_lecternref10_Stroke) × Bool → Prop} (h : Heap) (hF : OptP (F_lecternlaw10_figure p0) G) : CallsA Tryd.prog 15 [.sl 2 (List.map c_T_lecternlaw10_Line p0) 0] h fun d h' => ∃ r, G r ∧ d = .tup [.sl 2 (List.map c_T_trace_Stroke r.1) 0, .sl 2 (List.map c_T_lecternref10_Stroke r.2.1) 0, .bool r.2.2] ∧ h' = h := by
  refine CallsA.ret ?_
  refine C_body Tryd.func15 rfl en_15 Tryd.ntmps15 rfl (fun ok => ?_)
  rw [F_lecternlaw10_figure] at hF
  refine C_seq ?_
  refine C_reg (mdl []) ?_
  refine S_a (v := .snil) rfl ?_
  refine S_one 2 (v := .sl 2 (List.map c_T_trace_Stroke ([] : List T_trace_Stroke)) 0) (.nil _) ?_
  refine S_a (v := .snil) rfl ?_
  refine S_one 3 (v := .sl 2 (List.map c_T_lecternref10_Stroke ([] : List T_lecternref10_Stroke)) 0) (.nil _) ?_
  refine S_a (v := .bool _) rfl ?_
  refine S_nil ?_
  refine C_seq ?_
  refine C_reg (mdl []) ?_
  refine S_a (v := .snil) rfl ?_
  refine S_ghost 5 2 ok rfl rfl ?_
  intro r1 hr1 ok
  refine S_nil ?_
  refine C_seq ?_
  refine C_reg (mdl []) ?_
  refine S_a (v := .snil) rfl ?_
  refine S_ghost 6 2 ok rfl rfl ?_
  intro r2 hr2 ok
  refine S_nil ?_
  refine C_seq ?_
  refine C_reg (mdl []) ?_
  refine S_a (v := .bool _) rfl ?_
  refine S_nil ?_
  refine C_join hF (fun (v : (List T_trace_Stroke) × (List T_lecternref10_Stroke) × Bool) s' => match v with | (a113, a115, a117) => ∃ g114 g116 : Nat, g114 ≠ 0 ∧ g116 ≠ 0 ∧ OK h [(g116, .room), (g114, .room)] ∧ WS s' ⟨mkSl 97 [(5, .sl 2 (List.map c_T_trace_Stroke a113) g114), (6, .sl 2 (List.map c_T_lecternref10_Stroke a115) g116), (7, .bool a117)], Hp h [(g116, .room), (g114, .room)]⟩) (fun J118 hF => ?_) ?_
  ·
    refine C_seq ?_
    refine C_reg (mdl []) ?_
    refine S_m (v := .sl _ _ _) rfl ?_
    refine S_lenL rfl ty_sl_32 ?_
    refine S_m (v := .int _ _) rfl ?_
    refine S_nil ?_
    refine WP_block ?_
    refine C_loop (σ := (List T_trace_Stroke) × (List T_lecternref10_Stroke) × Bool × Int) hF (fun (v : (List T_trace_Stroke) × (List T_lecternref10_Stroke) × Bool × Int) s' => match v with | (a119, a121, a123, a124) => ∃ g120 g122 : Nat, g120 ≠ 0 ∧ g122 ≠ 0 ∧ OK h [(g122, .room), (g120, .room)] ∧ WS s' ⟨mkSl 97 [(5, .sl 2 (List.map c_T_trace_Stroke a119) g120), (6, .sl 2 (List.map c_T_lecternref10_Stroke a121) g122), (7, .bool a123), (15, .sl 2 (List.map c_T_lecternlaw10_Line p0) 0), (16, .int .i64 (p0.length : Int)), (17, .int .i64 a124)], Hp h [(g122, .room), (g120, .room)]⟩) ?_ ?_
    ·
      have hwo : WO [(r2, .room), (r1, .room)] [(r2, .room), (r1, .room)] := (.keep (.keep .nil))
      exact ⟨r1, r2, hr1, hr2, (hwo.spec ok).1, WS.mk' (.cons (.refl _) (.cons (.refl _) (.cons (.refl _) (.cons (.refl _) (.cons (.refl _) (.cons (.refl _) .nil)))))) ok hwo⟩
    ·
      rintro G125 hG126 rec127 ⟨a119, a121, a123, a124⟩ s' ih128 hF ⟨g120, g122, hg120, hg122, ok, hws⟩
      refine WP_ws hws ?_
      clear hws s'
      rw [F_lecternlaw10_figure_l0] at hF
      refine C_seq ?_
      refine C_reg (mdl []) ?_
      refine S_bin rfl rfl (ev_lss ..) ?_
      refine S_nil ?_
      refine C_seq ?_
      refine C_if (b := (decide (a124 < (p0.length : Int)))) rfl hF (fun hb129 hF => ?_) (fun hb129 hF => ?_)
      ·
        refine WP_skip ?_
        refine C_join hF (fun (v : (List T_trace_Stroke) × (List T_lecternref10_Stroke) × Bool) s' => match v with | (a179, a181, a183) => ∃ g180 g182 : Nat, g180 ≠ 0 ∧ g182 ≠ 0 ∧ OK h [(g182, .room), (g180, .room)] ∧ WS s' ⟨mkSl 97 [(5, .sl 2 (List.map c_T_trace_Stroke a179) g180), (6, .sl 2 (List.map c_T_lecternref10_Stroke a181) g182), (7, .bool a183), (15, .sl 2 (List.map c_T_lecternlaw10_Line p0) 0), (16, .int .i64 (p0.length : Int)), (17, .int .i64 a124)], Hp h [(g182, .room), (g180, .room)]⟩) (fun J184 hF => ?_) ?_
        ·
          refine WP_block ?_
          refine C_seq ?_
          refine C_reg (mdl [(9, 1)]) ?_
          refine S_ix rfl rfl ty_sl_32 ty_sz_84 hF (fun x185 _ hF => ?_)
          refine S_ldQ rfl (p_agg (vs := c_T_lecternlaw10_Line x185) ty_ag_84 ty_sz_84 rfl rfl) ?_
          refine S_all1 ok rfl ty_zc_84 ?_
          intro i186 hi186 ok
          refine S_st (j := 0) (cs' := [.sl 1 (List.map c_i64 x185.Parts) 0, .bool x185.Closed]) ok rfl rfl rfl hi186 rfl ty_sz_84 rfl rfl (fun ok => ?_)
          refine S_nil ?_
          refine C_seq ?_
          refine C_reg (mdl [(10, 1)]) ?_
          refine S_faP rfl ty_fd_84_1 ty_sz_4 ?_
          refine S_ldP (j := 0) ok rfl rfl rfl hi186 (p_one (v := .bool x185.Closed) ty_ag_4 ty_sz_4 rfl) ?_
          refine S_bld (v := .agg [.snil, .bool x185.Closed]) (b_st ty_zc_56 ty_pl_56 rfl) ?_
          refine S_all1 ok rfl ty_zc_56 ?_
          intro i187 hi187 ok
          refine S_st (j := 0) (cs' := [.snil, .bool x185.Closed]) ok rfl rfl rfl hi187 rfl ty_sz_56 rfl rfl (fun ok => ?_)
          refine S_ghostO 0 0 1 (fun r188 => [.sl 1 (List.map c_cplx ([] : List (Nat × Nat))) r188, .bool x185.Closed]) ok rfl hi187 rfl (fun _ => rfl) ?_
          intro r188 hr188 ok
          refine S_nil ?_
          refine C_seq ?_
          refine C_reg (mdl [(11, 1)]) ?_
          refine S_faP rfl ty_fd_84_1 ty_sz_4 ?_
          refine S_ldP (j := 2) ok rfl rfl rfl hi186 (p_one (v := .bool x185.Closed) ty_ag_4 ty_sz_4 rfl) ?_
          refine S_bld (v := .agg [.snil, .bool x185.Closed]) (b_st ty_zc_80 ty_pl_80 rfl) ?_
          refine S_all1 ok rfl ty_zc_80 ?_
          intro i189 hi189 ok
          refine S_st (j := 0) (cs' := [.snil, .bool x185.Closed]) ok rfl rfl rfl hi189 rfl ty_sz_80 rfl rfl (fun ok => ?_)
          refine S_ghostO 0 0 2 (fun r190 => [.sl 2 (List.map c_T_lecternref10_Spot ([] : List T_lecternref10_Spot)) r190, .bool x185.Closed]) ok rfl hi189 rfl (fun _ => rfl) ?_
          intro r190 hr190 ok
          refine S_nil ?_
          refine C_join hF (fun (v : Bool × (List (Nat × Nat)) × Bool × (List T_lecternref10_Spot) × Bool) s' => match v with | (a208, a209, a211, a212, a214) => ∃ g210 g213 : Nat, g210 ≠ 0 ∧ g213 ≠ 0 ∧ OK h [(g213, .room), (i189, .cells [.sl 2 (List.map c_T_lecternref10_Spot a212) g213, .bool a214]), (g210, .room), (i187, .cells [.sl 1 (List.map c_cplx a209) g210, .bool a211]), (g122, .room), (g120, .room)] ∧ WS s' ⟨mkSl 97 [(5, .sl 2 (List.map c_T_trace_Stroke a119) g120), (6, .sl 2 (List.map c_T_lecternref10_Stroke a121) g122), (7, .bool a208), (10, .ptr i187 0), (11, .ptr i189 0), (15, .sl 2 (List.map c_T_lecternlaw10_Line p0) 0), (16, .int .i64 (p0.length : Int)), (17, .int .i64 a124)], Hp h [(g213, .room), (i189, .cells [.sl 2 (List.map c_T_lecternref10_Spot a212) g213, .bool a214]), (g210, .room), (i187, .cells [.sl 1 (List.map c_cplx a209) g210, .bool a211]), (g122, .room), (g120, .room)]⟩) (fun J215 hF => ?_) ?_
          ·
            refine C_seq ?_
            refine C_reg (mdl []) ?_
            refine S_a (v := .int _ _) rfl ?_
            refine S_nil ?_
            refine WP_block ?_
            refine C_loop (σ := Bool × (List (Nat × Nat)) × Bool × (List T_lecternref10_Spot) × Bool × Int) hF (fun (v : Bool × (List (Nat × Nat)) × Bool × (List T_lecternref10_Spot) × Bool × Int) s' => match v with | (a216, a217, a219, a220, a222, a223) => ∃ g218 g221 : Nat, g218 ≠ 0 ∧ g221 ≠ 0 ∧ OK h [(g221, .room), (i189, .cells [.sl 2 (List.map c_T_lecternref10_Spot a220) g221, .bool a222]), (g218, .room), (i187, .cells [.sl 1 (List.map c_cplx a217) g218, .bool a219]), (i186, .cells [.sl 1 (List.map c_i64 x185.Parts) 0, .bool x185.Closed]), (g122, .room), (g120, .room)] ∧ WS s' ⟨mkSl 97 [(5, .sl 2 (List.map c_T_trace_Stroke a119) g120), (6, .sl 2 (List.map c_T_lecternref10_Stroke a121) g122), (7, .bool a216), (9, .ptr i186 0), (10, .ptr i187 0), (11, .ptr i189 0), (12, .int .i64 a223), (15, .sl 2 (List.map c_T_lecternlaw10_Line p0) 0), (16, .int .i64 (p0.length : Int)), (17, .int .i64 a124)], Hp h [(g221, .room), (i189, .cells [.sl 2 (List.map c_T_lecternref10_Spot a220) g221, .bool a222]), (g218, .room), (i187, .cells [.sl 1 (List.map c_cplx a217) g218, .bool a219]), (i186, .cells [.sl 1 (List.map c_i64 x185.Parts) 0, .bool x185.Closed]), (g122, .room), (g120, .room)]⟩) ?_ ?_
            ·
              have hwo : WO [(r190, .room), (i189, .cells [.sl 2 (List.map c_T_lecternref10_Spot ([] : List T_lecternref10_Spot)) r190, .bool x185.Closed]), (r188, .room), (i187, .cells [.sl 1 (List.map c_cplx ([] : List (Nat × Nat))) r188, .bool x185.Closed]), (i186, .cells [.sl 1 (List.map c_i64 x185.Parts) 0, .bool x185.Closed]), (g122, .room), (g120, .room)] [(r190, .room), (i189, .cells [.sl 2 (List.map c_T_lecternref10_Spot ([] : List T_lecternref10_Spot)) r190, .bool x185.Closed]), (r188, .room), (i187, .cells [.sl 1 (List.map c_cplx ([] : List (Nat × Nat))) r188, .bool x185.Closed]), (i186, .cells [.sl 1 (List.map c_i64 x185.Parts) 0, .bool x185.Closed]), (g122, .room), (g120, .room)] := (.keep (.keep (.keep (.keep (.keep (.keep (.keep .nil)))))))
              exact ⟨r188, r190, hr188, hr190, (hwo.spec ok).1, WS.mk' (.cons (.refl _) (.cons (.refl _) (.cons (.refl _) (.cons (.refl _) (.cons (.refl _) (.cons (.refl _) (.cons (.refl _) (.cons (.refl _) (.cons (.refl _) (.cons (.refl _) .nil)))))))))) ok hwo⟩
            ·
              rintro G224 hG225 rec226 ⟨a216, a217, a219, a220, a222, a223⟩ s' ih227 hF ⟨g218, g221, hg218, hg221, ok, hws⟩
              refine WP_ws hws ?_
              clear hws s'
              rw [F_lecternlaw10_figure_l1] at hF
              refine C_seq ?_
              refine C_seq ?_
              refine C_reg (mdl []) ?_
              refine S_m (v := .int _ _) rfl ?_
              refine S_bin rfl rfl (ev_add ..) ?_
              refine S_faP rfl ty_fd_84_0 ty_sz_82 ?_
              refine S_ldP (j := 4) ok rfl rfl rfl hi186 (p_one (v := .sl 1 (List.map c_i64 x185.Parts) 0) ty_ag_82 ty_sz_82 rfl) ?_
              refine S_lenL rfl ty_sl_82 ?_
              refine S_bin rfl rfl (ev_lss ..) ?_
              refine S_nil ?_
              refine C_if (b := (decide ((IntKind.wrap .i64 (a223 + (1 : Int))) < (x185.Parts.length : Int)))) rfl hF (fun hb228 hF => ?_) (fun hb228 hF => ?_)
              ·
                refine WP_skip ?_
                refine C_seq ?_
                refine WP_block ?_
                refine C_seq ?_
                refine C_drw (mdl [(39, 3), (45, 3)]) (by kernel_rfl) (by kernel_rfl) ?_
                refine S_faP rfl ty_fd_84_0 ty_sz_82 ?_
                refine S_ldP (j := 4) ok rfl rfl rfl hi186 (p_one (v := .sl 1 (List.map c_i64 x185.Parts) 0) ty_ag_82 ty_sz_82 rfl) ?_
                refine S_m (v := .int _ _) rfl ?_
                refine S_ix rfl rfl ty_sl_82 ty_sz_3 hF (fun x229 _ hF => ?_)
                refine S_ldQ rfl (p_one ty_ag_3 ty_sz_3 rfl) ?_
                refine S_faP rfl ty_fd_84_0 ty_sz_82 ?_
                refine S_ldP (j := 4) ok rfl rfl rfl hi186 (p_one (v := .sl 1 (List.map c_i64 x185.Parts) 0) ty_ag_82 ty_sz_82 rfl) ?_
                refine S_m (v := .int _ _) rfl ?_
                refine S_bin rfl rfl (ev_add ..) ?_
                refine S_ix rfl rfl ty_sl_82 ty_sz_3 hF (fun x230 _ hF => ?_)
                refine S_ldQ rfl (p_one ty_ag_3 ty_sz_3 rfl) ?_
                refine S_a (v := .int _ _) rfl ?_
                refine S_a (v := .int _ _) rfl ?_
                refine S_nil ?_
                refine C_seq ?_
                refine C_reg (mdl []) ?_
                refine S_m (v := .bool _) rfl ?_
                refine S_m (v := .bool _) rfl ?_
                refine S_two (b := a216) 3 50 (.bool (a216 && (decide ((-1000000 : Int) ≤ x229)))) (fun hb231 => ?_) (fun hb231 => ?_) ?_
                ·
                  refine S_on rfl rfl hb231 ?_
                  refine S_in ?_
                  refine S_m (v := .int _ _) rfl ?_
                  refine S_nil ?_
                  refine S_on rfl rfl hb231 ?_
                  refine S_in ?_
                  refine S_bin rfl rfl (ev_geq ..) ?_
                  refine S_nil ?_
                  refine S_pickT (v := .bool _) rfl hb231 rfl ?_
                  refine S_nil ?_
                  refine .hd (and_t hb231) ?_
                  repeat (first | with_reducible exact WS.refl _ | refine WS.add ?_ rfl)
                ·
                  refine S_off rfl rfl hb231 ?_
                  refine S_offD ?_
                  refine S_off rfl rfl hb231 ?_
                  refine S_offD ?_
                  refine S_pickF (v := .bool _) rfl hb231 rfl ?_
                  refine S_nil ?_
                  refine .hd (and_f hb231) ?_
                  repeat (first | with_reducible exact WS.refl _ | refine WS.add ?_ rfl)
                refine S_m (v := .bool _) rfl ?_
                refine S_two (b := (a216 && (decide ((-1000000 : Int) ≤ x229)))) 3 54 (.bool ((a216 && (decide ((-1000000 : Int) ≤ x229))) && (decide (x229 ≤ (1000000 : Int))))) (fun hb232 => ?_) (fun hb232 => ?_) ?_
                ·
                  refine S_on rfl rfl hb232 ?_
                  refine S_in ?_
                  refine S_m (v := .int _ _) rfl ?_
                  refine S_nil ?_
                  refine S_on rfl rfl hb232 ?_
                  refine S_in ?_
                  refine S_bin rfl rfl (ev_leq ..) ?_
                  refine S_nil ?_
                  refine S_pickT (v := .bool _) rfl hb232 rfl ?_
                  refine S_nil ?_
                  refine .hd (and_t hb232) ?_
                  repeat (first | with_reducible exact WS.refl _ | refine WS.add ?_ rfl)
                ·
                  refine S_off rfl rfl hb232 ?_
                  refine S_offD ?_
                  refine S_off rfl rfl hb232 ?_
                  refine S_offD ?_
                  refine S_pickF (v := .bool _) rfl hb232 rfl ?_
                  refine S_nil ?_
                  refine .hd (and_f hb232) ?_
                  repeat (first | with_reducible exact WS.refl _ | refine WS.add ?_ rfl)
                refine S_m (v := .bool _) rfl ?_
                refine S_two (b := ((a216 && (decide ((-1000000 : Int) ≤ x229))) && (decide (x229 ≤ (1000000 : Int))))) 3 58 (.bool (((a216 && (decide ((-1000000 : Int) ≤ x229))) && (decide (x229 ≤ (1000000 : Int)))) && (decide ((-1000000 : Int) ≤ x230)))) (fun hb233 => ?_) (fun hb233 => ?_) ?_
                ·
                  refine S_on rfl rfl hb233 ?_
                  refine S_in ?_
                  refine S_m (v := .int _ _) rfl ?_
                  refine S_nil ?_
                  refine S_on rfl rfl hb233 ?_
                  refine S_in ?_
                  refine S_bin rfl rfl (ev_geq ..) ?_
                  refine S_nil ?_
                  refine S_pickT (v := .bool _) rfl hb233 rfl ?_
                  refine S_nil ?_
                  refine .hd (and_t hb233) ?_
                  repeat (first | with_reducible exact WS.refl _ | refine WS.add ?_ rfl)
                ·
                  refine S_off rfl rfl hb233 ?_
                  refine S_offD ?_
                  refine S_off rfl rfl hb233 ?_
                  refine S_offD ?_
                  refine S_pickF (v := .bool _) rfl hb233 rfl ?_
                  refine S_nil ?_
                  refine .hd (and_f hb233) ?_
                  repeat (first | with_reducible exact WS.refl _ | refine WS.add ?_ rfl)
                refine S_m (v := .bool _) rfl ?_
                refine S_two (b := (((a216 && (decide ((-1000000 : Int) ≤ x229))) && (decide (x229 ≤ (1000000 : Int)))) && (decide ((-1000000 : Int) ≤ x230)))) 3 62 (.bool ((((a216 && (decide ((-1000000 : Int) ≤ x229))) && (decide (x229 ≤ (1000000 : Int)))) && (decide ((-1000000 : Int) ≤ x230))) && (decide (x230 ≤ (1000000 : Int))))) (fun hb234 => ?_) (fun hb234 => ?_) ?_
                ·
                  refine S_on rfl rfl hb234 ?_
                  refine S_in ?_
                  refine S_m (v := .int _ _) rfl ?_
                  refine S_nil ?_
                  refine S_on rfl rfl hb234 ?_
                  refine S_in ?_
                  refine S_bin rfl rfl (ev_leq ..) ?_
                  refine S_nil ?_
                  refine S_pickT (v := .bool _) rfl hb234 rfl ?_
                  refine S_nil ?_
                  refine .hd (and_t hb234) ?_
                  repeat (first | with_reducible exact WS.refl _ | refine WS.add ?_ rfl)
                ·
                  refine S_off rfl rfl hb234 ?_
                  refine S_offD ?_
                  refine S_off rfl rfl hb234 ?_
                  refine S_offD ?_
                  refine S_pickF (v := .bool _) rfl hb234 rfl ?_
                  refine S_nil ?_
                  refine .hd (and_f hb234) ?_
                  repeat (first | with_reducible exact WS.refl _ | refine WS.add ?_ rfl)
                refine S_a (v := .bool _) rfl ?_
                refine S_nil ?_
                refine C_seq ?_
                refine C_reg (mdl [(71, 2)]) ?_
                refine S_faP rfl ty_fd_56_0 ty_sz_54 ?_
                refine S_ldP (j := 3) ok rfl rfl rfl hi187 (p_one (v := .sl 1 (List.map c_cplx a217) g218) ty_ag_54 ty_sz_54 rfl) ?_
                refine S_m (v := .int _ _) rfl ?_
                refine S_conv rfl (e_i2f ty_ki_40 ty_fa_40 ty_un_3) ?_
                refine S_m (v := .int _ _) rfl ?_
                refine S_conv rfl (e_i2f ty_ki_40 ty_fa_40 ty_un_3) ?_
                refine S_cplx (a := (i2f x229)) (b := (i2f x230)) rfl rfl ?_
                refine S_lit0 (cs := [.cplx .f64 (((i2f x229), (i2f x230)) : Nat × Nat).1 (((i2f x229), (i2f x230)) : Nat × Nat).2]) (es := (List.map c_cplx [(((i2f x229), (i2f x230)) : Nat × Nat)])) rfl ty_el_54 rfl (by kernel_rfl) (by kernel_rfl) ?_
                refine S_app (j := 2) ok rfl rfl rfl rfl hg218 ty_el_54 ty_ni_54 hF ?_
                intro r235 hr235 ok hF
                refine S_faP rfl ty_fd_56_0 ty_sz_54 ?_
                refine S_st (j := 3) (cs' := [.sl 1 (List.map c_cplx (a217 ++ [(((i2f x229), (i2f x230)) : Nat × Nat)])) r235, .bool a219]) ok rfl rfl rfl hi187 rfl ty_sz_54 rfl rfl (fun ok => ?_)
                refine S_nil ?_
                refine C_reg (mdl [(79, 2)]) ?_
                refine S_faP rfl ty_fd_80_0 ty_sz_78 ?_
                refine S_ldP (j := 1) ok rfl rfl rfl hi189 (p_one (v := .sl 2 (List.map c_T_lecternref10_Spot a220) g221) ty_ag_78 ty_sz_78 rfl) ?_
                refine S_m (v := .int _ _) rfl ?_
                refine S_m (v := .int _ _) rfl ?_
                refine S_bld (v := .agg (c_T_lecternref10_Spot (⟨x229, x230⟩ : T_lecternref10_Spot))) (b_st ty_zc_52 ty_pl_52 rfl) ?_
                refine S_lit0 (cs := [.int .i64 (⟨x229, x230⟩ : T_lecternref10_Spot).X, .int .i64 (⟨x229, x230⟩ : T_lecternref10_Spot).Y]) (es := (List.map c_T_lecternref10_Spot [(⟨x229, x230⟩ : T_lecternref10_Spot)])) rfl ty_el_78 rfl (by kernel_rfl) (by kernel_rfl) ?_
                refine S_app (j := 0) ok rfl rfl rfl rfl hg221 ty_el_78 ty_ni_78 hF ?_
                intro r236 hr236 ok hF
                refine S_faP rfl ty_fd_80_0 ty_sz_78 ?_
                refine S_st (j := 1) (cs' := [.sl 2 (List.map c_T_lecternref10_Spot (a220 ++ [(⟨x229, x230⟩ : T_lecternref10_Spot)])) r236, .bool a222]) ok rfl rfl rfl hi189 rfl ty_sz_78 rfl rfl (fun ok => ?_)
                refine S_nil ?_
                refine C_reg (mdl []) ?_
                refine S_m (v := .int _ _) rfl ?_
                refine S_bin rfl rfl (ev_add ..) ?_
                refine S_a (v := .int _ _) rfl ?_
                refine S_nil ?_
                refine ih227 (((((a216 && (decide ((-1000000 : Int) ≤ x229))) && (decide (x229 ≤ (1000000 : Int)))) && (decide ((-1000000 : Int) ≤ x230))) && (decide (x230 ≤ (1000000 : Int)))), (a217 ++ [(((i2f x229), (i2f x230)) : Nat × Nat)]), a219, (a220 ++ [(⟨x229, x230⟩ : T_lecternref10_Spot)]), a222, (IntKind.wrap .i64 (a223 + (2 : Int)))) _ hF ?_
                have hwo : WO [(r236, .room), (i189, .cells [.sl 2 (List.map c_T_lecternref10_Spot (a220 ++ [(⟨x229, x230⟩ : T_lecternref10_Spot)])) r236, .bool a222]), (r235, .room), (i187, .cells [.sl 1 (List.map c_cplx (a217 ++ [(((i2f x229), (i2f x230)) : Nat × Nat)])) r235, .bool a219]), (i186, .cells [.sl 1 (List.map c_i64 x185.Parts) 0, .bool x185.Closed]), (g122, .room), (g120, .room)] [(r236, .room), (i189, .cells [.sl 2 (List.map c_T_lecternref10_Spot (a220 ++ [(⟨x229, x230⟩ : T_lecternref10_Spot)])) r236, .bool a222]), (r235, .room), (i187, .cells [.sl 1 (List.map c_cplx (a217 ++ [(((i2f x229), (i2f x230)) : Nat × Nat)])) r235, .bool a219]), (i186, .cells [.sl 1 (List.map c_i64 x185.Parts) 0, .bool x185.Closed]), (g122, .room), (g120, .room)] := (.keep (.keep (.keep (.keep (.keep (.keep (.keep .nil)))))))
                exact ⟨r235, r236, hr235, hr236, (hwo.spec ok).1, WS.mk' (.cons (.refl _) (.cons (.refl _) (.cons (.refl _) (.cons (.refl _) (.cons (.refl _) (.cons (.refl _) (.cons (.refl _) (.cons (.refl _) (.cons (.refl _) (.cons (.refl _) .nil)))))))))) ok hwo⟩
              ·
                refine WP_exit ?_
                simp only [Exit.sel, Exit.blk, Exit.jmp, if_true, if_false, reduceIte, Nat.reduceEqDiff, Nat.succ_ne_zero, Nat.zero_ne_one, Nat.one_ne_zero]
                replace hF := hG225 _ (F_some hF)
                have hwo : WO [(g221, .room), (i189, .cells [.sl 2 (List.map c_T_lecternref10_Spot a220) g221, .bool a222]), (g218, .room), (i187, .cells [.sl 1 (List.map c_cplx a217) g218, .bool a219]), (i186, .cells [.sl 1 (List.map c_i64 x185.Parts) 0, .bool x185.Closed]), (g122, .room), (g120, .room)] [(g221, .room), (i189, .cells [.sl 2 (List.map c_T_lecternref10_Spot a220) g221, .bool a222]), (g218, .room), (i187, .cells [.sl 1 (List.map c_cplx a217) g218, .bool a219]), (g122, .room), (g120, .room)] := (.keep (.keep (.keep (.keep (.drop (.keep (.keep .nil)))))))
                exact ⟨(a216, a217, a219, a220, a222), hF, g218, g221, hg218, hg221, (hwo.spec ok).1, WS.mk' (.cons (.refl _) (.cons (.refl _) (.cons (.refl _) (.cons (.refl _) (.cons (.refl _) (.cons (.refl _) (.cons (.refl _) (.cons (.refl _) .nil)))))))) ok hwo⟩
          ·
            rintro ⟨a208, a209, a211, a212, a214⟩ s' hF ⟨g210, g213, hg210, hg213, ok, hws⟩
            refine WP_ws hws ?_
            clear hws s'
            refine C_seq ?_
            refine C_reg (mdl [(84, 2)]) ?_
            refine S_m (v := .sl _ _ _) rfl ?_
            refine S_ldP (j := 3) ok rfl rfl rfl hi187 (p_agg (vs := [.sl 1 (List.map c_cplx a209) g210, .bool a211]) ty_ag_56 ty_sz_56 rfl rfl) ?_
            refine S_one 82 (v := .agg (c_T_trace_Stroke (⟨a209, a211⟩ : T_trace_Stroke))) (.aggC (.cons (.zero _ _ _) (.cons (.refl _) (.nil)))) ?_
            refine S_lit0 (cs := [.sl 1 (List.map c_cplx (⟨a209, a211⟩ : T_trace_Stroke).Spots) 0, .bool (⟨a209, a211⟩ : T_trace_Stroke).Closed]) (es := (List.map c_T_trace_Stroke [(⟨a209, a211⟩ : T_trace_Stroke)])) rfl ty_el_23 rfl (by kernel_rfl) (by kernel_rfl) ?_
            refine S_app (j := 5) ok rfl rfl rfl rfl hg120 ty_el_23 ty_ni_23 hF ?_
            intro r237 hr237 ok hF
            refine S_a (v := .sl _ _ _) rfl ?_
            refine S_nil ?_
            refine C_reg (mdl [(88, 2)]) ?_
            refine S_m (v := .sl _ _ _) rfl ?_
            refine S_ldP (j := 1) ok rfl rfl rfl hi189 (p_agg (vs := [.sl 2 (List.map c_T_lecternref10_Spot a212) g213, .bool a214]) ty_ag_80 ty_sz_80 rfl rfl) ?_
            refine S_one 86 (v := .agg (c_T_lecternref10_Stroke (⟨a212, a214⟩ : T_lecternref10_Stroke))) (.aggC (.cons (.zero _ _ _) (.cons (.refl _) (.nil)))) ?_
            refine S_lit0 (cs := [.sl 2 (List.map c_T_lecternref10_Spot (⟨a212, a214⟩ : T_lecternref10_Stroke).Spots) 0, .bool (⟨a212, a214⟩ : T_lecternref10_Stroke).Closed]) (es := (List.map c_T_lecternref10_Stroke [(⟨a212, a214⟩ : T_lecternref10_Stroke)])) rfl ty_el_27 rfl (by kernel_rfl) (by kernel_rfl) ?_
            refine S_app (j := 4) ok rfl rfl rfl rfl hg122 ty_el_27 ty_ni_27 hF ?_
            intro r238 hr238 ok hF
            refine S_a (v := .sl _ _ _) rfl ?_
            refine S_nil ?_
            have hwo : WO [(g213, .room), (i189, .cells [.sl 2 (List.map c_T_lecternref10_Spot a212) g213, .bool a214]), (g210, .room), (i187, .cells [.sl 1 (List.map c_cplx a209) g210, .bool a211]), (r238, .room), (r237, .room)] [(r238, .room), (r237, .room)] := (.drop (.drop (.drop (.drop (.keep (.keep .nil))))))
            exact ⟨((a119 ++ [(⟨a209, a211⟩ : T_trace_Stroke)]), (a121 ++ [(⟨a212, a214⟩ : T_lecternref10_Stroke)]), a208), hF, r237, r238, hr237, hr238, (hwo.spec ok).1, WS.mk' (.cons (.refl _) (.cons (.refl _) (.cons (.refl _) (.cons (.refl _) (.cons (.refl _) (.cons (.refl _) .nil)))))) ok hwo⟩
        ·
          rintro ⟨a179, a181, a183⟩ s' hF ⟨g180, g182, hg180, hg182, ok, hws⟩
          refine WP_ws hws ?_
          clear hws s'
          refine C_reg (mdl []) ?_
          refine S_bin rfl rfl (ev_add ..) ?_
          refine S_m (v := .int _ _) rfl ?_
          refine S_nil ?_
          refine ih128 (a179, a181, a183, (IntKind.wrap .i64 (a124 + (1 : Int)))) _ hF ?_
          have hwo : WO [(g182, .room), (g180, .room)] [(g182, .room), (g180, .room)] := (.keep (.keep .nil))
          exact ⟨g180, g182, hg180, hg182, (hwo.spec ok).1, WS.mk' (.cons (.refl _) (.cons (.refl _) (.cons (.refl _) (.cons (.refl _) (.cons (.refl _) (.cons (.refl _) .nil)))))) ok hwo⟩
      ·
        refine WP_exit ?_
        simp only [Exit.sel, Exit.blk, Exit.jmp, if_true, if_false, reduceIte, Nat.reduceEqDiff, Nat.succ_ne_zero, Nat.zero_ne_one, Nat.one_ne_zero]
        replace hF := hG126 _ (F_some hF)
        have hwo : WO [(g122, .room), (g120, .room)] [(g122, .room), (g120, .room)] := (.keep (.keep .nil))
        exact ⟨(a119, a121, a123), hF, g120, g122, hg120, hg122, (hwo.spec ok).1, WS.mk' (.cons (.refl _) (.cons (.refl _) (.cons (.refl _) .nil))) ok hwo⟩
  ·
    rintro ⟨a113, a115, a117⟩ s' hF ⟨g114, g116, hg114, hg116, ok, hws⟩
    refine WP_ws hws ?_
    clear hws s'
    refine C_seq ?_
    refine C_reg (mdl []) ?_
    refine S_m (v := .sl _ _ _) rfl ?_
    refine S_one 90 (v := .sl 2 (List.map c_T_trace_Stroke a113) 0) (.zero _ _ _) ?_
    refine S_m (v := .sl _ _ _) rfl ?_
    refine S_one 91 (v := .sl 2 (List.map c_T_lecternref10_Stroke a115) 0) (.zero _ _ _) ?_
    refine S_m (v := .bool _) rfl ?_
    refine S_m (v := .bool _) rfl ?_
    refine S_twoJ 3 96 hF (fun J240 hb239 hF => ?_) (fun J240 hb239 hF => ?_) (fun v241 hF => ?_)
    ·
      refine S_on rfl rfl hb239 ?_
      refine S_in ?_
      refine S_m (v := .sl _ _ _) rfl ?_
      refine S_nil ?_
      refine S_one 94 (v := .sl 2 (List.map c_T_lecternref10_Stroke a115) 0) (.zero _ _ _) ?_
      refine S_on rfl rfl hb239 ?_
      refine S_in ?_
      refine S_call (F_lecternref10_Right_ok _ hF fun x242 _ hF => ?_) (.cons (.refl _) (.nil))
      refine S_nil ?_
      refine S_pickT (v := .bool _) rfl hb239 rfl ?_
      refine S_nil ?_
      refine ⟨_, hF, .hd (.refl _) ?_⟩
      repeat (first | with_reducible exact WS.refl _ | refine WS.add ?_ rfl)
    ·
      refine S_off rfl rfl hb239 ?_
      refine S_offD ?_
      refine S_off rfl rfl hb239 ?_
      refine S_offD ?_
      refine S_pickF (v := .bool _) rfl hb239 rfl ?_
      refine S_nil ?_
      refine ⟨_, hF, .hd (.refl _) ?_⟩
      repeat (first | with_reducible exact WS.refl _ | refine WS.add ?_ rfl)
    ·
      refine S_a (v := .sl _ _ _) rfl ?_
      refine S_a (v := .sl _ _ _) rfl ?_
      refine S_a (v := .bool _) rfl ?_
      refine S_nil ?_
      refine WP_ret ?_
      repeat (first | with_reducible refine Exit.sel_ret ?_ | with_reducible refine Exit.blk_ret ?_ | with_reducible refine Exit.jmp_ret ?_)
      refine C_ret (fn := Tryd.f15) rfl (.tmp (v := .sl 2 (List.map c_T_trace_Stroke a113) 0) rfl (.tmp (v := .sl 2 (List.map c_T_lecternref10_Stroke a115) 0) rfl (.tmp (v := .bool v241) rfl .nil))) ?_
      exact ⟨_, _, (.tupC (.cons (.refl _) (.cons (.refl _) (.cons (.refl _) (.nil))))), ok.wh, _, F_some hF, rfl, rfl⟩
theorem F_lecternlaw10_figure_ok {β : Type} {f : (List T_trace_Stroke) × (List T_lecternref10_Stroke) × Bool → Option β} {G : β → Prop} {R : D → Heap → Prop} {p0 : List T_lecternlaw10_Line} (h : Heap) (hF : OptP ((F_lecternlaw10_figure p0).bind f) G) (hk : ∀ r, F_lecternlaw10_figure p0 = some r → OptP (f r) G → R (.tup [.sl 2 (List.map c_T_trace_Stroke r.1) 0, .sl 2 (List.map c_T_lecternref10_Stroke r.2.1) 0, .bool r.2.2]) h) : CallsA Tryd.prog 15 [.sl 2 (List.map c_T_lecternlaw10_Line p0) 0] h R := by
  obtain ⟨r0, hr, hF⟩ := F_bind hF
  refine (F_lecternlaw10_figure_w (G := fun r => r = r0) p0 h ⟨r0, hr, rfl⟩).mono ?_
  rintro _ _ ⟨r, rfl, rfl, rfl⟩
  exact hk _ hr hF
theorem F_lecternref10_digits_i : ∀ (N : Nat) (v : Int) (G : (List UInt8) → Prop) (h : Heap), OptP (iter F_lecternref10_digits_b N v) G → CallsA Tryd.prog 37 [.int .i64 v] h fun d h' => ∃ r, G r ∧ d = .str r ∧ h' = h := by
  intro N
  induction N with
  | zero => intro v G h hF; exact F_none hF
  | succ N ih0 =>
  intro p0 G h hF
  show CallsA Tryd.prog 37 [.int .i64 p0] h fun d h' => ∃ r, G r ∧ d = .str r ∧ h' = h
  replace hF : OptP (F_lecternref10_digits_b (iter F_lecternref10_digits_b N) p0) G := hF
  refine CallsA.ret ?_
  refine C_body Tryd.func37 rfl en_37 Tryd.ntmps37 rfl (fun ok => ?_)
  rw [F_lecternref10_digits_b] at hF
  refine C_seq ?_
  refine C_reg (mdl []) ?_
  refine S_a (v := .str ([] : List UInt8)) rfl ?_
  refine S_nil ?_
  refine C_seq ?_
  refine C_seq ?_
  refine C_reg (mdl []) ?_
  refine S_m (v := .int _ _) rfl ?_
  refine S_bin rfl rfl (ev_lss ..) ?_
  refine S_nil ?_
  refine C_if (b := (decide (p0 < (0 : Int)))) rfl hF (fun hb1 hF => ?_) (fun hb1 hF => ?_)
  ·
    refine C_seq ?_
    refine C_reg (mdl []) ?_
    refine S_m (v := .int _ _) rfl ?_
    refine S_un rfl (ev_neg ..) ?_
    refine S_call (ok_of (enc := fun r => .str r) (fun G h hF => ih0 (IntKind.wrap .i64 (0 - p0)) G h hF) _ hF fun x2 _ hF => ?_) (.cons (.refl _) (.nil))
    refine S_cat rfl rfl hF (fun hF => ?_)
    refine S_a (v := .str _) rfl ?_
    refine S_nil ?_
    refine WP_ret ?_
    repeat (first | with_reducible refine Exit.sel_ret ?_ | with_reducible refine Exit.blk_ret ?_ | with_reducible refine Exit.jmp_ret ?_)
    refine C_ret (fn := Tryd.f37) rfl (.tmp (v := .str (([45] : List UInt8) ++ x2)) rfl .nil) ?_
    exact ⟨_, _, (.refl _), ok.wh, _, F_some hF, rfl, rfl⟩
  ·
    refine WP_skip ?_
    refine C_seq ?_
    refine C_reg (mdl []) ?_
    refine S_a (v := .str ([] : List UInt8)) rfl ?_
    refine S_nil ?_
    refine C_join hF (fun (v : Int × (List UInt8)) s' => match v with | (a7, a8) => OK h [] ∧ WS s' ⟨mkSl 29 [(0, .int .i64 a7), (3, .str a8)], Hp h []⟩) (fun J9 hF => ?_) ?_
    ·
      refine WP_block ?_
      refine C_loop (σ := Int × (List UInt8)) hF (fun (v : Int × (List UInt8)) s' => match v with | (a10, a11) => OK h [] ∧ WS s' ⟨mkSl 29 [(0, .int .i64 a10), (3, .str a11)], Hp h []⟩) ?_ ?_
      ·
        have hwo : WO [] [] := .nil
        exact ⟨(hwo.spec ok).1, WS.mk' (.cons (.refl _) (.cons (.refl _) .nil)) ok hwo⟩
      ·
        rintro G12 hG13 rec14 ⟨a10, a11⟩ s' ih15 hF ⟨ok, hws⟩
        refine WP_ws hws ?_
        clear hws s'
        rw [F_lecternref10_digits_l0] at hF
        refine C_seq ?_
        refine C_seq ?_
        refine C_reg (mdl []) ?_
        refine S_m (v := .int _ _) rfl ?_
        refine S_bin rfl rfl (ev_gtr ..) ?_
        refine S_nil ?_
        refine C_if (b := (decide ((9 : Int) < a10))) rfl hF (fun hb16 hF => ?_) (fun hb16 hF => ?_)
        ·
          refine WP_skip ?_
          refine WP_block ?_
          refine C_seq ?_
          refine C_reg (mdl []) ?_
          refine S_m (v := .int _ _) rfl ?_
          refine S_bin rfl rfl (e_rem rfl) ?_
          refine S_bin rfl rfl (ev_add ..) ?_
          refine S_conv rfl (e_ci ty_ki_5 ty_un_3) ?_
          obtain ⟨b17, hb17, hF⟩ := F_bind hF
          replace hb17 := u8_spec hb17
          refine S_lit0 (es := List.map c_u8 [b17]) rfl ty_el_100 rfl rfl (by simp only [List.map_cons, List.map_nil, c_u8, hb17]; rfl) ?_
          refine S_conv rfl (e_cbs ty_sl_100 ty_ki_5 ty_st_9) ?_
          refine S_m (v := .str _) rfl ?_
          refine S_cat rfl rfl hF (fun hF => ?_)
          refine S_a (v := .str _) rfl ?_
          refine S_nil ?_
          refine C_reg (mdl []) ?_
          refine S_m (v := .int _ _) rfl ?_
          refine S_bin rfl rfl (e_quo rfl) ?_
          refine S_a (v := .int _ _) rfl ?_
          refine S_nil ?_
          refine ih15 ((IntKind.wrap .i64 (Int.tdiv a10 (10 : Int))), ([b17] ++ a11)) _ hF ?_
          have hwo : WO [] [] := .nil
          exact ⟨(hwo.spec ok).1, WS.mk' (.cons (.refl _) (.cons (.refl _) .nil)) ok hwo⟩
        ·
          refine WP_exit ?_
          simp only [Exit.sel, Exit.blk, Exit.jmp, if_true, if_false, reduceIte, Nat.reduceEqDiff, Nat.succ_ne_zero, Nat.zero_ne_one, Nat.one_ne_zero]
          replace hF := hG13 _ (F_some hF)
          have hwo : WO [] [] := .nil
          exact ⟨(a10, a11), hF, (hwo.spec ok).1, WS.mk' (.cons (.refl _) (.cons (.refl _) .nil)) ok hwo⟩
    ·
      rintro ⟨a7, a8⟩ s' hF ⟨ok, hws⟩
      refine WP_ws hws ?_
      clear hws s'
      refine C_seq ?_
      refine C_reg (mdl []) ?_
      refine S_m (v := .int _ _) rfl ?_
      refine S_bin rfl rfl (ev_add ..) ?_
      refine S_conv rfl (e_ci ty_ki_5 ty_un_3) ?_
      obtain ⟨b18, hb18, hF⟩ := F_bind hF
      replace hb18 := u8_spec hb18
      refine S_lit0 (es := List.map c_u8 [b18]) rfl ty_el_100 rfl rfl (by simp only [List.map_cons, List.map_nil, c_u8, hb18]; rfl) ?_
      refine S_conv rfl (e_cbs ty_sl_100 ty_ki_5 ty_st_9) ?_
      refine S_m (v := .str _) rfl ?_
      refine S_cat rfl rfl hF (fun hF => ?_)
      refine S_a (v := .str _) rfl ?_
      refine S_nil ?_
      refine WP_ret ?_
      repeat (first | with_reducible refine Exit.sel_ret ?_ | with_reducible refine Exit.blk_ret ?_ | with_reducible refine Exit.jmp_ret ?_)
      refine C_ret (fn := Tryd.f37) rfl (.tmp (v := .str ([b18] ++ a8)) rfl .nil) ?_
      exact ⟨_, _, (.refl _), ok.wh, _, F_some hF, rfl, rfl⟩
theorem F_lecternref10_digits_w (p0 : Int) {G : (List UInt8) → Prop} (h : Heap) (hF : OptP (F_lecternref10_digits p0) G) : CallsA Tryd.prog 37 [.int .i64 p0] h fun d h' => ∃ r, G r ∧ d = .str r ∧ h' = h := F_lecternref10_digits_i FUEL p0 G h hF
theorem F_lecternref10_digits_ok {β : Type} {f : (List UInt8) → Option β} {G : β → Prop} {R : D → Heap → Prop} {p0 : Int} (h : Heap) (hF : OptP ((F_lecternref10_digits p0).bind f) G) (hk : ∀ r, F_lecternref10_digits p0 = some r → OptP (f r) G → R (.str r) h) : CallsA Tryd.prog 37 [.int .i64 p0] h R := by
  obtain ⟨r0, hr, hF⟩ := F_bind hF
  refine (F_lecternref10_digits_w (G := fun r => r = r0) p0 h ⟨r0, hr, rfl⟩).mono ?_
  rintro _ _ ⟨r, rfl, rfl, rfl⟩
  exact hk _ hr hF
theorem F_lecternref10_Show_w (p0 : List T_lecternref10_Stroke) {G : (List UInt8) → Prop} (h : Heap) (hF : OptP (F_lecternref10_Show p0) G) : CallsA Tryd.prog 17 [.sl 2 (List.map c_T_lecternref10_Stroke p0) 0] h fun d h' => ∃ r, G r ∧ d = .str r ∧ h' = h := by
  refine CallsA.ret ?_
  refine C_body Tryd.func17 rfl en_17 Tryd.ntmps17 rfl (fun ok => ?_)
  rw [F_lecternref10_Show] at hF
  refine C_seq ?_
  refine C_reg (mdl []) ?_
  refine S_a (v := .str ([] : List UInt8)) rfl ?_
  refine S_nil ?_
  refine C_seq ?_
  refine C_reg (mdl []) ?_
  refine S_a (v := .str ([] : List UInt8)) rfl ?_
  refine S_nil ?_
  refine C_join hF (fun (a61 : (List UInt8)) s' => OK h [] ∧ WS s' ⟨mkSl 47 [(3, .str a61)], Hp h []⟩) (fun J62 hF => ?_) ?_
  ·
    refine C_seq ?_
    refine C_reg (mdl []) ?_
    refine S_m (v := .sl _ _ _) rfl ?_
    refine S_lenL rfl ty_sl_27 ?_
    refine S_m (v := .int _ _) rfl ?_
    refine S_nil ?_
    refine WP_block ?_
    refine C_loop (σ := (List UInt8) × Int) hF (fun (v : (List UInt8) × Int) s' => match v with | (a63, a64) => OK h [] ∧ WS s' ⟨mkSl 47 [(3, .str a63), (9, .sl 2 (List.map c_T_lecternref10_Stroke p0) 0), (10, .int .i64 (p0.length : Int)), (11, .int .i64 a64)], Hp h []⟩) ?_ ?_
    ·
      have hwo : WO [] [] := .nil
      exact ⟨(hwo.spec ok).1, WS.mk' (.cons (.refl _) (.cons (.refl _) (.cons (.refl _) (.cons (.refl _) .nil)))) ok hwo⟩
    ·
      rintro G65 hG66 rec67 ⟨a63, a64⟩ s' ih68 hF ⟨ok, hws⟩
      refine WP_ws hws ?_
      clear hws s'
      rw [F_lecternref10_Show_l0] at hF
      refine C_seq ?_
      refine C_reg (mdl []) ?_
      refine S_bin rfl rfl (ev_lss ..) ?_
      refine S_nil ?_
      refine C_seq ?_
      refine C_if (b := (decide (a64 < (p0.length : Int)))) rfl hF (fun hb69 hF => ?_) (fun hb69 hF => ?_)
      ·
        refine WP_skip ?_
        refine C_join hF (fun (a98 : (List UInt8)) s' => OK h [] ∧ WS s' ⟨mkSl 47 [(3, .str a98), (9, .sl 2 (List.map c_T_lecternref10_Stroke p0) 0), (10, .int .i64 (p0.length : Int)), (11, .int .i64 a64)], Hp h []⟩) (fun J99 hF => ?_) ?_
        ·
          refine WP_block ?_
          refine C_seq ?_
          refine C_reg (mdl [(5, 1)]) ?_
          refine S_ix rfl rfl ty_sl_27 ty_sz_80 hF (fun x100 _ hF => ?_)
          refine S_ldQ rfl (p_agg (vs := c_T_lecternref10_Stroke x100) ty_ag_80 ty_sz_80 rfl rfl) ?_
          refine S_all1 ok rfl ty_zc_80 ?_
          intro i101 hi101 ok
          refine S_st (j := 0) (cs' := [.sl 2 (List.map c_T_lecternref10_Spot x100.Spots) 0, .bool x100.Closed]) ok rfl rfl rfl hi101 rfl ty_sz_80 rfl rfl (fun ok => ?_)
          refine S_nil ?_
          refine C_join hF (fun (a114 : (List UInt8)) s' => OK h [(i101, .cells [.sl 2 (List.map c_T_lecternref10_Spot x100.Spots) 0, .bool x100.Closed])] ∧ WS s' ⟨mkSl 47 [(3, .str a114), (5, .ptr i101 0), (9, .sl 2 (List.map c_T_lecternref10_Stroke p0) 0), (10, .int .i64 (p0.length : Int)), (11, .int .i64 a64)], Hp h [(i101, .cells [.sl 2 (List.map c_T_lecternref10_Spot x100.Spots) 0, .bool x100.Closed])]⟩) (fun J115 hF => ?_) ?_
          ·
            refine C_seq ?_
            refine C_reg (mdl []) ?_
            refine S_faP rfl ty_fd_80_0 ty_sz_78 ?_
            refine S_ldP (j := 0) ok rfl rfl rfl hi101 (p_one (v := .sl 2 (List.map c_T_lecternref10_Spot x100.Spots) 0) ty_ag_78 ty_sz_78 rfl) ?_
            refine S_lenL rfl ty_sl_78 ?_
            refine S_m (v := .int _ _) rfl ?_
            refine S_nil ?_
            refine WP_block ?_
            refine C_loop (σ := (List UInt8) × Int) hF (fun (v : (List UInt8) × Int) s' => match v with | (a116, a117) => OK h [(i101, .cells [.sl 2 (List.map c_T_lecternref10_Spot x100.Spots) 0, .bool x100.Closed])] ∧ WS s' ⟨mkSl 47 [(3, .str a116), (5, .ptr i101 0), (9, .sl 2 (List.map c_T_lecternref10_Stroke p0) 0), (10, .int .i64 (p0.length : Int)), (11, .int .i64 a64), (16, .sl 2 (List.map c_T_lecternref10_Spot x100.Spots) 0), (17, .int .i64 (x100.Spots.length : Int)), (18, .int .i64 a117)], Hp h [(i101, .cells [.sl 2 (List.map c_T_lecternref10_Spot x100.Spots) 0, .bool x100.Closed])]⟩) ?_ ?_
            ·
              have hwo : WO [(i101, .cells [.sl 2 (List.map c_T_lecternref10_Spot x100.Spots) 0, .bool x100.Closed])] [(i101, .cells [.sl 2 (List.map c_T_lecternref10_Spot x100.Spots) 0, .bool x100.Closed])] := (.keep .nil)
              exact ⟨(hwo.spec ok).1, WS.mk' (.cons (.refl _) (.cons (.refl _) (.cons (.refl _) (.cons (.refl _) (.cons (.refl _) (.cons (.refl _) (.cons (.refl _) (.cons (.refl _) .nil)))))))) ok hwo⟩
            ·
              rintro G118 hG119 rec120 ⟨a116, a117⟩ s' ih121 hF ⟨ok, hws⟩
              refine WP_ws hws ?_
              clear hws s'
              rw [F_lecternref10_Show_l1] at hF
              refine C_seq ?_
              refine C_reg (mdl []) ?_
              refine S_bin rfl rfl (ev_lss ..) ?_
              refine S_nil ?_
              refine C_seq ?_
              refine C_if (b := (decide (a117 < (x100.Spots.length : Int)))) rfl hF (fun hb122 hF => ?_) (fun hb122 hF => ?_)
              ·
                refine WP_skip ?_
                refine C_seq ?_
                refine WP_block ?_
                refine C_seq ?_
                refine C_reg (mdl [(7, 1)]) ?_
                refine S_m (v := .int _ _) rfl ?_
                refine S_ix rfl rfl ty_sl_78 ty_sz_52 hF (fun x123 _ hF => ?_)
                refine S_ldQ rfl (p_agg (vs := c_T_lecternref10_Spot x123) ty_ag_52 ty_sz_52 rfl rfl) ?_
                refine S_all1 ok rfl ty_zc_52 ?_
                intro i124 hi124 ok
                refine S_a (v := .int _ _) rfl ?_
                refine S_st (j := 0) (cs' := [.int .i64 x123.X, .int .i64 x123.Y]) ok rfl rfl rfl hi124 rfl ty_sz_52 rfl rfl (fun ok => ?_)
                refine S_nil ?_
                refine C_seq ?_
                refine C_reg (mdl []) ?_
                refine S_a (v := .str ([32, 76, 32] : List UInt8)) rfl ?_
                refine S_nil ?_
                refine C_join hF (fun (a126 : (List UInt8)) s' => OK h [(i124, .cells [.int .i64 x123.X, .int .i64 x123.Y]), (i101, .cells [.sl 2 (List.map c_T_lecternref10_Spot x100.Spots) 0, .bool x100.Closed])] ∧ WS s' ⟨mkSl 47 [(3, .str a116), (5, .ptr i101 0), (7, .ptr i124 0), (8, .str a126), (9, .sl 2 (List.map c_T_lecternref10_Stroke p0) 0), (10, .int .i64 (p0.length : Int)), (11, .int .i64 a64), (16, .sl 2 (List.map c_T_lecternref10_Spot x100.Spots) 0), (17, .int .i64 (x100.Spots.length : Int)), (18, .int .i64 a117)], Hp h [(i124, .cells [.int .i64 x123.X, .int .i64 x123.Y]), (i101, .cells [.sl 2 (List.map c_T_lecternref10_Spot x100.Spots) 0, .bool x100.Closed])]⟩) (fun J127 hF => ?_) ?_
                ·
                  refine C_seq ?_
                  refine C_reg (mdl []) ?_
                  refine S_m (v := .int _ _) rfl ?_
                  refine S_bin rfl rfl (ev_eql ..) ?_
                  refine S_nil ?_
                  refine C_if (b := (a117 == (0 : Int))) rfl hF (fun hb128 hF => ?_) (fun hb128 hF => ?_)
                  ·
                    refine C_reg (mdl []) ?_
                    refine S_a (v := .str ([32, 77, 32] : List UInt8)) rfl ?_
                    refine S_nil ?_
                    have hwo : WO [(i124, .cells [.int .i64 x123.X, .int .i64 x123.Y]), (i101, .cells [.sl 2 (List.map c_T_lecternref10_Spot x100.Spots) 0, .bool x100.Closed])] [(i124, .cells [.int .i64 x123.X, .int .i64 x123.Y]), (i101, .cells [.sl 2 (List.map c_T_lecternref10_Spot x100.Spots) 0, .bool x100.Closed])] := (.keep (.keep .nil))
                    exact ⟨([32, 77, 32] : List UInt8), hF, (hwo.spec ok).1, WS.mk' (.cons (.refl _) (.cons (.refl _) (.cons (.refl _) (.cons (.refl _) (.cons (.refl _) (.cons (.refl _) (.cons (.refl _) (.cons (.refl _) (.cons (.refl _) (.cons (.refl _) .nil)))))))))) ok hwo⟩
                  ·
                    refine WP_skip ?_
                    have hwo : WO [(i124, .cells [.int .i64 x123.X, .int .i64 x123.Y]), (i101, .cells [.sl 2 (List.map c_T_lecternref10_Spot x100.Spots) 0, .bool x100.Closed])] [(i124, .cells [.int .i64 x123.X, .int .i64 x123.Y]), (i101, .cells [.sl 2 (List.map c_T_lecternref10_Spot x100.Spots) 0, .bool x100.Closed])] := (.keep (.keep .nil))
                    exact ⟨([32, 76, 32] : List UInt8), hF, (hwo.spec ok).1, WS.mk' (.cons (.refl _) (.cons (.refl _) (.cons (.refl _) (.cons (.refl _) (.cons (.refl _) (.cons (.refl _) (.cons (.refl _) (.cons (.refl _) (.cons (.refl _) (.cons (.refl _) .nil)))))))))) ok hwo⟩
                ·
                  rintro a126 s' hF ⟨ok, hws⟩
                  refine WP_ws hws ?_
                  clear hws s'
                  refine C_fork (mdl []) [0, 1, 2, 3, 4, 8] [5, 6, 7, 9, 10, 11, 12] [9, 5, 6, 7, 10, 11, 12] [_, _, _, _, _, _] [_, _, _, _, _, _, _] [_, _, _, _, _, _, _] (by kernel_rfl) rfl rfl rfl rfl (by kernel_rfl) ?_
                  refine S_m (v := .str _) rfl ?_
                  refine S_m (v := .str _) rfl ?_
                  refine S_cat rfl rfl hF (fun hF => ?_)
                  refine S_faP rfl ty_fd_52_0 ty_sz_3 ?_
                  refine S_ldP (j := 0) ok rfl rfl rfl hi124 (p_one (v := .int .i64 x123.X) ty_ag_3 ty_sz_3 rfl) ?_
                  refine S_faP rfl ty_fd_52_1 ty_sz_3 ?_
                  refine S_nil ?_
                  refine ⟨?_, ?_⟩
                  ·
                    refine S_call (F_lecternref10_digits_ok _ hF fun x129 _ hF => ?_) (.cons (.refl _) (.nil))
                    refine S_cat rfl rfl hF (fun hF => ?_)
                    refine S_cat rfl rfl hF (fun hF => ?_)
                    refine S_ldP (j := 0) ok rfl rfl rfl hi124 (p_one (v := .int .i64 x123.Y) ty_ag_3 ty_sz_3 rfl) ?_
                    refine S_call (F_lecternref10_digits_ok _ hF fun x130 _ hF => ?_) (.cons (.refl _) (.nil))
                    refine S_cat rfl rfl hF (fun hF => ?_)
                    refine S_a (v := .str _) rfl ?_
                    refine S_nil ?_
                    refine C_reg (mdl []) ?_
                    refine S_bin rfl rfl (ev_add ..) ?_
                    refine S_m (v := .int _ _) rfl ?_
                    refine S_nil ?_
                    refine ih121 (((((a116 ++ a126) ++ x129) ++ ([32] : List UInt8)) ++ x130), (IntKind.wrap .i64 (a117 + (1 : Int)))) _ hF ?_
                    have hwo : WO [(i124, .cells [.int .i64 x123.X, .int .i64 x123.Y]), (i101, .cells [.sl 2 (List.map c_T_lecternref10_Spot x100.Spots) 0, .bool x100.Closed])] [(i101, .cells [.sl 2 (List.map c_T_lecternref10_Spot x100.Spots) 0, .bool x100.Closed])] := (.drop (.keep .nil))
                    exact ⟨(hwo.spec ok).1, WS.mk' (.cons (.refl _) (.cons (.refl _) (.cons (.refl _) (.cons (.refl _) (.cons (.refl _) (.cons (.refl _) (.cons (.refl _) (.cons (.refl _) .nil)))))))) ok hwo⟩
                  ·
                    refine S_ldP (j := 0) ok rfl rfl rfl hi124 (p_one (v := .int .i64 x123.Y) ty_ag_3 ty_sz_3 rfl) ?_
                    refine S_call (F_lecternref10_digits_ok _ hF fun x131 _ hF => ?_) (.cons (.refl _) (.nil))
                    refine S_cat rfl rfl hF (fun hF => ?_)
                    refine S_cat rfl rfl hF (fun hF => ?_)
                    refine S_call (F_lecternref10_digits_ok _ hF fun x132 _ hF => ?_) (.cons (.refl _) (.nil))
                    refine S_cat rfl rfl hF (fun hF => ?_)
                    refine S_a (v := .str _) rfl ?_
                    refine S_nil ?_
                    refine C_reg (mdl []) ?_
                    refine S_bin rfl rfl (ev_add ..) ?_
                    refine S_m (v := .int _ _) rfl ?_
                    refine S_nil ?_
                    refine ih121 (((((a116 ++ a126) ++ x131) ++ ([32] : List UInt8)) ++ x132), (IntKind.wrap .i64 (a117 + (1 : Int)))) _ hF ?_
                    have hwo : WO [(i124, .cells [.int .i64 x123.X, .int .i64 x123.Y]), (i101, .cells [.sl 2 (List.map c_T_lecternref10_Spot x100.Spots) 0, .bool x100.Closed])] [(i101, .cells [.sl 2 (List.map c_T_lecternref10_Spot x100.Spots) 0, .bool x100.Closed])] := (.drop (.keep .nil))
                    exact ⟨(hwo.spec ok).1, WS.mk' (.cons (.refl _) (.cons (.refl _) (.cons (.refl _) (.cons (.refl _) (.cons (.refl _) (.cons (.refl _) (.cons (.refl _) (.cons (.refl _) .nil)))))))) ok hwo⟩
              ·
                refine WP_exit ?_
                simp only [Exit.sel, Exit.blk, Exit.jmp, if_true, if_false, reduceIte, Nat.reduceEqDiff, Nat.succ_ne_zero, Nat.zero_ne_one, Nat.one_ne_zero]
                replace hF := hG119 _ (F_some hF)
                have hwo : WO [(i101, .cells [.sl 2 (List.map c_T_lecternref10_Spot x100.Spots) 0, .bool x100.Closed])] [(i101, .cells [.sl 2 (List.map c_T_lecternref10_Spot x100.Spots) 0, .bool x100.Closed])] := (.keep .nil)
                exact ⟨a116, hF, (hwo.spec ok).1, WS.mk' (.cons (.refl _) (.cons (.refl _) (.cons (.refl _) (.cons (.refl _) (.cons (.refl _) .nil))))) ok hwo⟩
          ·
            rintro a114 s' hF ⟨ok, hws⟩
            refine WP_ws hws ?_
            clear hws s'
            refine C_seq ?_
            refine C_reg (mdl []) ?_
            refine S_faP rfl ty_fd_80_1 ty_sz_4 ?_
            refine S_ldP (j := 0) ok rfl rfl rfl hi101 (p_one (v := .bool x100.Closed) ty_ag_4 ty_sz_4 rfl) ?_
            refine S_nil ?_
            refine C_if (b := x100.Closed) rfl hF (fun hb133 hF => ?_) (fun hb133 hF => ?_)
            ·
              refine C_reg (mdl []) ?_
              refine S_m (v := .str _) rfl ?_
              refine S_cat rfl rfl hF (fun hF => ?_)
              refine S_a (v := .str _) rfl ?_
              refine S_nil ?_
              have hwo : WO [(i101, .cells [.sl 2 (List.map c_T_lecternref10_Spot x100.Spots) 0, .bool x100.Closed])] [] := (.drop .nil)
              exact ⟨(a114 ++ ([32, 90] : List UInt8)), hF, (hwo.spec ok).1, WS.mk' (.cons (.refl _) (.cons (.refl _) (.cons (.refl _) (.cons (.refl _) .nil)))) ok hwo⟩
            ·
              refine WP_skip ?_
              have hwo : WO [(i101, .cells [.sl 2 (List.map c_T_lecternref10_Spot x100.Spots) 0, .bool x100.Closed])] [] := (.drop .nil)
              exact ⟨a114, hF, (hwo.spec ok).1, WS.mk' (.cons (.refl _) (.cons (.refl _) (.cons (.refl _) (.cons (.refl _) .nil)))) ok hwo⟩
        ·
          rintro a98 s' hF ⟨ok, hws⟩
          refine WP_ws hws ?_
          clear hws s'
          refine C_reg (mdl []) ?_
          refine S_bin rfl rfl (ev_add ..) ?_
          refine S_m (v := .int _ _) rfl ?_
          refine S_nil ?_
          refine ih68 (a98, (IntKind.wrap .i64 (a64 + (1 : Int)))) _ hF ?_
          have hwo : WO [] [] := .nil
          exact ⟨(hwo.spec ok).1, WS.mk' (.cons (.refl _) (.cons (.refl _) (.cons (.refl _) (.cons (.refl _) .nil)))) ok hwo⟩
      ·
        refine WP_exit ?_
        simp only [Exit.sel, Exit.blk, Exit.jmp, if_true, if_false, reduceIte, Nat.reduceEqDiff, Nat.succ_ne_zero, Nat.zero_ne_one, Nat.one_ne_zero]
        replace hF := hG66 _ (F_some hF)
        have hwo : WO [] [] := .nil
        exact ⟨a63, hF, (hwo.spec ok).1, WS.mk' (.cons (.refl _) .nil) ok hwo⟩
  ·
    rintro a61 s' hF ⟨ok, hws⟩
    refine WP_ws hws ?_
    clear hws s'
    refine C_seq ?_
    refine C_seq ?_
    refine C_reg (mdl []) ?_
    refine S_m (v := .str _) rfl ?_
    refine S_bin rfl rfl e_seql ?_
    refine S_nil ?_
    refine C_if (b := (a61 == ([] : List UInt8))) rfl hF (fun hb134 hF => ?_) (fun hb134 hF => ?_)
    ·
      refine C_seq ?_
      refine C_reg (mdl []) ?_
      refine S_a (v := .str ([] : List UInt8)) rfl ?_
      refine S_nil ?_
      refine WP_ret ?_
      repeat (first | with_reducible refine Exit.sel_ret ?_ | with_reducible refine Exit.blk_ret ?_ | with_reducible refine Exit.jmp_ret ?_)
      refine C_ret (fn := Tryd.f17) rfl (.tmp (v := .str ([] : List UInt8)) rfl .nil) ?_
      exact ⟨_, _, (.refl _), ok.wh, _, F_some hF, rfl, rfl⟩
    ·
      refine WP_skip ?_
      refine C_seq ?_
      refine C_reg (mdl []) ?_
      refine S_m (v := .str _) rfl ?_
      refine S_slS rfl ty_st_9 (bd_at rfl) bd_no hF (fun x135 _ hF => ?_)
      refine S_a (v := .str _) rfl ?_
      refine S_nil ?_
      refine WP_ret ?_
      repeat (first | with_reducible refine Exit.sel_ret ?_ | with_reducible refine Exit.blk_ret ?_ | with_reducible refine Exit.jmp_ret ?_)
      refine C_ret (fn := Tryd.f17) rfl (.tmp (v := .str x135) rfl .nil) ?_
      exact ⟨_, _, (.refl _), ok.wh, _, F_some hF, rfl, rfl⟩
theorem F_lecternref10_Show_ok {β : Type} {f : (List UInt8) → Option β} {G : β → Prop} {R : D → Heap → Prop} {p0 : List T_lecternref10_Stroke} (h : Heap) (hF : OptP ((F_lecternref10_Show p0).bind f) G) (hk : ∀ r, F_lecternref10_Show p0 = some r → OptP (f r) G → R (.str r) h) : CallsA Tryd.prog 17 [.sl 2 (List.map c_T_lecternref10_Stroke p0) 0] h R := by
  obtain ⟨r0, hr, hF⟩ := F_bind hF
  refine (F_lecternref10_Show_w (G := fun r => r = r0) p0 h ⟨r0, hr, rfl⟩).mono ?_
  rintro _ _ ⟨r, rfl, rfl, rfl⟩
  exact hk _ hr hF
theorem F_lecternlaw10_TraceShows_w (p0 : List T_lecternlaw10_Line) {G : Bool → Prop} (h : Heap) (hF : OptP (F_lecternlaw10_TraceShows p0) G) : CallsA Tryd.prog 4 [.sl 2 (List.map c_T_lecternlaw10_Line p0) 0] h fun d h' => ∃ r, G r ∧ d = .bool r := by
  refine CallsA.ret ?_
  refine C_body Tryd.func4 rfl en_4 Tryd.ntmps4 rfl (fun ok => ?_)
  rw [F_lecternlaw10_TraceShows] at hF
  refine C_seq ?_
  refine C_reg (mdl []) ?_
  refine S_a (v := .bool _) rfl ?_
  refine S_nil ?_
  refine C_seq ?_
  refine C_seq ?_
  refine C_reg (mdl []) ?_
  refine S_call (F_lecternlaw10_awake_ok _ hF fun x1 _ hF => ?_) (.nil)
  refine S_un rfl (ev_not _) ?_
  refine S_nil ?_
  refine C_if (b := (!x1)) rfl hF (fun hb2 hF => ?_) (fun hb2 hF => ?_)
  ·
    refine C_seq ?_
    refine C_reg (mdl []) ?_
    refine S_a (v := .bool _) rfl ?_
    refine S_nil ?_
    refine WP_ret ?_
    repeat (first | with_reducible refine Exit.sel_ret ?_ | with_reducible refine Exit.blk_ret ?_ | with_reducible refine Exit.jmp_ret ?_)
    refine C_ret (fn := Tryd.f4) rfl (.tmp (v := .bool false) rfl .nil) ?_
    exact ⟨_, _, (.refl _), WH.refl _, _, F_some hF, rfl⟩
  ·
    refine WP_skip ?_
    refine C_seq ?_
    refine C_reg (mdl []) ?_
    refine S_m (v := .sl _ _ _) rfl ?_
    refine S_call (F_lecternlaw10_figure_ok _ hF fun x3 _ hF => ?_) (.cons (.refl _) (.nil))
    refine S_m (v := .tup _) rfl ?_
    refine S_ext rfl rfl ?_
    refine S_ext rfl rfl ?_
    refine S_ext rfl rfl ?_
    refine S_a (v := .sl _ _ _) rfl ?_
    refine S_a (v := .sl _ _ _) rfl ?_
    refine S_a (v := .bool _) rfl ?_
    refine S_nil ?_
    refine C_seq ?_
    refine C_reg (mdl []) ?_
    refine S_m (v := .sl _ _ _) rfl ?_
    refine S_call (F_trace_Show_ok _ hF fun x4 _ hF => ?_) (.cons (.refl _) (.nil))
    refine S_m (v := .tup _) rfl ?_
    refine S_ext rfl rfl ?_
    refine S_ext rfl rfl ?_
    refine S_a (v := .str _) rfl ?_
    refine S_a (v := .int _ _) rfl ?_
    refine S_nil ?_
    refine C_seq ?_
    refine C_seq ?_
    refine C_reg (mdl []) ?_
    refine S_m (v := .bool _) rfl ?_
    refine S_un rfl (ev_not _) ?_
    refine S_nil ?_
    refine C_if (b := (!x3.2.2)) rfl hF (fun hb5 hF => ?_) (fun hb5 hF => ?_)
    ·
      refine C_seq ?_
      refine C_reg (mdl []) ?_
      refine S_m (v := .int _ _) rfl ?_
      refine S_bin rfl rfl (ev_eql ..) ?_
      refine S_m (v := .bool _) rfl ?_
      refine S_two (b := (x4.2 == (1 : Int))) 3 28 (.bool ((x4.2 == (1 : Int)) && (x4.1 == ([] : List UInt8)))) (fun hb6 => ?_) (fun hb6 => ?_) ?_
      ·
        refine S_on rfl rfl hb6 ?_
        refine S_in ?_
        refine S_m (v := .str _) rfl ?_
        refine S_nil ?_
        refine S_on rfl rfl hb6 ?_
        refine S_in ?_
        refine S_bin rfl rfl e_seql ?_
        refine S_nil ?_
        refine S_pickT (v := .bool _) rfl hb6 rfl ?_
        refine S_nil ?_
        refine .hd (and_t hb6) ?_
        repeat (first | with_reducible exact WS.refl _ | refine WS.add ?_ rfl)
      ·
        refine S_off rfl rfl hb6 ?_
        refine S_offD ?_
        refine S_off rfl rfl hb6 ?_
        refine S_offD ?_
        refine S_pickF (v := .bool _) rfl hb6 rfl ?_
        refine S_nil ?_
        refine .hd (and_f hb6) ?_
        repeat (first | with_reducible exact WS.refl _ | refine WS.add ?_ rfl)
      refine S_a (v := .bool _) rfl ?_
      refine S_nil ?_
      refine WP_ret ?_
      repeat (first | with_reducible refine Exit.sel_ret ?_ | with_reducible refine Exit.blk_ret ?_ | with_reducible refine Exit.jmp_ret ?_)
      refine C_ret (fn := Tryd.f4) rfl (.tmp (v := .bool ((x4.2 == (1 : Int)) && (x4.1 == ([] : List UInt8)))) rfl .nil) ?_
      exact ⟨_, _, (.refl _), WH.refl _, _, F_some hF, rfl⟩
    ·
      refine WP_skip ?_
      refine C_seq ?_
      refine C_reg (mdl []) ?_
      refine S_m (v := .int _ _) rfl ?_
      refine S_bin rfl rfl (ev_eql ..) ?_
      refine S_m (v := .bool _) rfl ?_
      refine S_twoJ 5 36 hF (fun J8 hb7 hF => ?_) (fun J8 hb7 hF => ?_) (fun v9 hF => ?_)
      ·
        refine S_on rfl rfl hb7 ?_
        refine S_in ?_
        refine S_m (v := .str _) rfl ?_
        refine S_nil ?_
        refine S_on rfl rfl hb7 ?_
        refine S_in ?_
        refine S_m (v := .sl _ _ _) rfl ?_
        refine S_nil ?_
        refine S_on rfl rfl hb7 ?_
        refine S_in ?_
        refine S_call (F_lecternref10_Show_ok _ hF fun x10 _ hF => ?_) (.cons (.refl _) (.nil))
        refine S_nil ?_
        refine S_on rfl rfl hb7 ?_
        refine S_in ?_
        refine S_bin rfl rfl e_seql ?_
        refine S_nil ?_
        refine S_pickT (v := .bool _) rfl hb7 rfl ?_
        refine S_nil ?_
        refine ⟨_, hF, .hd (.refl _) ?_⟩
        repeat (first | with_reducible exact WS.refl _ | refine WS.add ?_ rfl)
      ·
        refine S_off rfl rfl hb7 ?_
        refine S_offD ?_
        refine S_off rfl rfl hb7 ?_
        refine S_offD ?_
        refine S_off rfl rfl hb7 ?_
        refine S_offD ?_
        refine S_off rfl rfl hb7 ?_
        refine S_offD ?_
        refine S_pickF (v := .bool _) rfl hb7 rfl ?_
        refine S_nil ?_
        refine ⟨_, hF, .hd (.refl _) ?_⟩
        repeat (first | with_reducible exact WS.refl _ | refine WS.add ?_ rfl)
      ·
        refine S_a (v := .bool _) rfl ?_
        refine S_nil ?_
        refine WP_ret ?_
        repeat (first | with_reducible refine Exit.sel_ret ?_ | with_reducible refine Exit.blk_ret ?_ | with_reducible refine Exit.jmp_ret ?_)
        refine C_ret (fn := Tryd.f4) rfl (.tmp (v := .bool v9) rfl .nil) ?_
        exact ⟨_, _, (.refl _), WH.refl _, _, F_some hF, rfl⟩
theorem F_lecternlaw10_fits_w (p0 : Int) (p1 : Int) {G : Bool → Prop} (h : Heap) (hF : OptP (F_lecternlaw10_fits p0 p1) G) : CallsA Tryd.prog 22 [.int .i64 p0, .int .i64 p1] h fun d h' => ∃ r, G r ∧ d = .bool r ∧ h' = h := by
  refine CallsA.ret ?_
  refine C_body Tryd.func22 rfl en_22 Tryd.ntmps22 rfl (fun ok => ?_)
  rw [F_lecternlaw10_fits] at hF
  refine C_seq ?_
  refine C_reg (mdl []) ?_
  refine S_a (v := .bool _) rfl ?_
  refine S_nil ?_
  refine C_seq ?_
  refine C_reg (mdl []) ?_
  refine S_m (v := .int _ _) rfl ?_
  refine S_bin rfl rfl (ev_geq ..) ?_
  refine S_m (v := .bool _) rfl ?_
  refine S_two (b := (decide ((-1000000 : Int) ≤ p0))) 3 10 (.bool ((decide ((-1000000 : Int) ≤ p0)) && (decide (p0 ≤ (1000000 : Int))))) (fun hb1 => ?_) (fun hb1 => ?_) ?_
  ·
    refine S_on rfl rfl hb1 ?_
    refine S_in ?_
    refine S_m (v := .int _ _) rfl ?_
    refine S_nil ?_
    refine S_on rfl rfl hb1 ?_
    refine S_in ?_
    refine S_bin rfl rfl (ev_leq ..) ?_
    refine S_nil ?_
    refine S_pickT (v := .bool _) rfl hb1 rfl ?_
    refine S_nil ?_
    refine .hd (and_t hb1) ?_
    repeat (first | with_reducible exact WS.refl _ | refine WS.add ?_ rfl)
  ·
    refine S_off rfl rfl hb1 ?_
    refine S_offD ?_
    refine S_off rfl rfl hb1 ?_
    refine S_offD ?_
    refine S_pickF (v := .bool _) rfl hb1 rfl ?_
    refine S_nil ?_
    refine .hd (and_f hb1) ?_
    repeat (first | with_reducible exact WS.refl _ | refine WS.add ?_ rfl)
  refine S_m (v := .bool _) rfl ?_
  refine S_two (b := ((decide ((-1000000 : Int) ≤ p0)) && (decide (p0 ≤ (1000000 : Int))))) 3 14 (.bool (((decide ((-1000000 : Int) ≤ p0)) && (decide (p0 ≤ (1000000 : Int)))) && (decide ((-1000000 : Int) ≤ p1)))) (fun hb2 => ?_) (fun hb2 => ?_) ?_
  ·
    refine S_on rfl rfl hb2 ?_
    refine S_in ?_
    refine S_m (v := .int _ _) rfl ?_
    refine S_nil ?_
    refine S_on rfl rfl hb2 ?_
    refine S_in ?_
    refine S_bin rfl rfl (ev_geq ..) ?_
    refine S_nil ?_
    refine S_pickT (v := .bool _) rfl hb2 rfl ?_
    refine S_nil ?_
    refine .hd (and_t hb2) ?_
    repeat (first | with_reducible exact WS.refl _ | refine WS.add ?_ rfl)
  ·
    refine S_off rfl rfl hb2 ?_
    refine S_offD ?_
    refine S_off rfl rfl hb2 ?_
    refine S_offD ?_
    refine S_pickF (v := .bool _) rfl hb2 rfl ?_
    refine S_nil ?_
    refine .hd (and_f hb2) ?_
    repeat (first | with_reducible exact WS.refl _ | refine WS.add ?_ rfl)
  refine S_m (v := .bool _) rfl ?_
  refine S_two (b := (((decide ((-1000000 : Int) ≤ p0)) && (decide (p0 ≤ (1000000 : Int)))) && (decide ((-1000000 : Int) ≤ p1)))) 3 18 (.bool ((((decide ((-1000000 : Int) ≤ p0)) && (decide (p0 ≤ (1000000 : Int)))) && (decide ((-1000000 : Int) ≤ p1))) && (decide (p1 ≤ (1000000 : Int))))) (fun hb3 => ?_) (fun hb3 => ?_) ?_
  ·
    refine S_on rfl rfl hb3 ?_
    refine S_in ?_
    refine S_m (v := .int _ _) rfl ?_
    refine S_nil ?_
    refine S_on rfl rfl hb3 ?_
    refine S_in ?_
    refine S_bin rfl rfl (ev_leq ..) ?_
    refine S_nil ?_
    refine S_pickT (v := .bool _) rfl hb3 rfl ?_
    refine S_nil ?_
    refine .hd (and_t hb3) ?_
    repeat (first | with_reducible exact WS.refl _ | refine WS.add ?_ rfl)
  ·
    refine S_off rfl rfl hb3 ?_
    refine S_offD ?_
    refine S_off rfl rfl hb3 ?_
    refine S_offD ?_
    refine S_pickF (v := .bool _) rfl hb3 rfl ?_
    refine S_nil ?_
    refine .hd (and_f hb3) ?_
    repeat (first | with_reducible exact WS.refl _ | refine WS.add ?_ rfl)
  refine S_a (v := .bool _) rfl ?_
  refine S_nil ?_
  refine WP_ret ?_
  repeat (first | with_reducible refine Exit.sel_ret ?_ | with_reducible refine Exit.blk_ret ?_ | with_reducible refine Exit.jmp_ret ?_)
  refine C_ret (fn := Tryd.f22) rfl (.tmp (v := .bool ((((decide ((-1000000 : Int) ≤ p0)) && (decide (p0 ≤ (1000000 : Int)))) && (decide ((-1000000 : Int) ≤ p1))) && (decide (p1 ≤ (1000000 : Int))))) rfl .nil) ?_
  exact ⟨_, _, (.refl _), ok.wh, _, F_some hF, rfl, rfl⟩
theorem F_lecternlaw10_fits_ok {β : Type} {f : Bool → Option β} {G : β → Prop} {R : D → Heap → Prop} {p0 : Int} {p1 : Int} (h : Heap) (hF : OptP ((F_lecternlaw10_fits p0 p1).bind f) G) (hk : ∀ r, F_lecternlaw10_fits p0 p1 = some r → OptP (f r) G → R (.bool r) h) : CallsA Tryd.prog 22 [.int .i64 p0, .int .i64 p1] h R := by
  obtain ⟨r0, hr, hF⟩ := F_bind hF
  refine (F_lecternlaw10_fits_w (G := fun r => r = r0) p0 p1 h ⟨r0, hr, rfl⟩).mono ?_
  rintro _ _ ⟨r, rfl, rfl, rfl⟩
  exact hk _ hr hF
end Go.Proofs.YtocfjohangcajaaDoor
