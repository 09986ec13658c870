/- The walks. No condition. -/
import Derived.Test.YtagdcieobfcpmaaPfO
import Derived.Test.YtagdcieobfcpmaaTcO
set_option linter.unusedVariables false
set_option linter.unusedSimpArgs false
set_option maxRecDepth 20000
set_option maxHeartbeats 1000000
namespace Go.Proofs.Ytagdcieobfcpmaa
theorem F_lecternref05_SameInts_w (p0 : List Int) (p1 : List Int) {G : Bool → Prop} (h : Heap) (hF : OptP (F_lecternref05_SameInts p0 p1) G) : CallsA Try.prog 12 [.sl 1 (List.map c_i64 p0) 0, .sl 1 (List.map c_i64 p1) 0] h fun d h' => ∃ r, G r ∧ d = .bool r ∧ h' = h := by
  refine CallsA.ret ?_
  refine C_body Try.func12 rfl en_12 Try.ntmps12 rfl (fun ok => ?_)
  rw [F_lecternref05_SameInts] at hF
  refine C_seq ?_
  refine C_reg (mdl []) ?_
  refine S_a (v := .bool _) rfl ?_
  refine S_nil ?_
  refine C_seq ?_
  refine C_seq ?_
  refine C_reg (mdl []) ?_
  refine S_m (v := .sl _ _ _) rfl ?_
  refine S_lenL rfl ty_sl_22 ?_
  refine S_m (v := .sl _ _ _) rfl ?_
  refine S_lenL rfl ty_sl_22 ?_
  refine S_bin rfl rfl (ev_neq ..) ?_
  refine S_nil ?_
  refine C_if (b := ((p0.length : Int) != (p1.length : Int))) rfl hF (fun hb1 hF => ?_) (fun hb1 hF => ?_)
  ·
    refine C_seq ?_
    refine C_reg (mdl []) ?_
    refine S_a (v := .bool _) rfl ?_
    refine S_nil ?_
    refine WP_ret ?_
    repeat (first | with_reducible refine Exit.sel_ret ?_ | with_reducible refine Exit.blk_ret ?_)
    refine C_ret (fn := Try.f12) rfl (.tmp (v := .bool false) rfl .nil) ?_
    exact ⟨_, _, (.refl _), ok.wh, _, F_some hF, rfl, rfl⟩
  ·
    refine WP_skip ?_
    refine C_join hF (fun (_ : Unit) s' => OK h [] ∧ WS s' ⟨mkSl 26 [], Hp h []⟩) (fun J7 hF => ?_) ?_
    ·
      refine C_seq ?_
      refine C_reg (mdl []) ?_
      refine S_m (v := .sl _ _ _) rfl ?_
      refine S_lenL rfl ty_sl_22 ?_
      refine S_m (v := .int _ _) rfl ?_
      refine S_nil ?_
      refine WP_block ?_
      refine C_loop (σ := Int) hF (fun (a8 : Int) s' => OK h [] ∧ WS s' ⟨mkSl 26 [(0, .sl 1 (List.map c_i64 p0) 0), (1, .sl 1 (List.map c_i64 p1) 0), (12, .int .i64 (p0.length : Int)), (13, .int .i64 a8)], Hp h []⟩) ?_ ?_
      ·
        have hwo : WO [] [] := .nil
        exact ⟨(hwo.spec ok).1, WS.mk' (.cons (.refl _) (.cons (.refl _) (.cons (.refl _) (.cons (.refl _) .nil)))) ok hwo⟩
      ·
        rintro G9 hG10 rec11 a8 s' ih12 hF ⟨ok, hws⟩
        refine WP_ws hws ?_
        clear hws s'
        rw [F_lecternref05_SameInts_l0] at hF
        refine C_seq ?_
        refine C_reg (mdl []) ?_
        refine S_bin rfl rfl (ev_lss ..) ?_
        refine S_nil ?_
        refine C_seq ?_
        refine C_if (b := (decide (a8 < (p0.length : Int)))) rfl hF (fun hb13 hF => ?_) (fun hb13 hF => ?_)
        ·
          refine WP_skip ?_
          refine C_seq ?_
          refine WP_block ?_
          refine C_seq ?_
          refine C_reg (mdl []) ?_
          refine S_m (v := .int _ _) rfl ?_
          refine S_a (v := .int _ _) rfl ?_
          refine S_nil ?_
          refine C_seq ?_
          refine C_drw (mdl [(19, 3), (23, 3)]) (by kernel_rfl) (by kernel_rfl) ?_
          refine S_m (v := .sl _ _ _) rfl ?_
          refine S_m (v := .int _ _) rfl ?_
          refine S_ix rfl rfl ty_sl_22 ty_sz_3 hF (fun x14 _ hF => ?_)
          refine S_ldQ rfl (p_one ty_ag_3 ty_sz_3 rfl) ?_
          refine S_m (v := .sl _ _ _) rfl ?_
          refine S_m (v := .int _ _) rfl ?_
          refine S_ix rfl rfl ty_sl_22 ty_sz_3 hF (fun x15 _ hF => ?_)
          refine S_ldQ rfl (p_one ty_ag_3 ty_sz_3 rfl) ?_
          refine S_bin rfl rfl (ev_neq ..) ?_
          refine S_nil ?_
          refine C_if (b := (x14 != x15)) rfl hF (fun hb16 hF => ?_) (fun hb16 hF => ?_)
          ·
            refine C_seq ?_
            refine C_reg (mdl []) ?_
            refine S_a (v := .bool _) rfl ?_
            refine S_nil ?_
            refine WP_ret ?_
            replace hF := hG10 _ (F_some hF)
            repeat (first | with_reducible refine Exit.sel_ret ?_ | with_reducible refine Exit.blk_ret ?_)
            refine C_ret (fn := Try.f12) rfl (.tmp (v := .bool false) rfl .nil) ?_
            exact ⟨_, _, (.refl _), ok.wh, _, F_some hF, rfl, rfl⟩
          ·
            refine WP_skip ?_
            refine C_reg (mdl []) ?_
            refine S_bin rfl rfl (ev_add ..) ?_
            refine S_m (v := .int _ _) rfl ?_
            refine S_nil ?_
            refine ih12 (IntKind.wrap .i64 (a8 + (1 : Int))) _ hF ?_
            have hwo : WO [] [] := .nil
            exact ⟨(hwo.spec ok).1, WS.mk' (.cons (.refl _) (.cons (.refl _) (.cons (.refl _) (.cons (.refl _) .nil)))) ok hwo⟩
        ·
          refine WP_exit ?_
          simp only [Exit.sel, Exit.blk, if_true, if_false, reduceIte, Nat.reduceEqDiff, Nat.succ_ne_zero, Nat.zero_ne_one, Nat.one_ne_zero]
          replace hF := hG10 _ (F_some hF)
          have hwo : WO [] [] := .nil
          exact ⟨(), hF, (hwo.spec ok).1, WS.mk' .nil ok hwo⟩
    ·
      rintro ⟨⟩ s' hF ⟨ok, hws⟩
      refine WP_ws hws ?_
      clear hws s'
      refine C_seq ?_
      refine C_reg (mdl []) ?_
      refine S_a (v := .bool _) rfl ?_
      refine S_nil ?_
      refine WP_ret ?_
      repeat (first | with_reducible refine Exit.sel_ret ?_ | with_reducible refine Exit.blk_ret ?_)
      refine C_ret (fn := Try.f12) rfl (.tmp (v := .bool true) rfl .nil) ?_
      exact ⟨_, _, (.refl _), ok.wh, _, F_some hF, rfl, rfl⟩
theorem F_lecternref05_SameInts_ok {β : Type} {f : Bool → Option β} {G : β → Prop} {R : D → Heap → Prop} {p0 : List Int} {p1 : List Int} (h : Heap) (hF : OptP ((F_lecternref05_SameInts p0 p1).bind f) G) (hk : ∀ r, F_lecternref05_SameInts p0 p1 = some r → OptP (f r) G → R (.bool r) h) : CallsA Try.prog 12 [.sl 1 (List.map c_i64 p0) 0, .sl 1 (List.map c_i64 p1) 0] h R := by
  obtain ⟨r0, hr, hF⟩ := F_bind hF
  refine (F_lecternref05_SameInts_w (G := fun r => r = r0) p0 p1 h ⟨r0, hr, rfl⟩).mono ?_
  rintro _ _ ⟨r, rfl, rfl, rfl⟩
  exact hk _ hr hF
theorem F_lecternlaw16_CacheOrders_w (p0 : Int) (p1 : List Int) {G : Bool → Prop} (h : Heap) (hF : OptP (F_lecternlaw16_CacheOrders p0 p1) G) : CallsA Try.prog 3 [.int .i64 p0, .sl 1 (List.map c_i64 p1) 0] h fun d h' => ∃ r, G r ∧ d = .bool r := by
  refine CallsA.ret ?_
  refine C_body Try.func3 rfl en_3 Try.ntmps3 rfl (fun ok => ?_)
  rw [F_lecternlaw16_CacheOrders] at hF
  refine C_seq ?_
  refine C_reg (mdl []) ?_
  refine S_a (v := .bool _) rfl ?_
  refine S_nil ?_
  refine C_seq ?_
  refine C_seq ?_
  refine C_reg (mdl []) ?_
  refine S_awake ok (fun m1 ok => ?_)
  refine S_un rfl (ev_not _) ?_
  refine S_nil ?_
  refine C_ff rfl rfl ?_
  refine WP_skip ?_
  refine C_seq ?_
  refine C_reg (mdl []) ?_
  refine S_m (v := .int _ _) rfl ?_
  refine S_conv rfl (e_ci ty_ki_24 ty_un_3) ?_
  refine S_bin rfl rfl (e_rem rfl) ?_
  refine S_conv rfl (e_ci ty_ki_3 ty_un_24) ?_
  refine S_bin rfl rfl (ev_add ..) ?_
  refine S_a (v := .int _ _) rfl ?_
  refine S_nil ?_
  refine C_seq ?_
  refine C_reg (mdl []) ?_
  refine S_m (v := .int _ _) rfl ?_
  refine I.S_new ok rfl hF (fun c2 m3 f4 ok hC hF => ?_) (fun hF => ?_)
  ·
    refine S_m (v := .tup _) rfl ?_
    refine S_ext rfl rfl ?_
    refine S_ext rfl rfl ?_
    refine S_a (v := .ptr _ _) rfl ?_
    refine S_a (v := .int _ _) rfl ?_
    refine S_nil ?_
    refine C_seq ?_
    refine C_seq ?_
    refine C_reg (mdl []) ?_
    refine S_m (v := .ptr _ _) rfl ?_
    refine S_bin rfl rfl (e_pn (by rw [ty_pt_25]; rfl)) ?_
    refine S_m (v := .bool _) rfl ?_
    refine S_on rfl rfl rfl ?_
    refine S_in ?_
    refine S_m (v := .int _ _) rfl ?_
    refine S_nil ?_
    refine S_on rfl rfl rfl ?_
    refine S_in ?_
    refine S_bin rfl rfl (ev_neq ..) ?_
    refine S_nil ?_
    refine S_pickF (v := .bool _) rfl rfl rfl ?_
    refine S_m (v := .bool _) rfl ?_
    refine S_two (b := ((0 : Int) != (0 : Int))) 4 38 (.bool (((0 : Int) != (0 : Int)) || (decide ((300 : Int) < (p1.length : Int))))) (fun hb6 => ?_) (fun hb6 => ?_) ?_
    ·
      refine S_off rfl rfl hb6 ?_
      refine S_offD ?_
      refine S_off rfl rfl hb6 ?_
      refine S_offD ?_
      refine S_off rfl rfl hb6 ?_
      refine S_offD ?_
      refine S_pickT (v := .bool _) rfl hb6 rfl ?_
      refine S_nil ?_
      refine .hd (or_t hb6) ?_
      repeat (first | with_reducible exact WS.refl _ | refine WS.add ?_ rfl)
    ·
      refine S_on rfl rfl hb6 ?_
      refine S_in ?_
      refine S_m (v := .sl _ _ _) rfl ?_
      refine S_nil ?_
      refine S_on rfl rfl hb6 ?_
      refine S_in ?_
      refine S_lenL rfl ty_sl_22 ?_
      refine S_nil ?_
      refine S_on rfl rfl hb6 ?_
      refine S_in ?_
      refine S_bin rfl rfl (ev_gtr ..) ?_
      refine S_nil ?_
      refine S_pickF (v := .bool _) rfl hb6 rfl ?_
      refine S_nil ?_
      refine .hd (or_f hb6) ?_
      repeat (first | with_reducible exact WS.refl _ | refine WS.add ?_ rfl)
    refine S_nil ?_
    refine C_if (b := (((0 : Int) != (0 : Int)) || (decide ((300 : Int) < (p1.length : Int))))) rfl hF (fun hb7 hF => ?_) (fun hb7 hF => ?_)
    ·
      refine C_seq ?_
      refine C_reg (mdl []) ?_
      refine S_m (v := .sl _ _ _) rfl ?_
      refine S_lenL rfl ty_sl_22 ?_
      refine S_bin rfl rfl (ev_gtr ..) ?_
      refine S_a (v := .bool _) rfl ?_
      refine S_nil ?_
      refine WP_ret ?_
      repeat (first | with_reducible refine Exit.sel_ret ?_ | with_reducible refine Exit.blk_ret ?_)
      refine C_ret (fn := Try.f3) rfl (.tmp (v := .bool (decide ((300 : Int) < (p1.length : Int)))) rfl .nil) ?_
      exact ⟨_, _, (.refl _), WH.refl _, _, F_some hF, rfl⟩
    ·
      refine WP_skip ?_
      refine C_seq ?_
      refine C_reg (mdl []) ?_
      refine S_a (v := .snil) rfl ?_
      refine S_one 8 (v := .sl 1 (List.map c_i64 ([] : List Int)) 0) (.nil _) ?_
      refine S_nil ?_
      refine C_join hF (fun (v : (List I.Ent) × (List Int)) s' => match v with | (a117, a119) => ∃ (m116 : Heap) (f118 : List Nat), I.CaL m116 c2 f118 (IntKind.wrap .i64 ((1 : Int) + (IntKind.wrap .i64 (Int.tmod (IntKind.wrap .u64 p0) (20 : Int))))) a117 ∧ OK m116 [] ∧ WS s' ⟨mkSl 99 [(6, .ptr c2 0), (8, .sl 1 (List.map c_i64 a119) 0)], Hp m116 []⟩) (fun J120 hF => ?_) ?_
      ·
        refine C_seq ?_
        refine C_reg (mdl []) ?_
        refine S_m (v := .sl _ _ _) rfl ?_
        refine S_lenL rfl ty_sl_22 ?_
        refine S_m (v := .int _ _) rfl ?_
        refine S_nil ?_
        refine WP_block ?_
        refine C_loop (σ := (List I.Ent) × (List Int) × Int) hF (fun (v : (List I.Ent) × (List Int) × Int) s' => match v with | (a122, a124, a125) => ∃ (m121 : Heap) (f123 : List Nat), I.CaL m121 c2 f123 (IntKind.wrap .i64 ((1 : Int) + (IntKind.wrap .i64 (Int.tmod (IntKind.wrap .u64 p0) (20 : Int))))) a122 ∧ OK m121 [] ∧ WS s' ⟨mkSl 99 [(5, .int .i64 (IntKind.wrap .i64 ((1 : Int) + (IntKind.wrap .i64 (Int.tmod (IntKind.wrap .u64 p0) (20 : Int)))))), (6, .ptr c2 0), (8, .sl 1 (List.map c_i64 a124) 0), (42, .sl 1 (List.map c_i64 p1) 0), (43, .int .i64 (p1.length : Int)), (44, .int .i64 a125)], Hp m121 []⟩) ?_ ?_
        ·
          have hwo : WO [] [] := .nil
          exact ⟨m3, f4, hC, (hwo.spec ok).1, WS.mk' (.cons (.refl _) (.cons (.refl _) (.cons (.refl _) (.cons (.refl _) (.cons (.refl _) (.cons (.refl _) .nil)))))) ok hwo⟩
        ·
          rintro G126 hG127 rec128 ⟨a122, a124, a125⟩ s' ih129 hF ⟨m121, f123, hC, ok, hws⟩
          refine WP_ws hws ?_
          clear hws s'
          rw [F_lecternlaw16_CacheOrders_l0] at hF
          refine C_seq ?_
          refine C_reg (mdl []) ?_
          refine S_bin rfl rfl (ev_lss ..) ?_
          refine S_nil ?_
          refine C_seq ?_
          refine C_if (b := (decide (a125 < (p1.length : Int)))) rfl hF (fun hb130 hF => ?_) (fun hb130 hF => ?_)
          ·
            refine WP_skip ?_
            refine C_join hF (fun (v : (List I.Ent) × (List Int)) s' => match v with | (a181, a183) => ∃ (m180 : Heap) (f182 : List Nat), I.CaL m180 c2 f182 (IntKind.wrap .i64 ((1 : Int) + (IntKind.wrap .i64 (Int.tmod (IntKind.wrap .u64 p0) (20 : Int))))) a181 ∧ OK m180 [] ∧ WS s' ⟨mkSl 99 [(5, .int .i64 (IntKind.wrap .i64 ((1 : Int) + (IntKind.wrap .i64 (Int.tmod (IntKind.wrap .u64 p0) (20 : Int)))))), (6, .ptr c2 0), (8, .sl 1 (List.map c_i64 a183) 0), (42, .sl 1 (List.map c_i64 p1) 0), (43, .int .i64 (p1.length : Int)), (44, .int .i64 a125)], Hp m180 []⟩) (fun J184 hF => ?_) ?_
            ·
              refine WP_block ?_
              refine C_seq ?_
              refine C_reg (mdl []) ?_
              refine S_ix rfl rfl ty_sl_22 ty_sz_3 hF (fun x185 _ hF => ?_)
              refine S_ldQ rfl (p_one ty_ag_3 ty_sz_3 rfl) ?_
              refine S_a (v := .int _ _) rfl ?_
              refine S_nil ?_
              refine C_seq ?_
              refine C_seq ?_
              refine C_reg (mdl []) ?_
              refine S_m (v := .ptr _ _) rfl ?_
              refine S_m (v := .int _ _) rfl ?_
              refine I.S_get (k := x185) ok hC rfl rfl (fun m186 f187 ok hC => ?_)
              obtain ⟨a188, ha188, hF⟩ := I.F_let hF
              rw [← ha188] at hC
              refine S_m (v := .tup _) rfl ?_
              refine S_ext rfl rfl ?_
              refine S_ext rfl rfl ?_
              refine S_a (v := .int _ _) rfl ?_
              refine S_a (v := .bool _) rfl ?_
              refine S_nil ?_
              refine C_join hF (fun (v : (List I.Ent) × Bool) s' => match v with | (a195, a197) => ∃ (m194 : Heap) (f196 : List Nat), I.CaL m194 c2 f196 (IntKind.wrap .i64 ((1 : Int) + (IntKind.wrap .i64 (Int.tmod (IntKind.wrap .u64 p0) (20 : Int))))) a195 ∧ OK m194 [] ∧ WS s' ⟨mkSl 99 [(5, .int .i64 (IntKind.wrap .i64 ((1 : Int) + (IntKind.wrap .i64 (Int.tmod (IntKind.wrap .u64 p0) (20 : Int)))))), (6, .ptr c2 0), (8, .sl 1 (List.map c_i64 a124) 0), (10, .int .i64 x185), (42, .sl 1 (List.map c_i64 p1) 0), (43, .int .i64 (p1.length : Int)), (44, .int .i64 a125), (62, .bool a197)], Hp m194 []⟩) (fun J198 hF => ?_) ?_
              ·
                refine C_reg (mdl []) ?_
                refine S_m (v := .bool _) rfl ?_
                refine S_un rfl (ev_not _) ?_
                refine S_m (v := .bool _) rfl ?_
                refine S_if (b := (!(I.fnd x185 a122).isSome)) hF (fun hb199 hF => ?_) (fun hb200 hF => ?_)
                ·
                  refine S_on rfl rfl hb199 ?_
                  refine S_in ?_
                  refine S_m (v := .ptr _ _) rfl ?_
                  refine S_nil ?_
                  refine S_on rfl rfl hb199 ?_
                  refine S_in ?_
                  refine S_m (v := .int _ _) rfl ?_
                  refine S_nil ?_
                  refine S_on rfl rfl hb199 ?_
                  refine S_in ?_
                  refine S_m (v := .int _ _) rfl ?_
                  refine S_nil ?_
                  refine S_on rfl rfl hb199 ?_
                  refine S_in ?_
                  refine I.S_put (k := x185) (v := x185) (b := false) ok hC rfl rfl rfl rfl (fun m201 f202 ok hC => ?_)
                  refine S_nil ?_
                  obtain ⟨a203, ha203, hF⟩ := I.F_let hF
                  rw [← ha203] at hC
                  refine S_on rfl rfl hb199 ?_
                  refine S_in ?_
                  refine S_bin rfl rfl (ev_neq ..) ?_
                  refine S_nil ?_
                  refine S_pickT (v := .bool _) rfl hb199 rfl ?_
                  refine S_nil ?_
                  have hwo : WO [] [] := .nil
                  exact ⟨(a203, ((I.putL x185 x185 false (IntKind.wrap .i64 ((1 : Int) + (IntKind.wrap .i64 (Int.tmod (IntKind.wrap .u64 p0) (20 : Int))))) a188).1 != (0 : Int))), hF, m201, f202, hC, (hwo.spec ok).1, WS.mk' (.cons (.refl _) (.cons (.refl _) (.cons (.refl _) (.cons (.refl _) (.cons (.refl _) (.cons (.refl _) (.cons (.refl _) (.cons (.refl _) .nil)))))))) ok hwo⟩
                ·
                  refine S_off rfl rfl hb200 ?_
                  refine S_offD ?_
                  refine S_off rfl rfl hb200 ?_
                  refine S_offD ?_
                  refine S_off rfl rfl hb200 ?_
                  refine S_offD ?_
                  refine S_off rfl rfl hb200 ?_
                  refine S_offD ?_
                  refine S_off rfl rfl hb200 ?_
                  refine S_offD ?_
                  refine S_pickF (v := .bool _) rfl hb200 rfl ?_
                  refine S_nil ?_
                  have hwo : WO [] [] := .nil
                  exact ⟨(a188, false), hF, m186, f187, hC, (hwo.spec ok).1, WS.mk' (.cons (.refl _) (.cons (.refl _) (.cons (.refl _) (.cons (.refl _) (.cons (.refl _) (.cons (.refl _) (.cons (.refl _) (.cons (.refl _) .nil)))))))) ok hwo⟩
              ·
                rintro ⟨a195, a197⟩ s' hF ⟨m194, f196, hC, ok, hws⟩
                refine WP_ws hws ?_
                clear hws s'
                refine C_if (b := a197) rfl hF (fun hb204 hF => ?_) (fun hb204 hF => ?_)
                ·
                  refine C_seq ?_
                  refine C_reg (mdl []) ?_
                  refine S_a (v := .bool _) rfl ?_
                  refine S_nil ?_
                  refine WP_ret ?_
                  replace hF := hG127 _ (F_some hF)
                  repeat (first | with_reducible refine Exit.sel_ret ?_ | with_reducible refine Exit.blk_ret ?_)
                  refine C_ret (fn := Try.f3) rfl (.tmp (v := .bool false) rfl .nil) ?_
                  exact ⟨_, _, (.refl _), WH.refl _, _, F_some hF, rfl⟩
                ·
                  refine WP_skip ?_
                  refine C_seq ?_
                  refine C_reg (mdl [(63, 2)]) ?_
                  refine S_lit2 (cs := []) (es := (List.map c_i64 ([] : List Int))) ok rfl ty_el_22 rfl (by kernel_rfl) (by kernel_rfl) ?_
                  intro r205 hr205 ok
                  refine S_a (v := .sl _ _ _) rfl ?_
                  refine S_nil ?_
                  refine C_join hF (fun (a218 : (List Int)) s' => ∃ g219 : Nat, g219 ≠ 0 ∧ OK m194 [(g219, .room)] ∧ WS s' ⟨mkSl 99 [(5, .int .i64 (IntKind.wrap .i64 ((1 : Int) + (IntKind.wrap .i64 (Int.tmod (IntKind.wrap .u64 p0) (20 : Int)))))), (6, .ptr c2 0), (10, .int .i64 x185), (13, .sl 1 (List.map c_i64 a218) g219), (42, .sl 1 (List.map c_i64 p1) 0), (43, .int .i64 (p1.length : Int)), (44, .int .i64 a125)], Hp m194 [(g219, .room)]⟩) (fun J220 hF => ?_) ?_
                  ·
                    refine C_seq ?_
                    refine C_reg (mdl []) ?_
                    refine S_m (v := .sl _ _ _) rfl ?_
                    refine S_lenL rfl ty_sl_22 ?_
                    refine S_m (v := .int _ _) rfl ?_
                    refine S_nil ?_
                    refine WP_block ?_
                    refine C_loop (σ := (List Int) × Int) hF (fun (v : (List Int) × Int) s' => match v with | (a221, a223) => ∃ g222 : Nat, g222 ≠ 0 ∧ OK m194 [(g222, .room)] ∧ WS s' ⟨mkSl 99 [(5, .int .i64 (IntKind.wrap .i64 ((1 : Int) + (IntKind.wrap .i64 (Int.tmod (IntKind.wrap .u64 p0) (20 : Int)))))), (6, .ptr c2 0), (10, .int .i64 x185), (13, .sl 1 (List.map c_i64 a221) g222), (42, .sl 1 (List.map c_i64 p1) 0), (43, .int .i64 (p1.length : Int)), (44, .int .i64 a125), (64, .sl 1 (List.map c_i64 a124) 0), (65, .int .i64 (a124.length : Int)), (66, .int .i64 a223)], Hp m194 [(g222, .room)]⟩) ?_ ?_
                    ·
                      have hwo : WO [(r205, .room)] [(r205, .room)] := (.keep .nil)
                      exact ⟨r205, hr205, (hwo.spec ok).1, WS.mk' (.cons (.refl _) (.cons (.refl _) (.cons (.refl _) (.cons (.refl _) (.cons (.refl _) (.cons (.refl _) (.cons (.refl _) (.cons (.refl _) (.cons (.refl _) (.cons (.refl _) .nil)))))))))) ok hwo⟩
                    ·
                      rintro G224 hG225 rec226 ⟨a221, a223⟩ s' ih227 hF ⟨g222, hg222, ok, hws⟩
                      refine WP_ws hws ?_
                      clear hws s'
                      rw [F_lecternlaw16_CacheOrders_l1] at hF
                      refine C_seq ?_
                      refine C_reg (mdl []) ?_
                      refine S_bin rfl rfl (ev_lss ..) ?_
                      refine S_nil ?_
                      refine C_seq ?_
                      refine C_if (b := (decide (a223 < (a124.length : Int)))) rfl hF (fun hb228 hF => ?_) (fun hb228 hF => ?_)
                      ·
                        refine WP_skip ?_
                        refine C_join hF (fun (a232 : (List Int)) s' => ∃ g233 : Nat, g233 ≠ 0 ∧ OK m194 [(g233, .room)] ∧ WS s' ⟨mkSl 99 [(5, .int .i64 (IntKind.wrap .i64 ((1 : Int) + (IntKind.wrap .i64 (Int.tmod (IntKind.wrap .u64 p0) (20 : Int)))))), (6, .ptr c2 0), (10, .int .i64 x185), (13, .sl 1 (List.map c_i64 a232) g233), (42, .sl 1 (List.map c_i64 p1) 0), (43, .int .i64 (p1.length : Int)), (44, .int .i64 a125), (64, .sl 1 (List.map c_i64 a124) 0), (65, .int .i64 (a124.length : Int)), (66, .int .i64 a223)], Hp m194 [(g233, .room)]⟩) (fun J234 hF => ?_) ?_
                        ·
                          refine WP_block ?_
                          refine C_seq ?_
                          refine C_reg (mdl []) ?_
                          refine S_ix rfl rfl ty_sl_22 ty_sz_3 hF (fun x235 _ hF => ?_)
                          refine S_ldQ rfl (p_one ty_ag_3 ty_sz_3 rfl) ?_
                          refine S_a (v := .int _ _) rfl ?_
                          refine S_nil ?_
                          refine C_seq ?_
                          refine C_reg (mdl []) ?_
                          refine S_m (v := .int _ _) rfl ?_
                          refine S_m (v := .int _ _) rfl ?_
                          refine S_bin rfl rfl (ev_neq ..) ?_
                          refine S_nil ?_
                          refine C_if (b := (x235 != x185)) rfl hF (fun hb236 hF => ?_) (fun hb236 hF => ?_)
                          ·
                            refine C_reg (mdl [(76, 2)]) ?_
                            refine S_m (v := .sl _ _ _) rfl ?_
                            refine S_m (v := .int _ _) rfl ?_
                            refine S_lit0 (cs := [.int .i64 x235]) (es := (List.map c_i64 [x235])) rfl ty_el_22 rfl (by kernel_rfl) (by kernel_rfl) ?_
                            refine S_app (j := 0) ok rfl rfl rfl rfl hg222 ty_el_22 ty_ni_22 hF ?_
                            intro r237 hr237 ok hF
                            refine S_a (v := .sl _ _ _) rfl ?_
                            refine S_nil ?_
                            have hwo : WO [(r237, .room)] [(r237, .room)] := (.keep .nil)
                            exact ⟨(a221 ++ [x235]), hF, r237, hr237, (hwo.spec ok).1, WS.mk' (.cons (.refl _) (.cons (.refl _) (.cons (.refl _) (.cons (.refl _) (.cons (.refl _) (.cons (.refl _) (.cons (.refl _) (.cons (.refl _) (.cons (.refl _) (.cons (.refl _) .nil)))))))))) ok hwo⟩
                          ·
                            refine WP_skip ?_
                            have hwo : WO [(g222, .room)] [(g222, .room)] := (.keep .nil)
                            exact ⟨a221, hF, g222, hg222, (hwo.spec ok).1, WS.mk' (.cons (.refl _) (.cons (.refl _) (.cons (.refl _) (.cons (.refl _) (.cons (.refl _) (.cons (.refl _) (.cons (.refl _) (.cons (.refl _) (.cons (.refl _) (.cons (.refl _) .nil)))))))))) ok hwo⟩
                        ·
                          rintro a232 s' hF ⟨g233, hg233, ok, hws⟩
                          refine WP_ws hws ?_
                          clear hws s'
                          refine C_reg (mdl []) ?_
                          refine S_bin rfl rfl (ev_add ..) ?_
                          refine S_m (v := .int _ _) rfl ?_
                          refine S_nil ?_
                          refine ih227 (a232, (IntKind.wrap .i64 (a223 + (1 : Int)))) _ hF ?_
                          have hwo : WO [(g233, .room)] [(g233, .room)] := (.keep .nil)
                          exact ⟨g233, hg233, (hwo.spec ok).1, WS.mk' (.cons (.refl _) (.cons (.refl _) (.cons (.refl _) (.cons (.refl _) (.cons (.refl _) (.cons (.refl _) (.cons (.refl _) (.cons (.refl _) (.cons (.refl _) (.cons (.refl _) .nil)))))))))) ok hwo⟩
                      ·
                        refine WP_exit ?_
                        simp only [Exit.sel, Exit.blk, if_true, if_false, reduceIte, Nat.reduceEqDiff, Nat.succ_ne_zero, Nat.zero_ne_one, Nat.one_ne_zero]
                        replace hF := hG225 _ (F_some hF)
                        have hwo : WO [(g222, .room)] [(g222, .room)] := (.keep .nil)
                        exact ⟨a221, hF, g222, hg222, (hwo.spec ok).1, WS.mk' (.cons (.refl _) (.cons (.refl _) (.cons (.refl _) (.cons (.refl _) (.cons (.refl _) (.cons (.refl _) (.cons (.refl _) .nil))))))) ok hwo⟩
                  ·
                    rintro a218 s' hF ⟨g219, hg219, ok, hws⟩
                    refine WP_ws hws ?_
                    clear hws s'
                    refine C_seq ?_
                    refine C_reg (mdl [(81, 2)]) ?_
                    refine S_m (v := .sl _ _ _) rfl ?_
                    refine S_m (v := .int _ _) rfl ?_
                    refine S_lit0 (cs := [.int .i64 x185]) (es := (List.map c_i64 [x185])) rfl ty_el_22 rfl (by kernel_rfl) (by kernel_rfl) ?_
                    refine S_app (j := 0) ok rfl rfl rfl rfl hg219 ty_el_22 ty_ni_22 hF ?_
                    intro r238 hr238 ok hF
                    refine S_a (v := .sl _ _ _) rfl ?_
                    refine S_one 8 (v := .sl 1 (List.map c_i64 (a218 ++ [x185])) 0) (.zero _ _ _) ?_
                    refine S_nil ?_
                    refine C_seq ?_
                    refine C_reg (mdl []) ?_
                    refine S_m (v := .sl _ _ _) rfl ?_
                    refine S_lenL rfl ty_sl_22 ?_
                    refine S_m (v := .int _ _) rfl ?_
                    refine S_bin rfl rfl (ev_gtr ..) ?_
                    refine S_nil ?_
                    refine C_if (b := (decide ((IntKind.wrap .i64 ((1 : Int) + (IntKind.wrap .i64 (Int.tmod (IntKind.wrap .u64 p0) (20 : Int))))) < ((a218 ++ [x185]).length : Int)))) rfl hF (fun hb239 hF => ?_) (fun hb239 hF => ?_)
                    ·
                      refine C_reg (mdl []) ?_
                      refine S_m (v := .sl _ _ _) rfl ?_
                      refine S_slL rfl ty_sl_22 ty_sz_3 (bd_at rfl) bd_len hF (fun x240 _ hF => ?_)
                      refine S_a (v := .sl _ _ _) rfl ?_
                      refine S_nil ?_
                      have hwo : WO [(r238, .room)] [] := (.drop .nil)
                      exact ⟨(a195, x240), hF, m194, f196, hC, (hwo.spec ok).1, WS.mk' (.cons (.refl _) (.cons (.refl _) (.cons (.refl _) (.cons (.refl _) (.cons (.refl _) (.cons (.refl _) .nil)))))) ok hwo⟩
                    ·
                      refine WP_skip ?_
                      have hwo : WO [(r238, .room)] [] := (.drop .nil)
                      exact ⟨(a195, (a218 ++ [x185])), hF, m194, f196, hC, (hwo.spec ok).1, WS.mk' (.cons (.refl _) (.cons (.refl _) (.cons (.refl _) (.cons (.refl _) (.cons (.refl _) (.cons (.refl _) .nil)))))) ok hwo⟩
            ·
              rintro ⟨a181, a183⟩ s' hF ⟨m180, f182, hC, ok, hws⟩
              refine WP_ws hws ?_
              clear hws s'
              refine C_reg (mdl []) ?_
              refine S_bin rfl rfl (ev_add ..) ?_
              refine S_m (v := .int _ _) rfl ?_
              refine S_nil ?_
              refine ih129 (a181, a183, (IntKind.wrap .i64 (a125 + (1 : Int)))) _ hF ?_
              have hwo : WO [] [] := .nil
              exact ⟨m180, f182, hC, (hwo.spec ok).1, WS.mk' (.cons (.refl _) (.cons (.refl _) (.cons (.refl _) (.cons (.refl _) (.cons (.refl _) (.cons (.refl _) .nil)))))) ok hwo⟩
          ·
            refine WP_exit ?_
            simp only [Exit.sel, Exit.blk, if_true, if_false, reduceIte, Nat.reduceEqDiff, Nat.succ_ne_zero, Nat.zero_ne_one, Nat.one_ne_zero]
            replace hF := hG127 _ (F_some hF)
            have hwo : WO [] [] := .nil
            exact ⟨(a122, a124), hF, m121, f123, hC, (hwo.spec ok).1, WS.mk' (.cons (.refl _) (.cons (.refl _) .nil)) ok hwo⟩
      ·
        rintro ⟨a117, a119⟩ s' hF ⟨m116, f118, hC, ok, hws⟩
        refine WP_ws hws ?_
        clear hws s'
        refine C_join hF (fun (a244 : Bool) s' => OK m116 [] ∧ WS s' ⟨mkSl 99 [(4, .bool a244)], Hp m116 []⟩) (fun J245 hF => ?_) ?_
        ·
          refine C_reg (mdl []) ?_
          refine S_m (v := .ptr _ _) rfl ?_
          refine I.S_keys ok hC rfl hF (fun hF => ?_)
          refine S_m (v := .sl _ _ _) rfl ?_
          refine S_call (F_lecternref05_SameInts_ok _ hF fun x246 _ hF => ?_) (.cons (.refl _) (.cons (.refl _) (.nil)))
          refine S_m (v := .bool _) rfl ?_
          refine S_if (b := x246) hF (fun hb247 hF => ?_) (fun hb248 hF => ?_)
          ·
            refine S_on rfl rfl hb247 ?_
            refine S_in ?_
            refine S_m (v := .ptr _ _) rfl ?_
            refine S_nil ?_
            refine S_on rfl rfl hb247 ?_
            refine I.S_dirtyS ok hC rfl hF (fun hF => ?_)
            refine S_on rfl rfl hb247 ?_
            refine S_in ?_
            refine S_lenL rfl ty_sl_22 ?_
            refine S_nil ?_
            refine S_on rfl rfl hb247 ?_
            refine S_in ?_
            refine S_bin rfl rfl (ev_eql ..) ?_
            refine S_nil ?_
            refine S_pickT (v := .bool _) rfl hb247 rfl ?_
            refine S_a (v := .bool _) rfl ?_
            refine S_nil ?_
            have hwo : WO [] [] := .nil
            exact ⟨(((I.keysL false a117).length : Int) == (0 : Int)), hF, (hwo.spec ok).1, WS.mk' (.cons (.refl _) .nil) ok hwo⟩
          ·
            refine S_off rfl rfl hb248 ?_
            refine S_offD ?_
            refine S_off rfl rfl hb248 ?_
            refine S_offD ?_
            refine S_off rfl rfl hb248 ?_
            refine S_offD ?_
            refine S_off rfl rfl hb248 ?_
            refine S_offD ?_
            refine S_pickF (v := .bool _) rfl hb248 rfl ?_
            refine S_a (v := .bool _) rfl ?_
            refine S_nil ?_
            have hwo : WO [] [] := .nil
            exact ⟨false, hF, (hwo.spec ok).1, WS.mk' (.cons (.refl _) .nil) ok hwo⟩
        ·
          rintro a244 s' hF ⟨ok, hws⟩
          refine WP_ws hws ?_
          clear hws s'
          refine WP_ret ?_
          repeat (first | with_reducible refine Exit.sel_ret ?_ | with_reducible refine Exit.blk_ret ?_)
          refine C_ret (fn := Try.f3) rfl (.tmp (v := .bool a244) rfl .nil) ?_
          exact ⟨_, _, (.refl _), WH.refl _, _, F_some hF, rfl⟩
  ·
    refine S_m (v := .tup _) rfl ?_
    refine S_ext rfl rfl ?_
    refine S_ext rfl rfl ?_
    refine S_a (v := .nilp) rfl ?_
    refine S_a (v := .int _ _) rfl ?_
    refine S_nil ?_
    refine C_seq ?_
    refine C_seq ?_
    refine C_reg (mdl []) ?_
    refine S_m (v := .nilp) rfl ?_
    refine S_bin rfl rfl (e_nn (by rw [ty_pt_25]; rfl)) ?_
    refine S_m (v := .bool _) rfl ?_
    refine S_off rfl rfl rfl ?_
    refine S_offD ?_
    refine S_off rfl rfl rfl ?_
    refine S_offD ?_
    refine S_pickT (v := .bool _) rfl rfl rfl ?_
    refine S_m (v := .bool _) rfl ?_
    refine S_off rfl rfl rfl ?_
    refine S_offD ?_
    refine S_off rfl rfl rfl ?_
    refine S_offD ?_
    refine S_off rfl rfl rfl ?_
    refine S_offD ?_
    refine S_pickT (v := .bool _) rfl rfl rfl ?_
    refine S_nil ?_
    refine C_tt rfl rfl ?_
    refine C_seq ?_
    refine C_reg (mdl []) ?_
    refine S_m (v := .sl _ _ _) rfl ?_
    refine S_lenL rfl ty_sl_22 ?_
    refine S_bin rfl rfl (ev_gtr ..) ?_
    refine S_a (v := .bool _) rfl ?_
    refine S_nil ?_
    refine WP_ret ?_
    repeat (first | with_reducible refine Exit.sel_ret ?_ | with_reducible refine Exit.blk_ret ?_)
    refine C_ret (fn := Try.f3) rfl (.tmp (v := .bool (decide ((300 : Int) < (p1.length : Int)))) rfl .nil) ?_
    exact ⟨_, _, (.refl _), WH.refl _, _, F_some hF, rfl⟩
end Go.Proofs.Ytagdcieobfcpmaa
