/- The walks. No condition. -/
import Derived.Test.YtocfjohangcajaaDoorWk2
set_option linter.unusedVariables false
set_option linter.unusedSimpArgs false
set_option maxRecDepth 20000
set_option maxHeartbeats 8000000
namespace Go.Proofs.YtocfjohangcajaaDoor
theorem F_lecternlaw10_TraceBoxes_w (p0 : Int) (p1 : Int) (p2 : Int) (p3 : Int) (p4 : Int) (p5 : Int) {G : Bool → Prop} (h : Heap) (hF : OptP (F_lecternlaw10_TraceBoxes p0 p1 p2 p3 p4 p5) G) : CallsA Tryd.prog 7 [.int .i64 p0, .int .i64 p1, .int .i64 p2, .int .i64 p3, .int .i64 p4, .int .i64 p5] h fun d h' => ∃ r, G r ∧ d = .bool r := by
  refine CallsA.ret ?_
  refine C_body Tryd.func7 rfl en_7 Tryd.ntmps7 rfl (fun ok => ?_)
  rw [F_lecternlaw10_TraceBoxes] at hF
  refine C_seq ?_
  refine C_reg (mdl []) ?_
  refine S_a (v := .bool _) rfl ?_
  refine S_nil ?_
  refine C_seq ?_
  refine C_seq ?_
  refine C_reg (mdl []) ?_
  refine S_call (F_lecternlaw10_awake_ok _ hF fun x1 _ hF => ?_) (.nil)
  refine S_un rfl (ev_not _) ?_
  refine S_nil ?_
  refine C_if (b := (!x1)) rfl hF (fun hb2 hF => ?_) (fun hb2 hF => ?_)
  ·
    refine C_seq ?_
    refine C_reg (mdl []) ?_
    refine S_a (v := .bool _) rfl ?_
    refine S_nil ?_
    refine WP_ret ?_
    repeat (first | with_reducible refine Exit.sel_ret ?_ | with_reducible refine Exit.blk_ret ?_ | with_reducible refine Exit.jmp_ret ?_)
    refine C_ret (fn := Tryd.f7) rfl (.tmp (v := .bool false) rfl .nil) ?_
    exact ⟨_, _, (.refl _), WH.refl _, _, F_some hF, rfl⟩
  ·
    refine WP_skip ?_
    refine C_seq ?_
    refine C_seq ?_
    refine C_reg (mdl []) ?_
    refine S_m (v := .int _ _) rfl ?_
    refine S_m (v := .int _ _) rfl ?_
    refine S_call (F_lecternlaw10_fits_ok _ hF fun x3 _ hF => ?_) (.cons (.refl _) (.cons (.refl _) (.nil)))
    refine S_un rfl (ev_not _) ?_
    refine S_m (v := .bool _) rfl ?_
    refine S_two (b := (!x3)) 3 42 (.bool ((!x3) || (decide (p2 < (1 : Int))))) (fun hb4 => ?_) (fun hb4 => ?_) ?_
    ·
      refine S_off rfl rfl hb4 ?_
      refine S_offD ?_
      refine S_off rfl rfl hb4 ?_
      refine S_offD ?_
      refine S_pickT (v := .bool _) rfl hb4 rfl ?_
      refine S_nil ?_
      refine .hd (or_t hb4) ?_
      repeat (first | with_reducible exact WS.refl _ | refine WS.add ?_ rfl)
    ·
      refine S_on rfl rfl hb4 ?_
      refine S_in ?_
      refine S_m (v := .int _ _) rfl ?_
      refine S_nil ?_
      refine S_on rfl rfl hb4 ?_
      refine S_in ?_
      refine S_bin rfl rfl (ev_lss ..) ?_
      refine S_nil ?_
      refine S_pickF (v := .bool _) rfl hb4 rfl ?_
      refine S_nil ?_
      refine .hd (or_f hb4) ?_
      repeat (first | with_reducible exact WS.refl _ | refine WS.add ?_ rfl)
    refine S_m (v := .bool _) rfl ?_
    refine S_two (b := ((!x3) || (decide (p2 < (1 : Int))))) 3 46 (.bool (((!x3) || (decide (p2 < (1 : Int)))) || (decide (p3 < (1 : Int))))) (fun hb5 => ?_) (fun hb5 => ?_) ?_
    ·
      refine S_off rfl rfl hb5 ?_
      refine S_offD ?_
      refine S_off rfl rfl hb5 ?_
      refine S_offD ?_
      refine S_pickT (v := .bool _) rfl hb5 rfl ?_
      refine S_nil ?_
      refine .hd (or_t hb5) ?_
      repeat (first | with_reducible exact WS.refl _ | refine WS.add ?_ rfl)
    ·
      refine S_on rfl rfl hb5 ?_
      refine S_in ?_
      refine S_m (v := .int _ _) rfl ?_
      refine S_nil ?_
      refine S_on rfl rfl hb5 ?_
      refine S_in ?_
      refine S_bin rfl rfl (ev_lss ..) ?_
      refine S_nil ?_
      refine S_pickF (v := .bool _) rfl hb5 rfl ?_
      refine S_nil ?_
      refine .hd (or_f hb5) ?_
      repeat (first | with_reducible exact WS.refl _ | refine WS.add ?_ rfl)
    refine S_m (v := .bool _) rfl ?_
    refine S_two (b := (((!x3) || (decide (p2 < (1 : Int)))) || (decide (p3 < (1 : Int))))) 3 50 (.bool ((((!x3) || (decide (p2 < (1 : Int)))) || (decide (p3 < (1 : Int)))) || (decide ((1000000 : Int) < p2)))) (fun hb6 => ?_) (fun hb6 => ?_) ?_
    ·
      refine S_off rfl rfl hb6 ?_
      refine S_offD ?_
      refine S_off rfl rfl hb6 ?_
      refine S_offD ?_
      refine S_pickT (v := .bool _) rfl hb6 rfl ?_
      refine S_nil ?_
      refine .hd (or_t hb6) ?_
      repeat (first | with_reducible exact WS.refl _ | refine WS.add ?_ rfl)
    ·
      refine S_on rfl rfl hb6 ?_
      refine S_in ?_
      refine S_m (v := .int _ _) rfl ?_
      refine S_nil ?_
      refine S_on rfl rfl hb6 ?_
      refine S_in ?_
      refine S_bin rfl rfl (ev_gtr ..) ?_
      refine S_nil ?_
      refine S_pickF (v := .bool _) rfl hb6 rfl ?_
      refine S_nil ?_
      refine .hd (or_f hb6) ?_
      repeat (first | with_reducible exact WS.refl _ | refine WS.add ?_ rfl)
    refine S_m (v := .bool _) rfl ?_
    refine S_two (b := ((((!x3) || (decide (p2 < (1 : Int)))) || (decide (p3 < (1 : Int)))) || (decide ((1000000 : Int) < p2)))) 3 54 (.bool (((((!x3) || (decide (p2 < (1 : Int)))) || (decide (p3 < (1 : Int)))) || (decide ((1000000 : Int) < p2))) || (decide ((1000000 : Int) < p3)))) (fun hb7 => ?_) (fun hb7 => ?_) ?_
    ·
      refine S_off rfl rfl hb7 ?_
      refine S_offD ?_
      refine S_off rfl rfl hb7 ?_
      refine S_offD ?_
      refine S_pickT (v := .bool _) rfl hb7 rfl ?_
      refine S_nil ?_
      refine .hd (or_t hb7) ?_
      repeat (first | with_reducible exact WS.refl _ | refine WS.add ?_ rfl)
    ·
      refine S_on rfl rfl hb7 ?_
      refine S_in ?_
      refine S_m (v := .int _ _) rfl ?_
      refine S_nil ?_
      refine S_on rfl rfl hb7 ?_
      refine S_in ?_
      refine S_bin rfl rfl (ev_gtr ..) ?_
      refine S_nil ?_
      refine S_pickF (v := .bool _) rfl hb7 rfl ?_
      refine S_nil ?_
      refine .hd (or_f hb7) ?_
      repeat (first | with_reducible exact WS.refl _ | refine WS.add ?_ rfl)
    refine S_m (v := .bool _) rfl ?_
    refine S_twoJ 9 64 hF (fun J9 hb8 hF => ?_) (fun J9 hb8 hF => ?_) (fun v10 hF => ?_)
    ·
      refine S_off rfl rfl hb8 ?_
      refine S_offD ?_
      refine S_off rfl rfl hb8 ?_
      refine S_offD ?_
      refine S_off rfl rfl hb8 ?_
      refine S_offD ?_
      refine S_off rfl rfl hb8 ?_
      refine S_offD ?_
      refine S_off rfl rfl hb8 ?_
      refine S_offD ?_
      refine S_off rfl rfl hb8 ?_
      refine S_offD ?_
      refine S_off rfl rfl hb8 ?_
      refine S_offD ?_
      refine S_off rfl rfl hb8 ?_
      refine S_offD ?_
      refine S_pickT (v := .bool _) rfl hb8 rfl ?_
      refine S_nil ?_
      refine ⟨_, hF, .hd (.refl _) ?_⟩
      repeat (first | with_reducible exact WS.refl _ | refine WS.add ?_ rfl)
    ·
      refine S_on rfl rfl hb8 ?_
      refine S_in ?_
      refine S_m (v := .int _ _) rfl ?_
      refine S_nil ?_
      refine S_on rfl rfl hb8 ?_
      refine S_in ?_
      refine S_m (v := .int _ _) rfl ?_
      refine S_nil ?_
      refine S_on rfl rfl hb8 ?_
      refine S_in ?_
      refine S_bin rfl rfl (ev_add ..) ?_
      refine S_nil ?_
      refine S_on rfl rfl hb8 ?_
      refine S_in ?_
      refine S_m (v := .int _ _) rfl ?_
      refine S_nil ?_
      refine S_on rfl rfl hb8 ?_
      refine S_in ?_
      refine S_m (v := .int _ _) rfl ?_
      refine S_nil ?_
      refine S_on rfl rfl hb8 ?_
      refine S_in ?_
      refine S_bin rfl rfl (ev_add ..) ?_
      refine S_nil ?_
      refine S_on rfl rfl hb8 ?_
      refine S_in ?_
      refine S_call (F_lecternlaw10_fits_ok _ hF fun x11 _ hF => ?_) (.cons (.refl _) (.cons (.refl _) (.nil)))
      refine S_nil ?_
      refine S_on rfl rfl hb8 ?_
      refine S_in ?_
      refine S_un rfl (ev_not _) ?_
      refine S_nil ?_
      refine S_pickF (v := .bool _) rfl hb8 rfl ?_
      refine S_nil ?_
      refine ⟨_, hF, .hd (.refl _) ?_⟩
      repeat (first | with_reducible exact WS.refl _ | refine WS.add ?_ rfl)
    ·
      refine S_m (v := .bool _) rfl ?_
      refine S_twoJ 5 70 hF (fun J13 hb12 hF => ?_) (fun J13 hb12 hF => ?_) (fun v14 hF => ?_)
      ·
        refine S_off rfl rfl hb12 ?_
        refine S_offD ?_
        refine S_off rfl rfl hb12 ?_
        refine S_offD ?_
        refine S_off rfl rfl hb12 ?_
        refine S_offD ?_
        refine S_off rfl rfl hb12 ?_
        refine S_offD ?_
        refine S_pickT (v := .bool _) rfl hb12 rfl ?_
        refine S_nil ?_
        refine ⟨_, hF, .hd (.refl _) ?_⟩
        repeat (first | with_reducible exact WS.refl _ | refine WS.add ?_ rfl)
      ·
        refine S_on rfl rfl hb12 ?_
        refine S_in ?_
        refine S_m (v := .int _ _) rfl ?_
        refine S_nil ?_
        refine S_on rfl rfl hb12 ?_
        refine S_in ?_
        refine S_m (v := .int _ _) rfl ?_
        refine S_nil ?_
        refine S_on rfl rfl hb12 ?_
        refine S_in ?_
        refine S_call (F_lecternlaw10_fits_ok _ hF fun x15 _ hF => ?_) (.cons (.refl _) (.cons (.refl _) (.nil)))
        refine S_nil ?_
        refine S_on rfl rfl hb12 ?_
        refine S_in ?_
        refine S_un rfl (ev_not _) ?_
        refine S_nil ?_
        refine S_pickF (v := .bool _) rfl hb12 rfl ?_
        refine S_nil ?_
        refine ⟨_, hF, .hd (.refl _) ?_⟩
        repeat (first | with_reducible exact WS.refl _ | refine WS.add ?_ rfl)
      ·
        refine S_nil ?_
        refine C_if (b := v14) rfl hF (fun hb16 hF => ?_) (fun hb16 hF => ?_)
        ·
          refine C_seq ?_
          refine C_reg (mdl []) ?_
          refine S_a (v := .bool _) rfl ?_
          refine S_nil ?_
          refine WP_ret ?_
          repeat (first | with_reducible refine Exit.sel_ret ?_ | with_reducible refine Exit.blk_ret ?_ | with_reducible refine Exit.jmp_ret ?_)
          refine C_ret (fn := Tryd.f7) rfl (.tmp (v := .bool true) rfl .nil) ?_
          exact ⟨_, _, (.refl _), WH.refl _, _, F_some hF, rfl⟩
        ·
          refine WP_skip ?_
          refine C_seq ?_
          refine C_reg (mdl []) ?_
          refine S_m (v := .int _ _) rfl ?_
          refine S_m (v := .int _ _) rfl ?_
          refine S_call (F_lecternlaw10_spot_ok _ hF fun x17 _ hF => ?_) (.cons (.refl _) (.cons (.refl _) (.nil)))
          refine S_m (v := .int _ _) rfl ?_
          refine S_m (v := .int _ _) rfl ?_
          refine S_bin rfl rfl (ev_add ..) ?_
          refine S_m (v := .int _ _) rfl ?_
          refine S_call (F_lecternlaw10_spot_ok _ hF fun x18 _ hF => ?_) (.cons (.refl _) (.cons (.refl _) (.nil)))
          refine S_m (v := .int _ _) rfl ?_
          refine S_m (v := .int _ _) rfl ?_
          refine S_bin rfl rfl (ev_add ..) ?_
          refine S_m (v := .int _ _) rfl ?_
          refine S_m (v := .int _ _) rfl ?_
          refine S_bin rfl rfl (ev_add ..) ?_
          refine S_call (F_lecternlaw10_spot_ok _ hF fun x19 _ hF => ?_) (.cons (.refl _) (.cons (.refl _) (.nil)))
          refine S_m (v := .int _ _) rfl ?_
          refine S_m (v := .int _ _) rfl ?_
          refine S_m (v := .int _ _) rfl ?_
          refine S_bin rfl rfl (ev_add ..) ?_
          refine S_call (F_lecternlaw10_spot_ok _ hF fun x20 _ hF => ?_) (.cons (.refl _) (.cons (.refl _) (.nil)))
          refine S_lit0 (cs := [.cplx .f64 x17.1 x17.2, .cplx .f64 x18.1 x18.2, .cplx .f64 x19.1 x19.2, .cplx .f64 x20.1 x20.2]) (es := (List.map c_cplx [x17, x18, x19, x20])) rfl ty_el_54 rfl (by kernel_rfl) (by kernel_rfl) ?_
          refine S_a (v := .sl _ _ _) rfl ?_
          refine S_nil ?_
          refine C_seq ?_
          refine C_reg (mdl []) ?_
          refine S_m (v := .int _ _) rfl ?_
          refine S_m (v := .int _ _) rfl ?_
          refine S_call (F_lecternlaw10_spot_ok _ hF fun x21 _ hF => ?_) (.cons (.refl _) (.cons (.refl _) (.nil)))
          refine S_m (v := .int _ _) rfl ?_
          refine S_m (v := .int _ _) rfl ?_
          refine S_m (v := .int _ _) rfl ?_
          refine S_bin rfl rfl (ev_add ..) ?_
          refine S_call (F_lecternlaw10_spot_ok _ hF fun x22 _ hF => ?_) (.cons (.refl _) (.cons (.refl _) (.nil)))
          refine S_m (v := .int _ _) rfl ?_
          refine S_m (v := .int _ _) rfl ?_
          refine S_bin rfl rfl (ev_add ..) ?_
          refine S_m (v := .int _ _) rfl ?_
          refine S_m (v := .int _ _) rfl ?_
          refine S_bin rfl rfl (ev_add ..) ?_
          refine S_call (F_lecternlaw10_spot_ok _ hF fun x23 _ hF => ?_) (.cons (.refl _) (.cons (.refl _) (.nil)))
          refine S_m (v := .int _ _) rfl ?_
          refine S_m (v := .int _ _) rfl ?_
          refine S_bin rfl rfl (ev_add ..) ?_
          refine S_m (v := .int _ _) rfl ?_
          refine S_call (F_lecternlaw10_spot_ok _ hF fun x24 _ hF => ?_) (.cons (.refl _) (.cons (.refl _) (.nil)))
          refine S_lit0 (cs := [.cplx .f64 x21.1 x21.2, .cplx .f64 x22.1 x22.2, .cplx .f64 x23.1 x23.2, .cplx .f64 x24.1 x24.2]) (es := (List.map c_cplx [x21, x22, x23, x24])) rfl ty_el_54 rfl (by kernel_rfl) (by kernel_rfl) ?_
          refine S_a (v := .sl _ _ _) rfl ?_
          refine S_nil ?_
          refine C_seq ?_
          refine C_reg (mdl []) ?_
          refine S_m (v := .sl _ _ _) rfl ?_
          refine S_bld (v := .agg (c_T_trace_Stroke (⟨[x17, x18, x19, x20], true⟩ : T_trace_Stroke))) (b_st ty_zc_56 ty_pl_56 rfl) ?_
          refine S_lit0 (cs := [.sl 1 (List.map c_cplx (⟨[x17, x18, x19, x20], true⟩ : T_trace_Stroke).Spots) 0, .bool (⟨[x17, x18, x19, x20], true⟩ : T_trace_Stroke).Closed]) (es := (List.map c_T_trace_Stroke [(⟨[x17, x18, x19, x20], true⟩ : T_trace_Stroke)])) rfl ty_el_23 rfl (by kernel_rfl) (by kernel_rfl) ?_
          refine S_a (v := .sl _ _ _) rfl ?_
          refine S_nil ?_
          refine C_seq ?_
          refine C_reg (mdl [(116, 2), (118, 2), (120, 2)]) ?_
          refine S_lit2 (cs := []) (es := (List.map c_cplx ([] : List (Nat × Nat)))) ok rfl ty_el_54 rfl (by kernel_rfl) (by kernel_rfl) ?_
          intro r25 hr25 ok
          refine S_m (v := .sl _ _ _) rfl ?_
          refine S_app (j := 0) ok rfl rfl rfl rfl hr25 ty_el_54 ty_ni_54 hF ?_
          intro r26 hr26 ok hF
          refine S_m (v := .sl _ _ _) rfl ?_
          refine S_app (j := 0) ok rfl rfl rfl rfl hr26 ty_el_54 ty_ni_54 hF ?_
          intro r27 hr27 ok hF
          refine S_bld (v := .agg [.sl 1 (List.map c_cplx ((([] : List (Nat × Nat)) ++ [x17, x18, x19, x20]) ++ [x17, x18, x19, x20])) r27, .bool true]) (b_st ty_zc_56 ty_pl_56 rfl) ?_
          refine S_one 121 (v := .agg (c_T_trace_Stroke (⟨((([] : List (Nat × Nat)) ++ [x17, x18, x19, x20]) ++ [x17, x18, x19, x20]), true⟩ : T_trace_Stroke))) (.aggC (.cons (.zero _ _ _) (.cons (.refl _) (.nil)))) ?_
          refine S_m (v := .sl _ _ _) rfl ?_
          refine S_bld (v := .agg (c_T_trace_Stroke (⟨[x21, x22, x23, x24], false⟩ : T_trace_Stroke))) (b_st ty_zc_56 ty_pl_56 rfl) ?_
          refine S_lit0 (cs := [.sl 1 (List.map c_cplx (⟨((([] : List (Nat × Nat)) ++ [x17, x18, x19, x20]) ++ [x17, x18, x19, x20]), true⟩ : T_trace_Stroke).Spots) 0, .bool (⟨((([] : List (Nat × Nat)) ++ [x17, x18, x19, x20]) ++ [x17, x18, x19, x20]), true⟩ : T_trace_Stroke).Closed, .sl 1 (List.map c_cplx (⟨[x21, x22, x23, x24], false⟩ : T_trace_Stroke).Spots) 0, .bool (⟨[x21, x22, x23, x24], false⟩ : T_trace_Stroke).Closed]) (es := (List.map c_T_trace_Stroke [(⟨((([] : List (Nat × Nat)) ++ [x17, x18, x19, x20]) ++ [x17, x18, x19, x20]), true⟩ : T_trace_Stroke), (⟨[x21, x22, x23, x24], false⟩ : T_trace_Stroke)])) rfl ty_el_23 rfl (by kernel_rfl) (by kernel_rfl) ?_
          refine S_a (v := .sl _ _ _) rfl ?_
          refine S_nil ?_
          refine C_seq ?_
          refine C_reg (mdl []) ?_
          refine S_m (v := .sl _ _ _) rfl ?_
          refine S_bld (v := .agg (c_T_trace_Stroke (⟨[x21, x22, x23, x24], true⟩ : T_trace_Stroke))) (b_st ty_zc_56 ty_pl_56 rfl) ?_
          refine S_lit0 (cs := [.sl 1 (List.map c_cplx (⟨[x21, x22, x23, x24], true⟩ : T_trace_Stroke).Spots) 0, .bool (⟨[x21, x22, x23, x24], true⟩ : T_trace_Stroke).Closed]) (es := (List.map c_T_trace_Stroke [(⟨[x21, x22, x23, x24], true⟩ : T_trace_Stroke)])) rfl ty_el_23 rfl (by kernel_rfl) (by kernel_rfl) ?_
          refine S_a (v := .sl _ _ _) rfl ?_
          refine S_nil ?_
          refine C_seq ?_
          refine C_reg (mdl []) ?_
          refine S_m (v := .int _ _) rfl ?_
          refine S_m (v := .int _ _) rfl ?_
          refine S_bin rfl rfl (ev_gtr ..) ?_
          refine S_m (v := .bool _) rfl ?_
          refine S_two (b := (decide (p0 < p4))) 6 137 (.bool ((decide (p0 < p4)) && (decide (p4 < (IntKind.wrap .i64 (p0 + p2)))))) (fun hb28 => ?_) (fun hb28 => ?_) ?_
          ·
            refine S_on rfl rfl hb28 ?_
            refine S_in ?_
            refine S_m (v := .int _ _) rfl ?_
            refine S_nil ?_
            refine S_on rfl rfl hb28 ?_
            refine S_in ?_
            refine S_m (v := .int _ _) rfl ?_
            refine S_nil ?_
            refine S_on rfl rfl hb28 ?_
            refine S_in ?_
            refine S_m (v := .int _ _) rfl ?_
            refine S_nil ?_
            refine S_on rfl rfl hb28 ?_
            refine S_in ?_
            refine S_bin rfl rfl (ev_add ..) ?_
            refine S_nil ?_
            refine S_on rfl rfl hb28 ?_
            refine S_in ?_
            refine S_bin rfl rfl (ev_lss ..) ?_
            refine S_nil ?_
            refine S_pickT (v := .bool _) rfl hb28 rfl ?_
            refine S_nil ?_
            refine .hd (and_t hb28) ?_
            repeat (first | with_reducible exact WS.refl _ | refine WS.add ?_ rfl)
          ·
            refine S_off rfl rfl hb28 ?_
            refine S_offD ?_
            refine S_off rfl rfl hb28 ?_
            refine S_offD ?_
            refine S_off rfl rfl hb28 ?_
            refine S_offD ?_
            refine S_off rfl rfl hb28 ?_
            refine S_offD ?_
            refine S_off rfl rfl hb28 ?_
            refine S_offD ?_
            refine S_pickF (v := .bool _) rfl hb28 rfl ?_
            refine S_nil ?_
            refine .hd (and_f hb28) ?_
            repeat (first | with_reducible exact WS.refl _ | refine WS.add ?_ rfl)
          refine S_m (v := .bool _) rfl ?_
          refine S_two (b := ((decide (p0 < p4)) && (decide (p4 < (IntKind.wrap .i64 (p0 + p2)))))) 4 142 (.bool (((decide (p0 < p4)) && (decide (p4 < (IntKind.wrap .i64 (p0 + p2))))) && (decide (p1 < p5)))) (fun hb29 => ?_) (fun hb29 => ?_) ?_
          ·
            refine S_on rfl rfl hb29 ?_
            refine S_in ?_
            refine S_m (v := .int _ _) rfl ?_
            refine S_nil ?_
            refine S_on rfl rfl hb29 ?_
            refine S_in ?_
            refine S_m (v := .int _ _) rfl ?_
            refine S_nil ?_
            refine S_on rfl rfl hb29 ?_
            refine S_in ?_
            refine S_bin rfl rfl (ev_gtr ..) ?_
            refine S_nil ?_
            refine S_pickT (v := .bool _) rfl hb29 rfl ?_
            refine S_nil ?_
            refine .hd (and_t hb29) ?_
            repeat (first | with_reducible exact WS.refl _ | refine WS.add ?_ rfl)
          ·
            refine S_off rfl rfl hb29 ?_
            refine S_offD ?_
            refine S_off rfl rfl hb29 ?_
            refine S_offD ?_
            refine S_off rfl rfl hb29 ?_
            refine S_offD ?_
            refine S_pickF (v := .bool _) rfl hb29 rfl ?_
            refine S_nil ?_
            refine .hd (and_f hb29) ?_
            repeat (first | with_reducible exact WS.refl _ | refine WS.add ?_ rfl)
          refine S_m (v := .bool _) rfl ?_
          refine S_two (b := (((decide (p0 < p4)) && (decide (p4 < (IntKind.wrap .i64 (p0 + p2))))) && (decide (p1 < p5)))) 6 149 (.bool ((((decide (p0 < p4)) && (decide (p4 < (IntKind.wrap .i64 (p0 + p2))))) && (decide (p1 < p5))) && (decide (p5 < (IntKind.wrap .i64 (p1 + p3)))))) (fun hb30 => ?_) (fun hb30 => ?_) ?_
          ·
            refine S_on rfl rfl hb30 ?_
            refine S_in ?_
            refine S_m (v := .int _ _) rfl ?_
            refine S_nil ?_
            refine S_on rfl rfl hb30 ?_
            refine S_in ?_
            refine S_m (v := .int _ _) rfl ?_
            refine S_nil ?_
            refine S_on rfl rfl hb30 ?_
            refine S_in ?_
            refine S_m (v := .int _ _) rfl ?_
            refine S_nil ?_
            refine S_on rfl rfl hb30 ?_
            refine S_in ?_
            refine S_bin rfl rfl (ev_add ..) ?_
            refine S_nil ?_
            refine S_on rfl rfl hb30 ?_
            refine S_in ?_
            refine S_bin rfl rfl (ev_lss ..) ?_
            refine S_nil ?_
            refine S_pickT (v := .bool _) rfl hb30 rfl ?_
            refine S_nil ?_
            refine .hd (and_t hb30) ?_
            repeat (first | with_reducible exact WS.refl _ | refine WS.add ?_ rfl)
          ·
            refine S_off rfl rfl hb30 ?_
            refine S_offD ?_
            refine S_off rfl rfl hb30 ?_
            refine S_offD ?_
            refine S_off rfl rfl hb30 ?_
            refine S_offD ?_
            refine S_off rfl rfl hb30 ?_
            refine S_offD ?_
            refine S_off rfl rfl hb30 ?_
            refine S_offD ?_
            refine S_pickF (v := .bool _) rfl hb30 rfl ?_
            refine S_nil ?_
            refine .hd (and_f hb30) ?_
            repeat (first | with_reducible exact WS.refl _ | refine WS.add ?_ rfl)
          refine S_a (v := .bool _) rfl ?_
          refine S_nil ?_
          refine C_seq ?_
          refine C_reg (mdl []) ?_
          refine S_m (v := .int _ _) rfl ?_
          refine S_m (v := .int _ _) rfl ?_
          refine S_bin rfl rfl (ev_lss ..) ?_
          refine S_m (v := .bool _) rfl ?_
          refine S_two (b := (decide (p4 < p0))) 6 159 (.bool ((decide (p4 < p0)) || (decide ((IntKind.wrap .i64 (p0 + p2)) < p4)))) (fun hb31 => ?_) (fun hb31 => ?_) ?_
          ·
            refine S_off rfl rfl hb31 ?_
            refine S_offD ?_
            refine S_off rfl rfl hb31 ?_
            refine S_offD ?_
            refine S_off rfl rfl hb31 ?_
            refine S_offD ?_
            refine S_off rfl rfl hb31 ?_
            refine S_offD ?_
            refine S_off rfl rfl hb31 ?_
            refine S_offD ?_
            refine S_pickT (v := .bool _) rfl hb31 rfl ?_
            refine S_nil ?_
            refine .hd (or_t hb31) ?_
            repeat (first | with_reducible exact WS.refl _ | refine WS.add ?_ rfl)
          ·
            refine S_on rfl rfl hb31 ?_
            refine S_in ?_
            refine S_m (v := .int _ _) rfl ?_
            refine S_nil ?_
            refine S_on rfl rfl hb31 ?_
            refine S_in ?_
            refine S_m (v := .int _ _) rfl ?_
            refine S_nil ?_
            refine S_on rfl rfl hb31 ?_
            refine S_in ?_
            refine S_m (v := .int _ _) rfl ?_
            refine S_nil ?_
            refine S_on rfl rfl hb31 ?_
            refine S_in ?_
            refine S_bin rfl rfl (ev_add ..) ?_
            refine S_nil ?_
            refine S_on rfl rfl hb31 ?_
            refine S_in ?_
            refine S_bin rfl rfl (ev_gtr ..) ?_
            refine S_nil ?_
            refine S_pickF (v := .bool _) rfl hb31 rfl ?_
            refine S_nil ?_
            refine .hd (or_f hb31) ?_
            repeat (first | with_reducible exact WS.refl _ | refine WS.add ?_ rfl)
          refine S_m (v := .bool _) rfl ?_
          refine S_two (b := ((decide (p4 < p0)) || (decide ((IntKind.wrap .i64 (p0 + p2)) < p4)))) 4 164 (.bool (((decide (p4 < p0)) || (decide ((IntKind.wrap .i64 (p0 + p2)) < p4))) || (decide (p5 < p1)))) (fun hb32 => ?_) (fun hb32 => ?_) ?_
          ·
            refine S_off rfl rfl hb32 ?_
            refine S_offD ?_
            refine S_off rfl rfl hb32 ?_
            refine S_offD ?_
            refine S_off rfl rfl hb32 ?_
            refine S_offD ?_
            refine S_pickT (v := .bool _) rfl hb32 rfl ?_
            refine S_nil ?_
            refine .hd (or_t hb32) ?_
            repeat (first | with_reducible exact WS.refl _ | refine WS.add ?_ rfl)
          ·
            refine S_on rfl rfl hb32 ?_
            refine S_in ?_
            refine S_m (v := .int _ _) rfl ?_
            refine S_nil ?_
            refine S_on rfl rfl hb32 ?_
            refine S_in ?_
            refine S_m (v := .int _ _) rfl ?_
            refine S_nil ?_
            refine S_on rfl rfl hb32 ?_
            refine S_in ?_
            refine S_bin rfl rfl (ev_lss ..) ?_
            refine S_nil ?_
            refine S_pickF (v := .bool _) rfl hb32 rfl ?_
            refine S_nil ?_
            refine .hd (or_f hb32) ?_
            repeat (first | with_reducible exact WS.refl _ | refine WS.add ?_ rfl)
          refine S_m (v := .bool _) rfl ?_
          refine S_two (b := (((decide (p4 < p0)) || (decide ((IntKind.wrap .i64 (p0 + p2)) < p4))) || (decide (p5 < p1)))) 6 171 (.bool ((((decide (p4 < p0)) || (decide ((IntKind.wrap .i64 (p0 + p2)) < p4))) || (decide (p5 < p1))) || (decide ((IntKind.wrap .i64 (p1 + p3)) < p5)))) (fun hb33 => ?_) (fun hb33 => ?_) ?_
          ·
            refine S_off rfl rfl hb33 ?_
            refine S_offD ?_
            refine S_off rfl rfl hb33 ?_
            refine S_offD ?_
            refine S_off rfl rfl hb33 ?_
            refine S_offD ?_
            refine S_off rfl rfl hb33 ?_
            refine S_offD ?_
            refine S_off rfl rfl hb33 ?_
            refine S_offD ?_
            refine S_pickT (v := .bool _) rfl hb33 rfl ?_
            refine S_nil ?_
            refine .hd (or_t hb33) ?_
            repeat (first | with_reducible exact WS.refl _ | refine WS.add ?_ rfl)
          ·
            refine S_on rfl rfl hb33 ?_
            refine S_in ?_
            refine S_m (v := .int _ _) rfl ?_
            refine S_nil ?_
            refine S_on rfl rfl hb33 ?_
            refine S_in ?_
            refine S_m (v := .int _ _) rfl ?_
            refine S_nil ?_
            refine S_on rfl rfl hb33 ?_
            refine S_in ?_
            refine S_m (v := .int _ _) rfl ?_
            refine S_nil ?_
            refine S_on rfl rfl hb33 ?_
            refine S_in ?_
            refine S_bin rfl rfl (ev_add ..) ?_
            refine S_nil ?_
            refine S_on rfl rfl hb33 ?_
            refine S_in ?_
            refine S_bin rfl rfl (ev_gtr ..) ?_
            refine S_nil ?_
            refine S_pickF (v := .bool _) rfl hb33 rfl ?_
            refine S_nil ?_
            refine .hd (or_f hb33) ?_
            repeat (first | with_reducible exact WS.refl _ | refine WS.add ?_ rfl)
          refine S_a (v := .bool _) rfl ?_
          refine S_nil ?_
          refine C_seq ?_
          refine C_reg (mdl []) ?_
          refine S_a (v := .int _ _) rfl ?_
          refine S_nil ?_
          refine C_join hF (fun (a35 : Int) s' => OK h [] ∧ WS s' ⟨mkSl 267 [(2, .int .i64 p2), (3, .int .i64 p3), (4, .int .i64 p4), (5, .int .i64 p5), (15, .sl 2 (List.map c_T_trace_Stroke [(⟨[x17, x18, x19, x20], true⟩ : T_trace_Stroke)]) 0), (16, .sl 2 (List.map c_T_trace_Stroke [(⟨((([] : List (Nat × Nat)) ++ [x17, x18, x19, x20]) ++ [x17, x18, x19, x20]), true⟩ : T_trace_Stroke), (⟨[x21, x22, x23, x24], false⟩ : T_trace_Stroke)]) 0), (17, .sl 2 (List.map c_T_trace_Stroke [(⟨[x21, x22, x23, x24], true⟩ : T_trace_Stroke)]) 0), (18, .bool ((((decide (p0 < p4)) && (decide (p4 < (IntKind.wrap .i64 (p0 + p2))))) && (decide (p1 < p5))) && (decide (p5 < (IntKind.wrap .i64 (p1 + p3)))))), (19, .bool ((((decide (p4 < p0)) || (decide ((IntKind.wrap .i64 (p0 + p2)) < p4))) || (decide (p5 < p1))) || (decide ((IntKind.wrap .i64 (p1 + p3)) < p5)))), (20, .int .i64 a35)], Hp h []⟩) (fun J36 hF => ?_) ?_
          ·
            refine C_seq ?_
            refine C_reg (mdl []) ?_
            refine S_m (v := .bool _) rfl ?_
            refine S_nil ?_
            refine C_if (b := ((((decide (p0 < p4)) && (decide (p4 < (IntKind.wrap .i64 (p0 + p2))))) && (decide (p1 < p5))) && (decide (p5 < (IntKind.wrap .i64 (p1 + p3)))))) rfl hF (fun hb37 hF => ?_) (fun hb37 hF => ?_)
            ·
              refine C_reg (mdl []) ?_
              refine S_a (v := .int _ _) rfl ?_
              refine S_nil ?_
              have hwo : WO [(r27, .room)] [] := (.drop .nil)
              exact ⟨(1 : Int), hF, (hwo.spec ok).1, WS.mk' (.cons (.refl _) (.cons (.refl _) (.cons (.refl _) (.cons (.refl _) (.cons (.refl _) (.cons (.refl _) (.cons (.refl _) (.cons (.refl _) (.cons (.refl _) (.cons (.refl _) .nil)))))))))) ok hwo⟩
            ·
              refine WP_skip ?_
              have hwo : WO [(r27, .room)] [] := (.drop .nil)
              exact ⟨(0 : Int), hF, (hwo.spec ok).1, WS.mk' (.cons (.refl _) (.cons (.refl _) (.cons (.refl _) (.cons (.refl _) (.cons (.refl _) (.cons (.refl _) (.cons (.refl _) (.cons (.refl _) (.cons (.refl _) (.cons (.refl _) .nil)))))))))) ok hwo⟩
          ·
            rintro a35 s' hF ⟨ok, hws⟩
            refine WP_ws hws ?_
            clear hws s'
            refine C_seq ?_
            refine C_reg (mdl []) ?_
            refine S_m (v := .sl _ _ _) rfl ?_
            refine S_m (v := .int _ _) rfl ?_
            refine S_m (v := .int _ _) rfl ?_
            refine S_call (F_lecternlaw10_spot_ok _ hF fun x38 _ hF => ?_) (.cons (.refl _) (.cons (.refl _) (.nil)))
            refine S_call (F_trace_Around_ok _ hF fun x39 _ hF => ?_) (.cons (.refl _) (.cons (.refl _) (.nil)))
            refine S_m (v := .tup _) rfl ?_
            refine S_ext rfl rfl ?_
            refine S_ext rfl rfl ?_
            refine S_ext rfl rfl ?_
            refine S_a (v := .int _ _) rfl ?_
            refine S_a (v := .bool _) rfl ?_
            refine S_a (v := .int _ _) rfl ?_
            refine S_nil ?_
            refine C_seq ?_
            refine C_reg (mdl []) ?_
            refine S_m (v := .sl _ _ _) rfl ?_
            refine S_m (v := .int _ _) rfl ?_
            refine S_m (v := .int _ _) rfl ?_
            refine S_call (F_lecternlaw10_spot_ok _ hF fun x40 _ hF => ?_) (.cons (.refl _) (.cons (.refl _) (.nil)))
            refine S_call (F_trace_Around_ok _ hF fun x41 _ hF => ?_) (.cons (.refl _) (.cons (.refl _) (.nil)))
            refine S_m (v := .tup _) rfl ?_
            refine S_ext rfl rfl ?_
            refine S_ext rfl rfl ?_
            refine S_ext rfl rfl ?_
            refine S_a (v := .int _ _) rfl ?_
            refine S_a (v := .bool _) rfl ?_
            refine S_a (v := .int _ _) rfl ?_
            refine S_nil ?_
            refine C_seq ?_
            refine C_reg (mdl []) ?_
            refine S_m (v := .sl _ _ _) rfl ?_
            refine S_m (v := .int _ _) rfl ?_
            refine S_m (v := .int _ _) rfl ?_
            refine S_call (F_lecternlaw10_spot_ok _ hF fun x42 _ hF => ?_) (.cons (.refl _) (.cons (.refl _) (.nil)))
            refine S_call (F_trace_Around_ok _ hF fun x43 _ hF => ?_) (.cons (.refl _) (.cons (.refl _) (.nil)))
            refine S_m (v := .tup _) rfl ?_
            refine S_ext rfl rfl ?_
            refine S_ext rfl rfl ?_
            refine S_ext rfl rfl ?_
            refine S_a (v := .int _ _) rfl ?_
            refine S_a (v := .bool _) rfl ?_
            refine S_a (v := .int _ _) rfl ?_
            refine S_nil ?_
            refine C_seq ?_
            refine C_reg (mdl []) ?_
            refine S_m (v := .sl _ _ _) rfl ?_
            refine S_call (F_trace_Area_ok _ hF fun x44 _ hF => ?_) (.cons (.refl _) (.nil))
            refine S_m (v := .tup _) rfl ?_
            refine S_ext rfl rfl ?_
            refine S_ext rfl rfl ?_
            refine S_a (v := .float _ _) rfl ?_
            refine S_a (v := .int _ _) rfl ?_
            refine S_nil ?_
            refine C_seq ?_
            refine C_reg (mdl []) ?_
            refine S_m (v := .bool _) rfl ?_
            refine S_un rfl (ev_not _) ?_
            refine S_m (v := .bool _) rfl ?_
            refine S_two (b := (!((((decide (p0 < p4)) && (decide (p4 < (IntKind.wrap .i64 (p0 + p2))))) && (decide (p1 < p5))) && (decide (p5 < (IntKind.wrap .i64 (p1 + p3))))))) 3 210 (.bool ((!((((decide (p0 < p4)) && (decide (p4 < (IntKind.wrap .i64 (p0 + p2))))) && (decide (p1 < p5))) && (decide (p5 < (IntKind.wrap .i64 (p1 + p3)))))) && (!((((decide (p4 < p0)) || (decide ((IntKind.wrap .i64 (p0 + p2)) < p4))) || (decide (p5 < p1))) || (decide ((IntKind.wrap .i64 (p1 + p3)) < p5)))))) (fun hb45 => ?_) (fun hb45 => ?_) ?_
            ·
              refine S_on rfl rfl hb45 ?_
              refine S_in ?_
              refine S_m (v := .bool _) rfl ?_
              refine S_nil ?_
              refine S_on rfl rfl hb45 ?_
              refine S_in ?_
              refine S_un rfl (ev_not _) ?_
              refine S_nil ?_
              refine S_pickT (v := .bool _) rfl hb45 rfl ?_
              refine S_nil ?_
              refine .hd (and_t hb45) ?_
              repeat (first | with_reducible exact WS.refl _ | refine WS.add ?_ rfl)
            ·
              refine S_off rfl rfl hb45 ?_
              refine S_offD ?_
              refine S_off rfl rfl hb45 ?_
              refine S_offD ?_
              refine S_pickF (v := .bool _) rfl hb45 rfl ?_
              refine S_nil ?_
              refine .hd (and_f hb45) ?_
              repeat (first | with_reducible exact WS.refl _ | refine WS.add ?_ rfl)
            refine S_a (v := .bool _) rfl ?_
            refine S_nil ?_
            refine C_seq ?_
            refine C_reg (mdl []) ?_
            refine S_m (v := .int _ _) rfl ?_
            refine S_bin rfl rfl (ev_eql ..) ?_
            refine S_m (v := .bool _) rfl ?_
            refine S_two (b := (x39.2.2 == (0 : Int))) 3 216 (.bool ((x39.2.2 == (0 : Int)) && (x41.2.2 == (0 : Int)))) (fun hb46 => ?_) (fun hb46 => ?_) ?_
            ·
              refine S_on rfl rfl hb46 ?_
              refine S_in ?_
              refine S_m (v := .int _ _) rfl ?_
              refine S_nil ?_
              refine S_on rfl rfl hb46 ?_
              refine S_in ?_
              refine S_bin rfl rfl (ev_eql ..) ?_
              refine S_nil ?_
              refine S_pickT (v := .bool _) rfl hb46 rfl ?_
              refine S_nil ?_
              refine .hd (and_t hb46) ?_
              repeat (first | with_reducible exact WS.refl _ | refine WS.add ?_ rfl)
            ·
              refine S_off rfl rfl hb46 ?_
              refine S_offD ?_
              refine S_off rfl rfl hb46 ?_
              refine S_offD ?_
              refine S_pickF (v := .bool _) rfl hb46 rfl ?_
              refine S_nil ?_
              refine .hd (and_f hb46) ?_
              repeat (first | with_reducible exact WS.refl _ | refine WS.add ?_ rfl)
            refine S_m (v := .bool _) rfl ?_
            refine S_two (b := ((x39.2.2 == (0 : Int)) && (x41.2.2 == (0 : Int)))) 3 220 (.bool (((x39.2.2 == (0 : Int)) && (x41.2.2 == (0 : Int))) && (x43.2.2 == (0 : Int)))) (fun hb47 => ?_) (fun hb47 => ?_) ?_
            ·
              refine S_on rfl rfl hb47 ?_
              refine S_in ?_
              refine S_m (v := .int _ _) rfl ?_
              refine S_nil ?_
              refine S_on rfl rfl hb47 ?_
              refine S_in ?_
              refine S_bin rfl rfl (ev_eql ..) ?_
              refine S_nil ?_
              refine S_pickT (v := .bool _) rfl hb47 rfl ?_
              refine S_nil ?_
              refine .hd (and_t hb47) ?_
              repeat (first | with_reducible exact WS.refl _ | refine WS.add ?_ rfl)
            ·
              refine S_off rfl rfl hb47 ?_
              refine S_offD ?_
              refine S_off rfl rfl hb47 ?_
              refine S_offD ?_
              refine S_pickF (v := .bool _) rfl hb47 rfl ?_
              refine S_nil ?_
              refine .hd (and_f hb47) ?_
              repeat (first | with_reducible exact WS.refl _ | refine WS.add ?_ rfl)
            refine S_m (v := .bool _) rfl ?_
            refine S_two (b := (((x39.2.2 == (0 : Int)) && (x41.2.2 == (0 : Int))) && (x43.2.2 == (0 : Int)))) 3 224 (.bool ((((x39.2.2 == (0 : Int)) && (x41.2.2 == (0 : Int))) && (x43.2.2 == (0 : Int))) && (x44.2 == (0 : Int)))) (fun hb48 => ?_) (fun hb48 => ?_) ?_
            ·
              refine S_on rfl rfl hb48 ?_
              refine S_in ?_
              refine S_m (v := .int _ _) rfl ?_
              refine S_nil ?_
              refine S_on rfl rfl hb48 ?_
              refine S_in ?_
              refine S_bin rfl rfl (ev_eql ..) ?_
              refine S_nil ?_
              refine S_pickT (v := .bool _) rfl hb48 rfl ?_
              refine S_nil ?_
              refine .hd (and_t hb48) ?_
              repeat (first | with_reducible exact WS.refl _ | refine WS.add ?_ rfl)
            ·
              refine S_off rfl rfl hb48 ?_
              refine S_offD ?_
              refine S_off rfl rfl hb48 ?_
              refine S_offD ?_
              refine S_pickF (v := .bool _) rfl hb48 rfl ?_
              refine S_nil ?_
              refine .hd (and_f hb48) ?_
              repeat (first | with_reducible exact WS.refl _ | refine WS.add ?_ rfl)
            refine S_m (v := .bool _) rfl ?_
            refine S_two (b := ((((x39.2.2 == (0 : Int)) && (x41.2.2 == (0 : Int))) && (x43.2.2 == (0 : Int))) && (x44.2 == (0 : Int)))) 4 229 (.bool (((((x39.2.2 == (0 : Int)) && (x41.2.2 == (0 : Int))) && (x43.2.2 == (0 : Int))) && (x44.2 == (0 : Int))) && (x39.1 == a35))) (fun hb49 => ?_) (fun hb49 => ?_) ?_
            ·
              refine S_on rfl rfl hb49 ?_
              refine S_in ?_
              refine S_m (v := .int _ _) rfl ?_
              refine S_nil ?_
              refine S_on rfl rfl hb49 ?_
              refine S_in ?_
              refine S_m (v := .int _ _) rfl ?_
              refine S_nil ?_
              refine S_on rfl rfl hb49 ?_
              refine S_in ?_
              refine S_bin rfl rfl (ev_eql ..) ?_
              refine S_nil ?_
              refine S_pickT (v := .bool _) rfl hb49 rfl ?_
              refine S_nil ?_
              refine .hd (and_t hb49) ?_
              repeat (first | with_reducible exact WS.refl _ | refine WS.add ?_ rfl)
            ·
              refine S_off rfl rfl hb49 ?_
              refine S_offD ?_
              refine S_off rfl rfl hb49 ?_
              refine S_offD ?_
              refine S_off rfl rfl hb49 ?_
              refine S_offD ?_
              refine S_pickF (v := .bool _) rfl hb49 rfl ?_
              refine S_nil ?_
              refine .hd (and_f hb49) ?_
              repeat (first | with_reducible exact WS.refl _ | refine WS.add ?_ rfl)
            refine S_m (v := .bool _) rfl ?_
            refine S_two (b := (((((x39.2.2 == (0 : Int)) && (x41.2.2 == (0 : Int))) && (x43.2.2 == (0 : Int))) && (x44.2 == (0 : Int))) && (x39.1 == a35))) 5 235 (.bool ((((((x39.2.2 == (0 : Int)) && (x41.2.2 == (0 : Int))) && (x43.2.2 == (0 : Int))) && (x44.2 == (0 : Int))) && (x39.1 == a35)) && (x41.1 == (IntKind.wrap .i64 ((2 : Int) * a35))))) (fun hb50 => ?_) (fun hb50 => ?_) ?_
            ·
              refine S_on rfl rfl hb50 ?_
              refine S_in ?_
              refine S_m (v := .int _ _) rfl ?_
              refine S_nil ?_
              refine S_on rfl rfl hb50 ?_
              refine S_in ?_
              refine S_m (v := .int _ _) rfl ?_
              refine S_nil ?_
              refine S_on rfl rfl hb50 ?_
              refine S_in ?_
              refine S_bin rfl rfl (ev_mul ..) ?_
              refine S_nil ?_
              refine S_on rfl rfl hb50 ?_
              refine S_in ?_
              refine S_bin rfl rfl (ev_eql ..) ?_
              refine S_nil ?_
              refine S_pickT (v := .bool _) rfl hb50 rfl ?_
              refine S_nil ?_
              refine .hd (and_t hb50) ?_
              repeat (first | with_reducible exact WS.refl _ | refine WS.add ?_ rfl)
            ·
              refine S_off rfl rfl hb50 ?_
              refine S_offD ?_
              refine S_off rfl rfl hb50 ?_
              refine S_offD ?_
              refine S_off rfl rfl hb50 ?_
              refine S_offD ?_
              refine S_off rfl rfl hb50 ?_
              refine S_offD ?_
              refine S_pickF (v := .bool _) rfl hb50 rfl ?_
              refine S_nil ?_
              refine .hd (and_f hb50) ?_
              repeat (first | with_reducible exact WS.refl _ | refine WS.add ?_ rfl)
            refine S_m (v := .bool _) rfl ?_
            refine S_two (b := ((((((x39.2.2 == (0 : Int)) && (x41.2.2 == (0 : Int))) && (x43.2.2 == (0 : Int))) && (x44.2 == (0 : Int))) && (x39.1 == a35)) && (x41.1 == (IntKind.wrap .i64 ((2 : Int) * a35))))) 5 241 (.bool (((((((x39.2.2 == (0 : Int)) && (x41.2.2 == (0 : Int))) && (x43.2.2 == (0 : Int))) && (x44.2 == (0 : Int))) && (x39.1 == a35)) && (x41.1 == (IntKind.wrap .i64 ((2 : Int) * a35)))) && (x43.1 == (IntKind.wrap .i64 (0 - a35))))) (fun hb51 => ?_) (fun hb51 => ?_) ?_
            ·
              refine S_on rfl rfl hb51 ?_
              refine S_in ?_
              refine S_m (v := .int _ _) rfl ?_
              refine S_nil ?_
              refine S_on rfl rfl hb51 ?_
              refine S_in ?_
              refine S_m (v := .int _ _) rfl ?_
              refine S_nil ?_
              refine S_on rfl rfl hb51 ?_
              refine S_in ?_
              refine S_un rfl (ev_neg ..) ?_
              refine S_nil ?_
              refine S_on rfl rfl hb51 ?_
              refine S_in ?_
              refine S_bin rfl rfl (ev_eql ..) ?_
              refine S_nil ?_
              refine S_pickT (v := .bool _) rfl hb51 rfl ?_
              refine S_nil ?_
              refine .hd (and_t hb51) ?_
              repeat (first | with_reducible exact WS.refl _ | refine WS.add ?_ rfl)
            ·
              refine S_off rfl rfl hb51 ?_
              refine S_offD ?_
              refine S_off rfl rfl hb51 ?_
              refine S_offD ?_
              refine S_off rfl rfl hb51 ?_
              refine S_offD ?_
              refine S_off rfl rfl hb51 ?_
              refine S_offD ?_
              refine S_pickF (v := .bool _) rfl hb51 rfl ?_
              refine S_nil ?_
              refine .hd (and_f hb51) ?_
              repeat (first | with_reducible exact WS.refl _ | refine WS.add ?_ rfl)
            refine S_m (v := .bool _) rfl ?_
            refine S_two (b := (((((((x39.2.2 == (0 : Int)) && (x41.2.2 == (0 : Int))) && (x43.2.2 == (0 : Int))) && (x44.2 == (0 : Int))) && (x39.1 == a35)) && (x41.1 == (IntKind.wrap .i64 ((2 : Int) * a35)))) && (x43.1 == (IntKind.wrap .i64 (0 - a35))))) 4 246 (.bool ((((((((x39.2.2 == (0 : Int)) && (x41.2.2 == (0 : Int))) && (x43.2.2 == (0 : Int))) && (x44.2 == (0 : Int))) && (x39.1 == a35)) && (x41.1 == (IntKind.wrap .i64 ((2 : Int) * a35)))) && (x43.1 == (IntKind.wrap .i64 (0 - a35)))) && (x39.2.1 == ((!((((decide (p0 < p4)) && (decide (p4 < (IntKind.wrap .i64 (p0 + p2))))) && (decide (p1 < p5))) && (decide (p5 < (IntKind.wrap .i64 (p1 + p3)))))) && (!((((decide (p4 < p0)) || (decide ((IntKind.wrap .i64 (p0 + p2)) < p4))) || (decide (p5 < p1))) || (decide ((IntKind.wrap .i64 (p1 + p3)) < p5)))))))) (fun hb52 => ?_) (fun hb52 => ?_) ?_
            ·
              refine S_on rfl rfl hb52 ?_
              refine S_in ?_
              refine S_m (v := .bool _) rfl ?_
              refine S_nil ?_
              refine S_on rfl rfl hb52 ?_
              refine S_in ?_
              refine S_m (v := .bool _) rfl ?_
              refine S_nil ?_
              refine S_on rfl rfl hb52 ?_
              refine S_in ?_
              refine S_bin rfl rfl (e_beq ty_bo_4) ?_
              refine S_nil ?_
              refine S_pickT (v := .bool _) rfl hb52 rfl ?_
              refine S_nil ?_
              refine .hd (and_t hb52) ?_
              repeat (first | with_reducible exact WS.refl _ | refine WS.add ?_ rfl)
            ·
              refine S_off rfl rfl hb52 ?_
              refine S_offD ?_
              refine S_off rfl rfl hb52 ?_
              refine S_offD ?_
              refine S_off rfl rfl hb52 ?_
              refine S_offD ?_
              refine S_pickF (v := .bool _) rfl hb52 rfl ?_
              refine S_nil ?_
              refine .hd (and_f hb52) ?_
              repeat (first | with_reducible exact WS.refl _ | refine WS.add ?_ rfl)
            refine S_m (v := .bool _) rfl ?_
            refine S_two (b := ((((((((x39.2.2 == (0 : Int)) && (x41.2.2 == (0 : Int))) && (x43.2.2 == (0 : Int))) && (x44.2 == (0 : Int))) && (x39.1 == a35)) && (x41.1 == (IntKind.wrap .i64 ((2 : Int) * a35)))) && (x43.1 == (IntKind.wrap .i64 (0 - a35)))) && (x39.2.1 == ((!((((decide (p0 < p4)) && (decide (p4 < (IntKind.wrap .i64 (p0 + p2))))) && (decide (p1 < p5))) && (decide (p5 < (IntKind.wrap .i64 (p1 + p3)))))) && (!((((decide (p4 < p0)) || (decide ((IntKind.wrap .i64 (p0 + p2)) < p4))) || (decide (p5 < p1))) || (decide ((IntKind.wrap .i64 (p1 + p3)) < p5)))))))) 4 251 (.bool (((((((((x39.2.2 == (0 : Int)) && (x41.2.2 == (0 : Int))) && (x43.2.2 == (0 : Int))) && (x44.2 == (0 : Int))) && (x39.1 == a35)) && (x41.1 == (IntKind.wrap .i64 ((2 : Int) * a35)))) && (x43.1 == (IntKind.wrap .i64 (0 - a35)))) && (x39.2.1 == ((!((((decide (p0 < p4)) && (decide (p4 < (IntKind.wrap .i64 (p0 + p2))))) && (decide (p1 < p5))) && (decide (p5 < (IntKind.wrap .i64 (p1 + p3)))))) && (!((((decide (p4 < p0)) || (decide ((IntKind.wrap .i64 (p0 + p2)) < p4))) || (decide (p5 < p1))) || (decide ((IntKind.wrap .i64 (p1 + p3)) < p5))))))) && (x41.2.1 == ((!((((decide (p0 < p4)) && (decide (p4 < (IntKind.wrap .i64 (p0 + p2))))) && (decide (p1 < p5))) && (decide (p5 < (IntKind.wrap .i64 (p1 + p3)))))) && (!((((decide (p4 < p0)) || (decide ((IntKind.wrap .i64 (p0 + p2)) < p4))) || (decide (p5 < p1))) || (decide ((IntKind.wrap .i64 (p1 + p3)) < p5)))))))) (fun hb53 => ?_) (fun hb53 => ?_) ?_
            ·
              refine S_on rfl rfl hb53 ?_
              refine S_in ?_
              refine S_m (v := .bool _) rfl ?_
              refine S_nil ?_
              refine S_on rfl rfl hb53 ?_
              refine S_in ?_
              refine S_m (v := .bool _) rfl ?_
              refine S_nil ?_
              refine S_on rfl rfl hb53 ?_
              refine S_in ?_
              refine S_bin rfl rfl (e_beq ty_bo_4) ?_
              refine S_nil ?_
              refine S_pickT (v := .bool _) rfl hb53 rfl ?_
              refine S_nil ?_
              refine .hd (and_t hb53) ?_
              repeat (first | with_reducible exact WS.refl _ | refine WS.add ?_ rfl)
            ·
              refine S_off rfl rfl hb53 ?_
              refine S_offD ?_
              refine S_off rfl rfl hb53 ?_
              refine S_offD ?_
              refine S_off rfl rfl hb53 ?_
              refine S_offD ?_
              refine S_pickF (v := .bool _) rfl hb53 rfl ?_
              refine S_nil ?_
              refine .hd (and_f hb53) ?_
              repeat (first | with_reducible exact WS.refl _ | refine WS.add ?_ rfl)
            refine S_m (v := .bool _) rfl ?_
            refine S_two (b := (((((((((x39.2.2 == (0 : Int)) && (x41.2.2 == (0 : Int))) && (x43.2.2 == (0 : Int))) && (x44.2 == (0 : Int))) && (x39.1 == a35)) && (x41.1 == (IntKind.wrap .i64 ((2 : Int) * a35)))) && (x43.1 == (IntKind.wrap .i64 (0 - a35)))) && (x39.2.1 == ((!((((decide (p0 < p4)) && (decide (p4 < (IntKind.wrap .i64 (p0 + p2))))) && (decide (p1 < p5))) && (decide (p5 < (IntKind.wrap .i64 (p1 + p3)))))) && (!((((decide (p4 < p0)) || (decide ((IntKind.wrap .i64 (p0 + p2)) < p4))) || (decide (p5 < p1))) || (decide ((IntKind.wrap .i64 (p1 + p3)) < p5))))))) && (x41.2.1 == ((!((((decide (p0 < p4)) && (decide (p4 < (IntKind.wrap .i64 (p0 + p2))))) && (decide (p1 < p5))) && (decide (p5 < (IntKind.wrap .i64 (p1 + p3)))))) && (!((((decide (p4 < p0)) || (decide ((IntKind.wrap .i64 (p0 + p2)) < p4))) || (decide (p5 < p1))) || (decide ((IntKind.wrap .i64 (p1 + p3)) < p5)))))))) 4 256 (.bool ((((((((((x39.2.2 == (0 : Int)) && (x41.2.2 == (0 : Int))) && (x43.2.2 == (0 : Int))) && (x44.2 == (0 : Int))) && (x39.1 == a35)) && (x41.1 == (IntKind.wrap .i64 ((2 : Int) * a35)))) && (x43.1 == (IntKind.wrap .i64 (0 - a35)))) && (x39.2.1 == ((!((((decide (p0 < p4)) && (decide (p4 < (IntKind.wrap .i64 (p0 + p2))))) && (decide (p1 < p5))) && (decide (p5 < (IntKind.wrap .i64 (p1 + p3)))))) && (!((((decide (p4 < p0)) || (decide ((IntKind.wrap .i64 (p0 + p2)) < p4))) || (decide (p5 < p1))) || (decide ((IntKind.wrap .i64 (p1 + p3)) < p5))))))) && (x41.2.1 == ((!((((decide (p0 < p4)) && (decide (p4 < (IntKind.wrap .i64 (p0 + p2))))) && (decide (p1 < p5))) && (decide (p5 < (IntKind.wrap .i64 (p1 + p3)))))) && (!((((decide (p4 < p0)) || (decide ((IntKind.wrap .i64 (p0 + p2)) < p4))) || (decide (p5 < p1))) || (decide ((IntKind.wrap .i64 (p1 + p3)) < p5))))))) && (x43.2.1 == ((!((((decide (p0 < p4)) && (decide (p4 < (IntKind.wrap .i64 (p0 + p2))))) && (decide (p1 < p5))) && (decide (p5 < (IntKind.wrap .i64 (p1 + p3)))))) && (!((((decide (p4 < p0)) || (decide ((IntKind.wrap .i64 (p0 + p2)) < p4))) || (decide (p5 < p1))) || (decide ((IntKind.wrap .i64 (p1 + p3)) < p5)))))))) (fun hb54 => ?_) (fun hb54 => ?_) ?_
            ·
              refine S_on rfl rfl hb54 ?_
              refine S_in ?_
              refine S_m (v := .bool _) rfl ?_
              refine S_nil ?_
              refine S_on rfl rfl hb54 ?_
              refine S_in ?_
              refine S_m (v := .bool _) rfl ?_
              refine S_nil ?_
              refine S_on rfl rfl hb54 ?_
              refine S_in ?_
              refine S_bin rfl rfl (e_beq ty_bo_4) ?_
              refine S_nil ?_
              refine S_pickT (v := .bool _) rfl hb54 rfl ?_
              refine S_nil ?_
              refine .hd (and_t hb54) ?_
              repeat (first | with_reducible exact WS.refl _ | refine WS.add ?_ rfl)
            ·
              refine S_off rfl rfl hb54 ?_
              refine S_offD ?_
              refine S_off rfl rfl hb54 ?_
              refine S_offD ?_
              refine S_off rfl rfl hb54 ?_
              refine S_offD ?_
              refine S_pickF (v := .bool _) rfl hb54 rfl ?_
              refine S_nil ?_
              refine .hd (and_f hb54) ?_
              repeat (first | with_reducible exact WS.refl _ | refine WS.add ?_ rfl)
            refine S_m (v := .bool _) rfl ?_
            refine S_twoJ 9 266 hF (fun J56 hb55 hF => ?_) (fun J56 hb55 hF => ?_) (fun v57 hF => ?_)
            ·
              refine S_on rfl rfl hb55 ?_
              refine S_in ?_
              refine S_m (v := .float _ _) rfl ?_
              refine S_nil ?_
              refine S_on rfl rfl hb55 ?_
              refine S_in ?_
              refine S_m (v := .int _ _) rfl ?_
              refine S_nil ?_
              refine S_on rfl rfl hb55 ?_
              refine S_in ?_
              refine S_conv rfl (e_i2f ty_ki_40 ty_fa_40 ty_un_3) ?_
              refine S_nil ?_
              refine S_on rfl rfl hb55 ?_
              refine S_in ?_
              refine S_fmul (a := (4616189618054758400 : Nat)) (b := (i2f p2)) rfl rfl hF (fun x58 _ hF => ?_)
              refine S_nil ?_
              refine S_on rfl rfl hb55 ?_
              refine S_in ?_
              refine S_m (v := .int _ _) rfl ?_
              refine S_nil ?_
              refine S_on rfl rfl hb55 ?_
              refine S_in ?_
              refine S_conv rfl (e_i2f ty_ki_40 ty_fa_40 ty_un_3) ?_
              refine S_nil ?_
              refine S_on rfl rfl hb55 ?_
              refine S_in ?_
              refine S_fmul (a := x58) (b := (i2f p3)) rfl rfl hF (fun x59 _ hF => ?_)
              refine S_nil ?_
              refine S_on rfl rfl hb55 ?_
              refine S_in ?_
              refine S_bin rfl rfl (e_feq (a := x44.1) (b := x59)) ?_
              refine S_nil ?_
              refine S_pickT (v := .bool _) rfl hb55 rfl ?_
              refine S_nil ?_
              refine ⟨_, hF, .hd (.refl _) ?_⟩
              repeat (first | with_reducible exact WS.refl _ | refine WS.add ?_ rfl)
            ·
              refine S_off rfl rfl hb55 ?_
              refine S_offD ?_
              refine S_off rfl rfl hb55 ?_
              refine S_offD ?_
              refine S_off rfl rfl hb55 ?_
              refine S_offD ?_
              refine S_off rfl rfl hb55 ?_
              refine S_offD ?_
              refine S_off rfl rfl hb55 ?_
              refine S_offD ?_
              refine S_off rfl rfl hb55 ?_
              refine S_offD ?_
              refine S_off rfl rfl hb55 ?_
              refine S_offD ?_
              refine S_off rfl rfl hb55 ?_
              refine S_offD ?_
              refine S_pickF (v := .bool _) rfl hb55 rfl ?_
              refine S_nil ?_
              refine ⟨_, hF, .hd (.refl _) ?_⟩
              repeat (first | with_reducible exact WS.refl _ | refine WS.add ?_ rfl)
            ·
              refine S_a (v := .bool _) rfl ?_
              refine S_nil ?_
              refine WP_ret ?_
              repeat (first | with_reducible refine Exit.sel_ret ?_ | with_reducible refine Exit.blk_ret ?_ | with_reducible refine Exit.jmp_ret ?_)
              refine C_ret (fn := Tryd.f7) rfl (.tmp (v := .bool v57) rfl .nil) ?_
              exact ⟨_, _, (.refl _), WH.refl _, _, F_some hF, rfl⟩
theorem F_lecternlaw10_TraceBack_w (p0 : List T_lecternlaw10_Line) (p1 : List UInt8) {G : Bool → Prop} (h : Heap) (hF : OptP (F_lecternlaw10_TraceBack p0 p1) G) : CallsA Tryd.prog 5 [.sl 2 (List.map c_T_lecternlaw10_Line p0) 0, .str p1] h fun d h' => ∃ r, G r ∧ d = .bool r := by
  refine CallsA.ret ?_
  refine C_body Tryd.func5 rfl en_5 Tryd.ntmps5 rfl (fun ok => ?_)
  rw [F_lecternlaw10_TraceBack] at hF
  refine C_seq ?_
  refine C_reg (mdl []) ?_
  refine S_a (v := .bool _) rfl ?_
  refine S_nil ?_
  refine C_seq ?_
  refine C_seq ?_
  refine C_reg (mdl []) ?_
  refine S_call (F_lecternlaw10_awake_ok _ hF fun x1 _ hF => ?_) (.nil)
  refine S_un rfl (ev_not _) ?_
  refine S_nil ?_
  refine C_if (b := (!x1)) rfl hF (fun hb2 hF => ?_) (fun hb2 hF => ?_)
  ·
    refine C_seq ?_
    refine C_reg (mdl []) ?_
    refine S_a (v := .bool _) rfl ?_
    refine S_nil ?_
    refine WP_ret ?_
    repeat (first | with_reducible refine Exit.sel_ret ?_ | with_reducible refine Exit.blk_ret ?_ | with_reducible refine Exit.jmp_ret ?_)
    refine C_ret (fn := Tryd.f5) rfl (.tmp (v := .bool false) rfl .nil) ?_
    exact ⟨_, _, (.refl _), WH.refl _, _, F_some hF, rfl⟩
  ·
    refine WP_skip ?_
    refine C_seq ?_
    refine C_reg (mdl []) ?_
    refine S_m (v := .sl _ _ _) rfl ?_
    refine S_call (F_lecternlaw10_figure_ok _ hF fun x3 _ hF => ?_) (.cons (.refl _) (.nil))
    refine S_m (v := .tup _) rfl ?_
    refine S_ext rfl rfl ?_
    refine S_ext rfl rfl ?_
    refine S_ext rfl rfl ?_
    refine S_a (v := .sl _ _ _) rfl ?_
    refine S_a (v := .sl _ _ _) rfl ?_
    refine S_a (v := .bool _) rfl ?_
    refine S_nil ?_
    refine C_join hF (fun (_ : Unit) s' => OK h [] ∧ WS s' ⟨mkSl 96 [(1, .str p1)], Hp h []⟩) (fun J13 hF => ?_) ?_
    ·
      refine C_seq ?_
      refine C_reg (mdl []) ?_
      refine S_m (v := .bool _) rfl ?_
      refine S_nil ?_
      refine C_if (b := x3.2.2) rfl hF (fun hb14 hF => ?_) (fun hb14 hF => ?_)
      ·
        refine C_seq ?_
        refine C_reg (mdl []) ?_
        refine S_m (v := .sl _ _ _) rfl ?_
        refine S_call (F_trace_Show_ok _ hF fun x15 _ hF => ?_) (.cons (.refl _) (.nil))
        refine S_m (v := .tup _) rfl ?_
        refine S_ext rfl rfl ?_
        refine S_ext rfl rfl ?_
        refine S_a (v := .str _) rfl ?_
        refine S_a (v := .int _ _) rfl ?_
        refine S_nil ?_
        refine C_seq ?_
        refine C_reg (mdl []) ?_
        refine S_m (v := .str _) rfl ?_
        refine S_call (F_trace_Read_ok _ hF fun x16 _ hF => ?_) (.cons (.refl _) (.nil))
        refine S_m (v := .tup _) rfl ?_
        refine S_ext rfl rfl ?_
        refine S_ext rfl rfl ?_
        refine S_ext rfl rfl ?_
        refine S_a (v := .sl _ _ _) rfl ?_
        refine S_a (v := .int _ _) rfl ?_
        refine S_a (v := .int _ _) rfl ?_
        refine S_nil ?_
        refine C_seq ?_
        refine C_reg (mdl []) ?_
        refine S_m (v := .int _ _) rfl ?_
        refine S_bin rfl rfl (ev_neq ..) ?_
        refine S_m (v := .bool _) rfl ?_
        refine S_two (b := (x15.2 != (0 : Int))) 3 47 (.bool ((x15.2 != (0 : Int)) || (x16.2.2 != (0 : Int)))) (fun hb17 => ?_) (fun hb17 => ?_) ?_
        ·
          refine S_off rfl rfl hb17 ?_
          refine S_offD ?_
          refine S_off rfl rfl hb17 ?_
          refine S_offD ?_
          refine S_pickT (v := .bool _) rfl hb17 rfl ?_
          refine S_nil ?_
          refine .hd (or_t hb17) ?_
          repeat (first | with_reducible exact WS.refl _ | refine WS.add ?_ rfl)
        ·
          refine S_on rfl rfl hb17 ?_
          refine S_in ?_
          refine S_m (v := .int _ _) rfl ?_
          refine S_nil ?_
          refine S_on rfl rfl hb17 ?_
          refine S_in ?_
          refine S_bin rfl rfl (ev_neq ..) ?_
          refine S_nil ?_
          refine S_pickF (v := .bool _) rfl hb17 rfl ?_
          refine S_nil ?_
          refine .hd (or_f hb17) ?_
          repeat (first | with_reducible exact WS.refl _ | refine WS.add ?_ rfl)
        refine S_m (v := .bool _) rfl ?_
        refine S_twoJ 5 53 hF (fun J19 hb18 hF => ?_) (fun J19 hb18 hF => ?_) (fun v20 hF => ?_)
        ·
          refine S_off rfl rfl hb18 ?_
          refine S_offD ?_
          refine S_off rfl rfl hb18 ?_
          refine S_offD ?_
          refine S_off rfl rfl hb18 ?_
          refine S_offD ?_
          refine S_off rfl rfl hb18 ?_
          refine S_offD ?_
          refine S_pickT (v := .bool _) rfl hb18 rfl ?_
          refine S_nil ?_
          refine ⟨_, hF, .hd (.refl _) ?_⟩
          repeat (first | with_reducible exact WS.refl _ | refine WS.add ?_ rfl)
        ·
          refine S_on rfl rfl hb18 ?_
          refine S_in ?_
          refine S_m (v := .sl _ _ _) rfl ?_
          refine S_nil ?_
          refine S_on rfl rfl hb18 ?_
          refine S_in ?_
          refine S_m (v := .sl _ _ _) rfl ?_
          refine S_nil ?_
          refine S_on rfl rfl hb18 ?_
          refine S_in ?_
          refine S_call (F_lecternlaw10_same_ok _ hF fun x21 _ hF => ?_) (.cons (.refl _) (.cons (.refl _) (.nil)))
          refine S_nil ?_
          refine S_on rfl rfl hb18 ?_
          refine S_in ?_
          refine S_un rfl (ev_not _) ?_
          refine S_nil ?_
          refine S_pickF (v := .bool _) rfl hb18 rfl ?_
          refine S_nil ?_
          refine ⟨_, hF, .hd (.refl _) ?_⟩
          repeat (first | with_reducible exact WS.refl _ | refine WS.add ?_ rfl)
        ·
          refine S_nil ?_
          refine C_if (b := v20) rfl hF (fun hb22 hF => ?_) (fun hb22 hF => ?_)
          ·
            refine C_seq ?_
            refine C_reg (mdl []) ?_
            refine S_a (v := .bool _) rfl ?_
            refine S_nil ?_
            refine WP_ret ?_
            repeat (first | with_reducible refine Exit.sel_ret ?_ | with_reducible refine Exit.blk_ret ?_ | with_reducible refine Exit.jmp_ret ?_)
            refine C_ret (fn := Tryd.f5) rfl (.tmp (v := .bool false) rfl .nil) ?_
            exact ⟨_, _, (.refl _), WH.refl _, _, F_some hF, rfl⟩
          ·
            refine WP_skip ?_
            have hwo : WO [] [] := .nil
            exact ⟨(), hF, (hwo.spec ok).1, WS.mk' (.cons (.refl _) .nil) ok hwo⟩
      ·
        refine WP_skip ?_
        have hwo : WO [] [] := .nil
        exact ⟨(), hF, (hwo.spec ok).1, WS.mk' (.cons (.refl _) .nil) ok hwo⟩
    ·
      rintro ⟨⟩ s' hF ⟨ok, hws⟩
      refine WP_ws hws ?_
      clear hws s'
      refine C_seq ?_
      refine C_reg (mdl []) ?_
      refine S_m (v := .str _) rfl ?_
      refine S_call (F_trace_Read_ok _ hF fun x23 _ hF => ?_) (.cons (.refl _) (.nil))
      refine S_m (v := .tup _) rfl ?_
      refine S_ext rfl rfl ?_
      refine S_ext rfl rfl ?_
      refine S_ext rfl rfl ?_
      refine S_a (v := .sl _ _ _) rfl ?_
      refine S_a (v := .int _ _) rfl ?_
      refine S_a (v := .int _ _) rfl ?_
      refine S_nil ?_
      refine C_seq ?_
      refine C_seq ?_
      refine C_reg (mdl []) ?_
      refine S_m (v := .int _ _) rfl ?_
      refine S_bin rfl rfl (ev_neq ..) ?_
      refine S_nil ?_
      refine C_if (b := (x23.2.2 != (0 : Int))) rfl hF (fun hb24 hF => ?_) (fun hb24 hF => ?_)
      ·
        refine C_seq ?_
        refine C_reg (mdl []) ?_
        refine S_m (v := .sl _ _ _) rfl ?_
        refine S_lenL rfl ty_sl_23 ?_
        refine S_bin rfl rfl (ev_eql ..) ?_
        refine S_a (v := .bool _) rfl ?_
        refine S_nil ?_
        refine WP_ret ?_
        repeat (first | with_reducible refine Exit.sel_ret ?_ | with_reducible refine Exit.blk_ret ?_ | with_reducible refine Exit.jmp_ret ?_)
        refine C_ret (fn := Tryd.f5) rfl (.tmp (v := .bool ((x23.1.length : Int) == (0 : Int))) rfl .nil) ?_
        exact ⟨_, _, (.refl _), WH.refl _, _, F_some hF, rfl⟩
      ·
        refine WP_skip ?_
        refine C_seq ?_
        refine C_reg (mdl []) ?_
        refine S_m (v := .sl _ _ _) rfl ?_
        refine S_call (F_trace_Show_ok _ hF fun x25 _ hF => ?_) (.cons (.refl _) (.nil))
        refine S_m (v := .tup _) rfl ?_
        refine S_ext rfl rfl ?_
        refine S_ext rfl rfl ?_
        refine S_a (v := .str _) rfl ?_
        refine S_a (v := .int _ _) rfl ?_
        refine S_nil ?_
        refine C_seq ?_
        refine C_reg (mdl []) ?_
        refine S_m (v := .str _) rfl ?_
        refine S_call (F_trace_Read_ok _ hF fun x26 _ hF => ?_) (.cons (.refl _) (.nil))
        refine S_m (v := .tup _) rfl ?_
        refine S_ext rfl rfl ?_
        refine S_ext rfl rfl ?_
        refine S_ext rfl rfl ?_
        refine S_a (v := .sl _ _ _) rfl ?_
        refine S_a (v := .int _ _) rfl ?_
        refine S_a (v := .int _ _) rfl ?_
        refine S_nil ?_
        refine C_seq ?_
        refine C_reg (mdl []) ?_
        refine S_m (v := .sl _ _ _) rfl ?_
        refine S_call (F_trace_Show_ok _ hF fun x27 _ hF => ?_) (.cons (.refl _) (.nil))
        refine S_m (v := .tup _) rfl ?_
        refine S_ext rfl rfl ?_
        refine S_ext rfl rfl ?_
        refine S_a (v := .str _) rfl ?_
        refine S_a (v := .int _ _) rfl ?_
        refine S_nil ?_
        refine C_seq ?_
        refine C_reg (mdl []) ?_
        refine S_m (v := .int _ _) rfl ?_
        refine S_bin rfl rfl (ev_eql ..) ?_
        refine S_m (v := .bool _) rfl ?_
        refine S_two (b := (x25.2 == (0 : Int))) 3 86 (.bool ((x25.2 == (0 : Int)) && (x26.2.2 == (0 : Int)))) (fun hb28 => ?_) (fun hb28 => ?_) ?_
        ·
          refine S_on rfl rfl hb28 ?_
          refine S_in ?_
          refine S_m (v := .int _ _) rfl ?_
          refine S_nil ?_
          refine S_on rfl rfl hb28 ?_
          refine S_in ?_
          refine S_bin rfl rfl (ev_eql ..) ?_
          refine S_nil ?_
          refine S_pickT (v := .bool _) rfl hb28 rfl ?_
          refine S_nil ?_
          refine .hd (and_t hb28) ?_
          repeat (first | with_reducible exact WS.refl _ | refine WS.add ?_ rfl)
        ·
          refine S_off rfl rfl hb28 ?_
          refine S_offD ?_
          refine S_off rfl rfl hb28 ?_
          refine S_offD ?_
          refine S_pickF (v := .bool _) rfl hb28 rfl ?_
          refine S_nil ?_
          refine .hd (and_f hb28) ?_
          repeat (first | with_reducible exact WS.refl _ | refine WS.add ?_ rfl)
        refine S_m (v := .bool _) rfl ?_
        refine S_two (b := ((x25.2 == (0 : Int)) && (x26.2.2 == (0 : Int)))) 3 90 (.bool (((x25.2 == (0 : Int)) && (x26.2.2 == (0 : Int))) && (x27.2 == (0 : Int)))) (fun hb29 => ?_) (fun hb29 => ?_) ?_
        ·
          refine S_on rfl rfl hb29 ?_
          refine S_in ?_
          refine S_m (v := .int _ _) rfl ?_
          refine S_nil ?_
          refine S_on rfl rfl hb29 ?_
          refine S_in ?_
          refine S_bin rfl rfl (ev_eql ..) ?_
          refine S_nil ?_
          refine S_pickT (v := .bool _) rfl hb29 rfl ?_
          refine S_nil ?_
          refine .hd (and_t hb29) ?_
          repeat (first | with_reducible exact WS.refl _ | refine WS.add ?_ rfl)
        ·
          refine S_off rfl rfl hb29 ?_
          refine S_offD ?_
          refine S_off rfl rfl hb29 ?_
          refine S_offD ?_
          refine S_pickF (v := .bool _) rfl hb29 rfl ?_
          refine S_nil ?_
          refine .hd (and_f hb29) ?_
          repeat (first | with_reducible exact WS.refl _ | refine WS.add ?_ rfl)
        refine S_m (v := .bool _) rfl ?_
        refine S_two (b := (((x25.2 == (0 : Int)) && (x26.2.2 == (0 : Int))) && (x27.2 == (0 : Int)))) 4 95 (.bool ((((x25.2 == (0 : Int)) && (x26.2.2 == (0 : Int))) && (x27.2 == (0 : Int))) && (x25.1 == x27.1))) (fun hb30 => ?_) (fun hb30 => ?_) ?_
        ·
          refine S_on rfl rfl hb30 ?_
          refine S_in ?_
          refine S_m (v := .str _) rfl ?_
          refine S_nil ?_
          refine S_on rfl rfl hb30 ?_
          refine S_in ?_
          refine S_m (v := .str _) rfl ?_
          refine S_nil ?_
          refine S_on rfl rfl hb30 ?_
          refine S_in ?_
          refine S_bin rfl rfl e_seql ?_
          refine S_nil ?_
          refine S_pickT (v := .bool _) rfl hb30 rfl ?_
          refine S_nil ?_
          refine .hd (and_t hb30) ?_
          repeat (first | with_reducible exact WS.refl _ | refine WS.add ?_ rfl)
        ·
          refine S_off rfl rfl hb30 ?_
          refine S_offD ?_
          refine S_off rfl rfl hb30 ?_
          refine S_offD ?_
          refine S_off rfl rfl hb30 ?_
          refine S_offD ?_
          refine S_pickF (v := .bool _) rfl hb30 rfl ?_
          refine S_nil ?_
          refine .hd (and_f hb30) ?_
          repeat (first | with_reducible exact WS.refl _ | refine WS.add ?_ rfl)
        refine S_a (v := .bool _) rfl ?_
        refine S_nil ?_
        refine WP_ret ?_
        repeat (first | with_reducible refine Exit.sel_ret ?_ | with_reducible refine Exit.blk_ret ?_ | with_reducible refine Exit.jmp_ret ?_)
        refine C_ret (fn := Tryd.f5) rfl (.tmp (v := .bool ((((x25.2 == (0 : Int)) && (x26.2.2 == (0 : Int))) && (x27.2 == (0 : Int))) && (x25.1 == x27.1))) rfl .nil) ?_
        exact ⟨_, _, (.refl _), WH.refl _, _, F_some hF, rfl⟩
end Go.Proofs.YtocfjohangcajaaDoor
