/- The walks. No condition. -/
import Derived.Test.YtocfjohangcajaaDoorWk2
set_option linter.unusedVariables false
set_option linter.unusedSimpArgs false
set_option maxRecDepth 20000
set_option maxHeartbeats 8000000
namespace Go.Proofs.YtocfjohangcajaaDoor
theorem F_lecternlaw10_TraceBoxes_w (p0 : Int) (p1 : Int) (p2 : Int) (p3 : Int) (p4 : Int) (p5 : Int) {G : Bool → Prop} (h : Heap) (hF : OptP (F_lecternlaw10_TraceBoxes p0 p1 p2 p3 p4 p5) G) : CallsA Tryd.prog 7 [.int .i64 p0, .int .i64 p1, .int .i64 p2, .int .i64 p3, .int .i64 p4, .int .i64 p5] h fun d h' => ∃ r, G r ∧ d = .bool r := by
  refine CallsA.ret ?_
  refine C_body Tryd.func7 rfl en_7 Tryd.ntmps7 rfl (fun ok => ?_)
  rw [F_lecternlaw10_TraceBoxes] at hF
  refine C_seq ?_
  refine C_reg (mdl []) ?_
  refine S_a (v := .bool _) rfl ?_
  refine S_nil ?_
  refine C_seq ?_
  refine C_seq ?_
  refine C_reg (mdl []) ?_
  refine S_call (F_lecternlaw10_awake_ok _ hF fun x1 _ hF => ?_) (.nil)
  refine S_un rfl (ev_not _) ?_
  refine S_nil ?_
  refine C_if (b := (!x1)) rfl hF (fun hb2 hF => ?_) (fun hb2 hF => ?_)
  ·
    refine C_seq ?_
    refine C_reg (mdl []) ?_
    refine S_a (v := .bool _) rfl ?_
    refine S_nil ?_
    refine WP_ret ?_
    repeat (first | with_reducible refine Exit.sel_ret ?_ | with_reducible refine Exit.blk_ret ?_ | with_reducible refine Exit.jmp_ret ?_)
    refine C_ret (fn := Tryd.f7) rfl (.tmp (v := .bool false) rfl .nil) ?_
    exact ⟨_, _, (.refl _), WH.refl _, _, F_some hF, rfl⟩
  ·
    refine WP_skip ?_
    refine C_seq ?_
    refine C_seq ?_
    refine C_reg (mdl []) ?_
    refine S_m (v := .int _ _) rfl ?_
    refine S_m (v := .int _ _) rfl ?_
    refine S_call (F_lecternlaw10_fits_ok _ hF fun x3 _ hF => ?_) (.cons (.refl _) (.cons (.refl _) (.nil)))
    refine S_un rfl (ev_not _) ?_
    refine S_m (v := .bool _) rfl ?_
    refine S_two (b := (!x3)) 3 42 (.bool ((!x3) || (decide (p2 < (1 : Int))))) (fun hb4 => ?_) (fun hb4 => ?_) ?_
    ·
      refine S_off rfl rfl hb4 ?_
      refine S_offD ?_
      refine S_off rfl rfl hb4 ?_
      refine S_offD ?_
      refine S_pickT (v := .bool _) rfl hb4 rfl ?_
      refine S_nil ?_
      refine .hd (or_t hb4) ?_
      repeat (first | with_reducible exact WS.refl _ | refine WS.add ?_ rfl)
    ·
      refine S_on rfl rfl hb4 ?_
      refine S_in ?_
      refine S_m (v := .int _ _) rfl ?_
      refine S_nil ?_
      refine S_on rfl rfl hb4 ?_
      refine S_in ?_
      refine S_bin rfl rfl (ev_lss ..) ?_
      refine S_nil ?_
      refine S_pickF (v := .bool _) rfl hb4 rfl ?_
      refine S_nil ?_
      refine .hd (or_f hb4) ?_
      repeat (first | with_reducible exact WS.refl _ | refine WS.add ?_ rfl)
    refine S_m (v := .bool _) rfl ?_
    refine S_two (b := ((!x3) || (decide (p2 < (1 : Int))))) 3 46 (.bool (((!x3) || (decide (p2 < (1 : Int)))) || (decide (p3 < (1 : Int))))) (fun hb5 => ?_) (fun hb5 => ?_) ?_
    ·
      refine S_off rfl rfl hb5 ?_
      refine S_offD ?_
      refine S_off rfl rfl hb5 ?_
      refine S_offD ?_
      refine S_pickT (v := .bool _) rfl hb5 rfl ?_
      refine S_nil ?_
      refine .hd (or_t hb5) ?_
      repeat (first | with_reducible exact WS.refl _ | refine WS.add ?_ rfl)
    ·
      refine S_on rfl rfl hb5 ?_
      refine S_in ?_
      refine S_m (v := .int _ _) rfl ?_
      refine S_nil ?_
      refine S_on rfl rfl hb5 ?_
      refine S_in ?_
      refine S_bin rfl rfl (ev_lss ..) ?_
      refine S_nil ?_
      refine S_pickF (v := .bool _) rfl hb5 rfl ?_
      refine S_nil ?_
      refine .hd (or_f hb5) ?_
      repeat (first | with_reducible exact WS.refl _ | refine WS.add ?_ rfl)
    refine S_m (v := .bool _) rfl ?_
    refine S_two (b := (((!x3) || (decide (p2 < (1 : Int)))) || (decide (p3 < (1 : Int))))) 3 50 (.bool ((((!x3) || (decide (p2 < (1 : Int)))) || (decide (p3 < (1 : Int)))) || (decide ((1000000 : Int) < p2)))) (fun hb6 => ?_) (fun hb6 => ?_) ?_
    ·
      refine S_off rfl rfl hb6 ?_
      refine S_offD ?_
      refine S_off rfl rfl hb6 ?_
      refine S_offD ?_
      refine S_pickT (v := .bool _) rfl hb6 rfl ?_
      refine S_nil ?_
      refine .hd (or_t hb6) ?_
      repeat (first | with_reducible exact WS.refl _ | refine WS.add ?_ rfl)
    ·
      refine S_on rfl rfl hb6 ?_
      refine S_in ?_
      refine S_m (v := .int _ _) rfl ?_
      refine S_nil ?_
      refine S_on rfl rfl hb6 ?_
      refine S_in ?_
      refine S_bin rfl rfl (ev_gtr ..) ?_
      refine S_nil ?_
      refine S_pickF (v := .bool _) rfl hb6 rfl ?_
      refine S_nil ?_
      refine .hd (or_f hb6) ?_
      repeat (first | with_reducible exact WS.refl _ | refine WS.add ?_ rfl)
    refine S_m (v := .bool _) rfl ?_
    refine S_two (b := ((((!x3) || (decide (p2 < (1 : Int)))) || (decide (p3 < (1 : Int)))) || (decide ((1000000 : Int) < p2)))) 3 54 (.bool (((((!x3) || (decide (p2 < (1 : Int)))) || (decide (p3 < (1 : Int)))) || (decide ((1000000 : Int) < p2))) || (decide ((1000000 : Int) < p3)))) (fun hb7 => ?_) (fun hb7 => ?_) ?_
    ·
      refine S_off rfl rfl hb7 ?_
      refine S_offD ?_
      refine S_off rfl rfl hb7 ?_
      refine S_offD ?_
      refine S_pickT (v := .bool _) rfl hb7 rfl ?_
      refine S_nil ?_
      refine .hd (or_t hb7) ?_
      repeat (first | with_reducible exact WS.refl _ | refine WS.add ?_ rfl)
    ·
      refine S_on rfl rfl hb7 ?_
      refine S_in ?_
      refine S_m (v := .int _ _) rfl ?_
      refine S_nil ?_
      refine S_on rfl rfl hb7 ?_
      refine S_in ?_
      refine S_bin rfl rfl (ev_gtr ..) ?_
      refine S_nil ?_
      refine S_pickF (v := .bool _) rfl hb7 rfl ?_
      refine S_nil ?_
      refine .hd (or_f hb7) ?_
      repeat (first | with_reducible exact WS.refl _ | refine WS.add ?_ rfl)
    refine S_m (v := .bool _) rfl ?_
    refine S_twoJ 9 64 hF (fun J9 hb8 hF => ?_) (fun J9 hb8 hF => ?_) (fun v10 hF => ?_)
    ·
      refine S_off rfl rfl hb8 ?_
      refine S_offD ?_
      refine S_off rfl rfl hb8 ?_
      refine S_offD ?_
      refine S_off rfl rfl hb8 ?_
      refine S_offD ?_
      refine S_off rfl rfl hb8 ?_
      refine S_offD ?_
      refine S_off rfl rfl hb8 ?_
      refine S_offD ?_
      refine S_off rfl rfl hb8 ?_
      refine S_offD ?_
      refine S_off rfl rfl hb8 ?_
      refine S_offD ?_
      refine S_off rfl rfl hb8 ?_
      refine S_offD ?_
      refine S_pickT (v := .bool _) rfl hb8 rfl ?_
      refine S_nil ?_
      refine ⟨_, hF, .hd (.refl _) ?_⟩
      repeat (first | with_reducible exact WS.refl _ | refine WS.add ?_ rfl)
    ·
      refine S_on rfl rfl hb8 ?_
      refine S_in ?_
      refine S_m (v := .int _ _) rfl ?_
      refine S_nil ?_
      refine S_on rfl rfl hb8 ?_
      refine S_in ?_
      refine S_m (v := .int _ _) rfl ?_
      refine S_nil ?_
      refine S_on rfl rfl hb8 ?_
      refine S_in ?_
      refine S_bin rfl rfl (ev_add ..) ?_
      refine S_nil ?_
      refine S_on rfl rfl hb8 ?_
      refine S_in ?_
      refine S_m (v := .int _ _) rfl ?_
      refine S_nil ?_
      refine S_on rfl rfl hb8 ?_
      refine S_in ?_
      refine S_m (v := .int _ _) rfl ?_
      refine S_nil ?_
      refine S_on rfl rfl hb8 ?_
      refine S_in ?_
      refine S_bin rfl rfl (ev_add ..) ?_
      refine S_nil ?_
      refine S_on rfl rfl hb8 ?_
      refine S_in ?_
      refine S_call (F_lecternlaw10_fits_ok _ hF fun x11 _ hF => ?_) (.cons (.refl _) (.cons (.refl _) (.nil)))
      refine S_nil ?_
      refine S_on rfl rfl hb8 ?_
      refine S_in ?_
      refine S_un rfl (ev_not _) ?_
      refine S_nil ?_
      refine S_pickF (v := .bool _) rfl hb8 rfl ?_
      refine S_nil ?_
      refine ⟨_, hF, .hd (.refl _) ?_⟩
      repeat (first | with_reducible exact WS.refl _ | refine WS.add ?_ rfl)
    ·
      refine S_m (v := .bool _) rfl ?_
      refine S_twoJ 5 70 hF (fun J13 hb12 hF => ?_) (fun J13 hb12 hF => ?_) (fun v14 hF => ?_)
      ·
        refine S_off rfl rfl hb12 ?_
        refine S_offD ?_
        refine S_off rfl rfl hb12 ?_
        refine S_offD ?_
        refine S_off rfl rfl hb12 ?_
        refine S_offD ?_
        refine S_off rfl rfl hb12 ?_
        refine S_offD ?_
        refine S_pickT (v := .bool _) rfl hb12 rfl ?_
        refine S_nil ?_
        refine ⟨_, hF, .hd (.refl _) ?_⟩
        repeat (first | with_reducible exact WS.refl _ | refine WS.add ?_ rfl)
      ·
        refine S_on rfl rfl hb12 ?_
        refine S_in ?_
        refine S_m (v := .int _ _) rfl ?_
        refine S_nil ?_
        refine S_on rfl rfl hb12 ?_
        refine S_in ?_
        refine S_m (v := .int _ _) rfl ?_
        refine S_nil ?_
        refine S_on rfl rfl hb12 ?_
        refine S_in ?_
        refine S_call (F_lecternlaw10_fits_ok _ hF fun x15 _ hF => ?_) (.cons (.refl _) (.cons (.refl _) (.nil)))
        refine S_nil ?_
        refine S_on rfl rfl hb12 ?_
        refine S_in ?_
        refine S_un rfl (ev_not _) ?_
        refine S_nil ?_
        refine S_pickF (v := .bool _) rfl hb12 rfl ?_
        refine S_nil ?_
        refine ⟨_, hF, .hd (.refl _) ?_⟩
        repeat (first | with_reducible exact WS.refl _ | refine WS.add ?_ rfl)
      ·
        refine S_nil ?_
        refine C_if (b := v14) rfl hF (fun hb16 hF => ?_) (fun hb16 hF => ?_)
        ·
          refine C_seq ?_
          refine C_reg (mdl []) ?_
          refine S_a (v := .bool _) rfl ?_
          refine S_nil ?_
          refine WP_ret ?_
          repeat (first | with_reducible refine Exit.sel_ret ?_ | with_reducible refine Exit.blk_ret ?_ | with_reducible refine Exit.jmp_ret ?_)
          refine C_ret (fn := Tryd.f7) rfl (.tmp (v := .bool true) rfl .nil) ?_
          exact ⟨_, _, (.refl _), WH.refl _, _, F_some hF, rfl⟩
        ·
          refine WP_skip ?_
          refine C_seq ?_
          refine C_reg (mdl []) ?_
          refine S_m (v := .int _ _) rfl ?_
          refine S_m (v := .int _ _) rfl ?_
          refine S_call (F_lecternlaw10_spot_ok _ hF fun x17 _ hF => ?_) (.cons (.refl _) (.cons (.refl _) (.nil)))
          refine S_m (v := .int _ _) rfl ?_
          refine S_m (v := .int _ _) rfl ?_
          refine S_bin rfl rfl (ev_add ..) ?_
          refine S_m (v := .int _ _) rfl ?_
          refine S_call (F_lecternlaw10_spot_ok _ hF fun x18 _ hF => ?_) (.cons (.refl _) (.cons (.refl _) (.nil)))
          refine S_m (v := .int _ _) rfl ?_
          refine S_m (v := .int _ _) rfl ?_
          refine S_bin rfl rfl (ev_add ..) ?_
          refine S_m (v := .int _ _) rfl ?_
          refine S_m (v := .int _ _) rfl ?_
          refine S_bin rfl rfl (ev_add ..) ?_
          refine S_call (F_lecternlaw10_spot_ok _ hF fun x19 _ hF => ?_) (.cons (.refl _) (.cons (.refl _) (.nil)))
          refine S_m (v := .int _ _) rfl ?_
          refine S_m (v := .int _ _) rfl ?_
          refine S_m (v := .int _ _) rfl ?_
          refine S_bin rfl rfl (ev_add ..) ?_
          refine S_call (F_lecternlaw10_spot_ok _ hF fun x20 _ hF => ?_) (.cons (.refl _) (.cons (.refl _) (.nil)))
          refine S_lit0 (cs := [.cplx .f64 x17.1 x17.2, .cplx .f64 x18.1 x18.2, .cplx .f64 x19.1 x19.2, .cplx .f64 x20.1 x20.2]) (es := (List.map c_cplx [x17, x18, x19, x20])) rfl ty_el_54 rfl (by kernel_rfl) (by kernel_rfl) ?_
          refine S_a (v := .sl _ _ _) rfl ?_
          refine S_nil ?_
          refine C_seq ?_
          refine C_reg (mdl []) ?_
          refine S_m (v := .int _ _) rfl ?_
          refine S_m (v := .int _ _) rfl ?_
          refine S_call (F_lecternlaw10_spot_ok _ hF fun x21 _ hF => ?_) (.cons (.refl _) (.cons (.refl _) (.nil)))
          refine S_m (v := .int _ _) rfl ?_
          refine S_m (v := .int _ _) rfl ?_
          refine S_m (v := .int _ _) rfl ?_
          refine S_bin rfl rfl (ev_add ..) ?_
          refine S_call (F_lecternlaw10_spot_ok _ hF fun x22 _ hF => ?_) (.cons (.refl _) (.cons (.refl _) (.nil)))
          refine S_m (v := .int _ _) rfl ?_
          refine S_m (v := .int _ _) rfl ?_
          refine S_bin rfl rfl (ev_add ..) ?_
          refine S_m (v := .int _ _) rfl ?_
          refine S_m (v := .int _ _) rfl ?_
          refine S_bin rfl rfl (ev_add ..) ?_
          refine S_call (F_lecternlaw10_spot_ok _ hF fun x23 _ hF => ?_) (.cons (.refl _) (.cons (.refl _) (.nil)))
          refine S_m (v := .int _ _) rfl ?_
          refine S_m (v := .int _ _) rfl ?_
          refine S_bin rfl rfl (ev_add ..) ?_
          refine S_m (v := .int _ _) rfl ?_
          refine S_call (F_lecternlaw10_spot_ok _ hF fun x24 _ hF => ?_) (.cons (.refl _) (.cons (.refl _) (.nil)))
          refine S_lit0 (cs := [.cplx .f64 x21.1 x21.2, .cplx .f64 x22.1 x22.2, .cplx .f64 x23.1 x23.2, .cplx .f64 x24.1 x24.2]) (es := (List.map c_cplx [x21, x22, x23, x24])) rfl ty_el_54 rfl (by kernel_rfl) (by kernel_rfl) ?_
          refine S_a (v := .sl _ _ _) rfl ?_
          refine S_nil ?_
          refine C_seq ?_
          refine C_reg (mdl []) ?_
          refine S_m (v := .sl _ _ _) rfl ?_
          refine S_bld (v := .agg (c_T_trace_Stroke (⟨[x17, x18, x19, x20], true⟩ : T_trace_Stroke))) (b_st ty_zc_56 ty_pl_56 rfl) ?_
          refine S_lit0 (cs := [.sl 1 (List.map c_cplx (⟨[x17, x18, x19, x20], true⟩ : T_trace_Stroke).Spots) 0, .bool (⟨[x17, x18, x19, x20], true⟩ : T_trace_Stroke).Closed]) (es := (List.map c_T_trace_Stroke [(⟨[x17, x18, x19, x20], true⟩ : T_trace_Stroke)])) rfl ty_el_23 rfl (by kernel_rfl) (by kernel_rfl) ?_
          refine S_a (v := .sl _ _ _) rfl ?_
          refine S_nil ?_
          refine C_seq ?_
          refine C_reg (mdl [(116, 2), (118, 2), (120, 2)]) ?_
          refine S_lit2 (cs := []) (es := (List.map c_cplx ([] : List (Nat × Nat)))) ok rfl ty_el_54 rfl (by kernel_rfl) (by kernel_rfl) ?_
          intro r25 hr25 ok
          refine S_m (v := .sl _ _ _) rfl ?_
          refine S_app (j := 0) ok rfl rfl rfl rfl hr25 ty_el_54 ty_ni_54 hF ?_
          intro r26 hr26 ok hF
          refine S_m (v := .sl _ _ _) rfl ?_
          refine S_app (j := 0) ok rfl rfl rfl rfl hr26 ty_el_54 ty_ni_54 hF ?_
          intro r27 hr27 ok hF
          refine S_bld (v := .agg [.sl 1 (List.map c_cplx ((([] : List (Nat × Nat)) ++ [x17, x18, x19, x20]) ++ [x17, x18, x19, x20])) r27, .bool true]) (b_st ty_zc_56 ty_pl_56 rfl) ?_
          refine S_one 121 (v := .agg (c_T_trace_Stroke (⟨((([] : List (Nat × Nat)) ++ [x17, x18, x19, x20]) ++ [x17, x18, x19, x20]), true⟩ : T_trace_Stroke))) (.aggC (.cons (.zero _ _ _) (.cons (.refl _) (.nil)))) ?_
          refine S_m (v := .sl _ _ _) rfl ?_
          refine S_bld (v := .agg (c_T_trace_Stroke (⟨[x21, x22, x23, x24], false⟩ : T_trace_Stroke))) (b_st ty_zc_56 ty_pl_56 rfl) ?_
          refine S_lit0 (cs := [.sl 1 (List.map c_cplx (⟨((([] : List (Nat × Nat)) ++ [x17, x18, x19, x20]) ++ [x17, x18, x19, x20]), true⟩ : T_trace_Stroke).Spots) 0, .bool (⟨((([] : List (Nat × Nat)) ++ [x17, x18, x19, x20]) ++ [x17, x18, x19, x20]), true⟩ : T_trace_Stroke).Closed, .sl 1 (List.map c_cplx (⟨[x21, x22, x23, x24], false⟩ : T_trace_Stroke).Spots) 0, .bool (⟨[x21, x22, x23, x24], false⟩ : T_trace_Stroke).Closed]) (es := (List.map c_T_trace_Stroke [(⟨((([] : List (Nat × Nat)) ++ [x17, x18, x19, x20]) ++ [x17, x18, x19, x20]), true⟩ : T_trace_Stroke), (⟨[x21, x22, x23, x24], false⟩ : T_trace_Stroke)])) rfl ty_el_23 rfl (by kernel_rfl) (by kernel_rfl) ?_
          refine S_a (v := .sl _ _ _) rfl ?_
          refine S_nil ?_
          refine C_seq ?_
          refine C_reg (mdl []) ?_
          refine S_m (v := .sl _ _ _) rfl ?_
          refine S_bld (v := .agg (c_T_trace_Stroke (⟨[x21, x22, x23, x24], true⟩ : T_trace_Stroke))) (b_st ty_zc_56 ty_pl_56 rfl) ?_
          refine S_lit0 (cs := [.sl 1 (List.map c_cplx (⟨[x21, x22, x23, x24], true⟩ : T_trace_Stroke).Spots) 0, .bool (⟨[x21, x22, x23, x24], true⟩ : T_trace_Stroke).Closed]) (es := (List.map c_T_trace_Stroke [(⟨[x21, x22, x23, x24], true⟩ : T_trace_Stroke)])) rfl ty_el_23 rfl (by kernel_rfl) (by kernel_rfl) ?_
          refine S_a (v := .sl _ _ _) rfl ?_
          refine S_nil ?_
          refine C_seq ?_
          refine C_reg (mdl []) ?_
          refine S_m (v := .int _ _) rfl ?_
          refine S_m (v := .int _ _) rfl ?_
          refine S_bin rfl rfl (ev_gtr ..) ?_
          refine S_m (v := .bool _) rfl ?_
          refine S_two (b := (decide (p0 < p4))) 6 137 (.bool ((decide (p0 < p4)) && (decide (p4 < (IntKind.wrap .i64 (p0 + p2)))))) (fun hb28 => ?_) (fun hb28 => ?_) ?_
          ·
            refine S_on rfl rfl hb28 ?_
            refine S_in ?_
            refine S_m (v := .int _ _) rfl ?_
            refine S_nil ?_
            refine S_on rfl rfl hb28 ?_
            refine S_in ?_
            refine S_m (v := .int _ _) rfl ?_
            refine S_nil ?_
            refine S_on rfl rfl hb28 ?_
            refine S_in ?_
            refine S_m (v := .int _ _) rfl ?_
            refine S_nil ?_
            refine S_on rfl rfl hb28 ?_
            refine S_in ?_
            refine S_bin rfl rfl (ev_add ..) ?_
            refine S_nil ?_
            refine S_on rfl rfl hb28 ?_
            refine S_in ?_
            refine S_bin rfl rfl (ev_lss ..) ?_
            refine S_nil ?_
            refine S_pickT (v := .bool _) rfl hb28 rfl ?_
            refine S_nil ?_
            refine .hd (and_t hb28) ?_
            repeat (first | with_reducible exact WS.refl _ | refine WS.add ?_ rfl)
          ·
            refine S_off rfl rfl hb28 ?_
            refine S_offD ?_
            refine S_off rfl rfl hb28 ?_
            refine S_offD ?_
            refine S_off rfl rfl hb28 ?_
            refine S_offD ?_
            refine S_off rfl rfl hb28 ?_
            refine S_offD ?_
            refine S_off rfl rfl hb28 ?_
            refine S_offD ?_
            refine S_pickF (v := .bool _) rfl hb28 rfl ?_
            refine S_nil ?_
            refine .hd (and_f hb28) ?_
            repeat (first | with_reducible exact WS.refl _ | refine WS.add ?_ rfl)
          refine S_m (v := .bool _) rfl ?_
          refine S_two (b := ((decide (p0 < p4)) && (decide (p4 < (IntKind.wrap .i64 (p0 + p2)))))) 4 142 (.bool (((decide (p0 < p4)) && (decide (p4 < (IntKind.wrap .i64 (p0 + p2))))) && (decide (p1 < p5)))) (fun hb29 => ?_) (fun hb29 => ?_) ?_
          ·
            refine S_on rfl rfl hb29 ?_
            refine S_in ?_
            refine S_m (v := .int _ _) rfl ?_
            refine S_nil ?_
            refine S_on rfl rfl hb29 ?_
            refine S_in ?_
            refine S_m (v := .int _ _) rfl ?_
            refine S_nil ?_
            refine S_on rfl rfl hb29 ?_
            refine S_in ?_
            refine S_bin rfl rfl (ev_gtr ..) ?_
            refine S_nil ?_
            refine S_pickT (v := .bool _) rfl hb29 rfl ?_
            refine S_nil ?_
            refine .hd (and_t hb29) ?_
            repeat (first | with_reducible exact WS.refl _ | refine WS.add ?_ rfl)
          ·
            refine S_off rfl rfl hb29 ?_
            refine S_offD ?_
            refine S_off rfl rfl hb29 ?_
            refine S_offD ?_
            refine S_off rfl rfl hb29 ?_
            refine S_offD ?_
            refine S_pickF (v := .bool _) rfl hb29 rfl ?_
            refine S_nil ?_
            refine .hd (and_f hb29) ?_
            repeat (first | with_reducible exact WS.refl _ | refine WS.add ?_ rfl)
          refine S_m (v := .bool _) rfl ?_
          refine S_two (b := (((decide (p0 < p4)) && (decide (p4 < (IntKind.wrap .i64 (p0 + p2))))) && (decide (p1 < p5)))) 6 149 (.bool ((((decide (p0 < p4)) && (decide (p4 < (IntKind.wrap .i64 (p0 + p2))))) && (decide (p1 < p5))) && (decide (p5 < (IntKind.wrap .i64 (p1 + p3)))))) (fun hb30 => ?_) (fun hb30 => ?_) ?_
          ·
            refine S_on rfl rfl hb30 ?_
            refine S_in ?_
            refine S_m (v := .int _ _) rfl ?_
            refine S_nil ?_
            refine S_on rfl rfl hb30 ?_
            refine S_in ?_
            refine S_m (v := .int _ _) rfl ?_
            refine S_nil ?_
            refine S_on rfl rfl hb30 ?_
            refine S_in ?_
            refine S_m (v := .int _ _) rfl ?_
            refine S_nil ?_
            refine S_on rfl rfl hb30 ?_
            refine S_in ?_
            refine S_bin rfl rfl (ev_add ..) ?_
            refine S_nil ?_
            refine S_on rfl rfl hb30 ?_
            refine S_in ?_
            refine S_bin rfl rfl (ev_lss ..) ?_
            refine S_nil ?_
            refine S_pickT (v := .bool _) rfl hb30 rfl ?_
            refine S_nil ?_
            refine .hd (and_t hb30) ?_
            repeat (first | with_reducible exact WS.refl _ | refine WS.add ?_ rfl)
          ·
            refine S_off rfl rfl hb30 ?_
            refine S_offD ?_
            refine S_off rfl rfl hb30 ?_
            refine S_offD ?_
            refine S_off rfl rfl hb30 ?_
            refine S_offD ?_
            refine S_off rfl rfl hb30 ?_
            refine S_offD ?_
            refine S_off rfl rfl hb30 ?_
            refine S_offD ?_
            refine S_pickF (v := .bool _) rfl hb30 rfl ?_
            refine S_nil ?_
            refine .hd (and_f hb30) ?_
            repeat (first | with_reducible exact WS.refl _ | refine WS.add ?_ rfl)
          refine S_a (v := .bool _) rfl ?_
          refine S_nil ?_
          refine C_seq ?_
          refine C_reg (mdl []) ?_
          refine S_m (v := .int _ _) rfl ?_
          refine S_m (v := .int _ _) rfl ?_
          refine S_bin rfl rfl (ev_lss ..) ?_
          refine S_m (v := .bool _) rfl ?_
          refine S_two (b := (decide (p4 < p0))) 6 159 (.bool ((decide (p4 < p0)) || (decide ((IntKind.wrap .i64 (p0 + p2)) < p4)))) (fun hb31 => ?_) (fun hb31 => ?_) ?_
          ·
            refine S_off rfl rfl hb31 ?_
            refine S_offD ?_
            refine S_off rfl rfl hb31 ?_
            refine S_offD ?_
            refine S_off rfl rfl hb31 ?_
            refine S_offD ?_
            refine S_off rfl rfl hb31 ?_
            refine S_offD ?_
            refine S_off rfl rfl hb31 ?_
            refine S_offD ?_
            refine S_pickT (v := .bool _) rfl hb31 rfl ?_
            refine S_nil ?_
            refine .hd (or_t hb31) ?_
            repeat (first | with_reducible exact WS.refl _ | refine WS.add ?_ rfl)
          ·
            refine S_on rfl rfl hb31 ?_
            refine S_in ?_
            refine S_m (v := .int _ _) rfl ?_
            refine S_nil ?_
            refine S_on rfl rfl hb31 ?_
            refine S_in ?_
            refine S_m (v := .int _ _) rfl ?_
            refine S_nil ?_
            refine S_on rfl rfl hb31 ?_
            refine S_in ?_
            refine S_m (v := .int _ _) rfl ?_
            refine S_nil ?_
            refine S_on rfl rfl hb31 ?_
            refine S_in ?_
            refine S_bin rfl rfl (ev_add ..) ?_
            refine S_nil ?_
            refine S_on rfl rfl hb31 ?_
            refine S_in ?_
            refine S_bin rfl rfl (ev_gtr ..) ?_
            refine S_nil ?_
            refine S_pickF (v := .bool _) rfl hb31 rfl ?_
            refine S_nil ?_
            refine .hd (or_f hb31) ?_
            repeat (first | with_reducible exact WS.refl _ | refine WS.add ?_ rfl)
          refine S_m (v := .bool _) rfl ?_
          refine S_two (b := ((decide (p4 < p0)) || (decide ((IntKind.wrap .i64 (p0 + p2)) < p4)))) 4 164 (.bool (((decide (p4 < p0)) || (decide ((IntKind.wrap .i64 (p0 + p2)) < p4))) || (decide (p5 < p1)))) (fun hb32 => ?_) (fun hb32 => ?_) ?_
          ·
            refine S_off rfl rfl hb32 ?_
            refine S_offD ?_
            refine S_off rfl rfl hb32 ?_
            refine S_offD ?_
            refine S_off rfl rfl hb32 ?_
            refine S_offD ?_
            refine S_pickT (v := .bool _) rfl hb32 rfl ?_
            refine S_nil ?_
            refine .hd (or_t hb32) ?_
            repeat (first | with_reducible exact WS.refl _ | refine WS.add ?_ rfl)
          ·
            refine S_on rfl rfl hb32 ?_
            refine S_in ?_
            refine S_m (v := .int _ _) rfl ?_
            refine S_nil ?_
            refine S_on rfl rfl hb32 ?_
            refine S_in ?_
            refine S_m (v := .int _ _) rfl ?_
            refine S_nil ?_
            refine S_on rfl rfl hb32 ?_
            refine S_in ?_
            refine S_bin rfl rfl (ev_lss ..) ?_
            refine S_nil ?_
            refine S_pickF (v := .bool _) rfl hb32 rfl ?_
            refine S_nil ?_
            refine .hd (or_f hb32) ?_
            repeat (first | with_reducible exact WS.refl _ | refine WS.add ?_ rfl)
          refine S_m (v := .bool _) rfl ?_
          refine S_two (b := (((decide (p4 < p0)) || (decide ((IntKind.wrap .i64 (p0 + p2)) < p4))) || (decide (p5 < p1)))) 6 171 (.bool ((((decide (p4 < p0)) || (decide ((IntKind.wrap .i64 (p0 + p2)) < p4))) || (decide (p5 < p1))) || (decide ((IntKind.wrap .i64 (p1 + p3)) < p5)))) (fun hb33 => ?_) (fun hb33 => ?_) ?_
          ·
            refine S_off rfl rfl hb33 ?_
            refine S_offD ?_
            refine S_off rfl rfl hb33 ?_
            refine S_offD ?_
            refine S_off rfl rfl hb33 ?_
            refine S_offD ?_
            refine S_off rfl rfl hb33 ?_
            refine S_offD ?_
            refine S_off rfl rfl hb33 ?_
            refine S_offD ?_
            refine S_pickT (v := .bool _) rfl hb33 rfl ?_
            refine S_nil ?_
            refine .hd (or_t hb33) ?_
            repeat (first | with_reducible exact WS.refl _ | refine WS.add ?_ rfl)
          ·
            refine S_on rfl rfl hb33 ?_
            refine S_in ?_
            refine S_m (v := .int _ _) rfl ?_
            refine S_nil ?_
            refine S_on rfl rfl hb33 ?_
            refine S_in ?_
            refine S_m (v := .int _ _) rfl ?_
            refine S_nil ?_
            refine S_on rfl rfl hb33 ?_
            refine S_in ?_
            refine S_m (v := .int _ _) rfl ?_
            refine S_nil ?_
            refine S_on rfl rfl hb33 ?_
            refine S_in ?_
            refine S_bin rfl rfl (ev_add ..) ?_
            refine S_nil ?_
            refine S_on rfl rfl hb33 ?_
            refine S_in ?_
            refine S_bin rfl rfl (ev_gtr ..) ?_
            refine S_nil ?_
            refine S_pickF (v := .bool _) rfl hb33 rfl ?_
            refine S_nil ?_
            refine .hd (or_f hb33) ?_
            repeat (first | with_reducible exact WS.refl _ | refine WS.add ?_ rfl)
          refine S_a (v := .bool _) rfl ?_
          refine S_nil ?_
          refine C_seq ?_
          refine C_reg (mdl []) ?_
          refine S_a (v := .int _ _) rfl ?_
          refine S_nil ?_
          refine C_join hF (fun (a35 : Int) s' => OK h [] ∧ WS s' ⟨mkSl 267 [(2, .int .i64 p2), (3, .int .i64 p3), (4, .int .i64 p4), (5, .int .i64 p5), (15, .sl 2 (List.map c_T_trace_Stroke [(⟨[x17, x18, x19, x20], true⟩ : T_trace_Stroke)]) 0), (16, .sl 2 (List.map c_T_trace_Stroke [(⟨((([] : List (Nat × Nat)) ++ [x17, x18, x19, x20]) ++ [x17, x18, x19, x20]), true⟩ : T_trace_Stroke), (⟨[x21, x22, x23, x24], false⟩ : T_trace_Stroke)]) 0), (17, .sl 2 (List.map c_T_trace_Stroke [(⟨[x21, x22, x23, x24], true⟩ : T_trace_Stroke)]) 0), (18, .bool ((((decide (p0 < p4)) && (decide (p4 < (IntKind.wrap .i64 (p0 + p2))))) && (decide (p1 < p5))) && (decide (p5 < (IntKind.wrap .i64 (p1 + p3)))))), (19, .bool ((((decide (p4 < p0)) || (decide ((IntKind.wrap .i64 (p0 + p2)) < p4))) || (decide (p5 < p1))) || (decide ((IntKind.wrap .i64 (p1 + p3)) < p5)))), (20, .int .i64 a35)], Hp h []⟩) (fun J36 hF => ?_) ?_
          ·
            refine C_seq ?_
            refine C_reg (mdl []) ?_
            refine S_m (v := .bool _) rfl ?_
            refine S_nil ?_
            refine C_if (b := ((((decide (p0 < p4)) && (decide (p4 < (IntKind.wrap .i64 (p0 + p2))))) && (decide (p1 < p5))) && (decide (p5 < (IntKind.wrap .i64 (p1 + p3)))))) rfl hF (fun hb37 hF => ?_) (fun hb37 hF => ?_)
            ·
              refine C_reg (mdl []) ?_
              refine S_a (v := .int _ _) rfl ?_
              refine S_nil ?_
              have hwo : WO [(r27, .room)] [] := (.drop .nil)
              exact ⟨(1 : Int), hF, (hwo.spec ok).1, WS.mk' (.cons (.refl _) (.cons (.refl _) (.cons (.refl _) (.cons (.refl _) (.cons (.refl _) (.cons (.refl _) (.cons (.refl _) (.cons (.refl _) (.cons (.refl _) (.cons (.refl _) .nil)))))))))) ok hwo⟩
            ·
              refine WP_skip ?_
              have hwo : WO [(r27, .room)] [] := (.drop .nil)
              exact ⟨(0 : Int), hF, (hwo.spec ok).1, WS.mk' (.cons (.refl _) (.cons (.refl _) (.cons (.refl _) (.cons (.refl _) (.cons (.refl _) (.cons (.refl _) (.cons (.refl _) (.cons (.refl _) (.cons (.refl _) (.cons (.refl _) .nil)))))))))) ok hwo⟩
          ·
            rintro a35 s' hF ⟨ok, hws⟩
            refine WP_ws hws ?_
            clear hws s'
            refine C_seq ?_
            refine C_reg (mdl []) ?_
            refine S_m (v := .sl _ _ _) rfl ?_
            refine S_m (v := .int _ _) rfl ?_
            refine S_m (v := .int _ _) rfl ?_
            refine S_call (F_lecternlaw10_spot_ok _ hF fun x38 _ hF => ?_) (.cons (.refl _) (.cons (.refl _) (.nil)))
            refine S_call (F_trace_Around_ok _ hF fun x39 _ hF => ?_) (.cons (.refl _) (.cons (.refl _) (.nil)))
            refine S_m (v := .tup _) rfl ?_
            refine S_ext rfl rfl ?_
            refine S_ext rfl rfl ?_
            refine S_ext rfl rfl ?_
            refine S_a (v := .int _ _) rfl ?_
            refine S_a (v := .bool _) rfl ?_
            refine S_a (v := .int _ _) rfl ?_
            refine S_nil ?_
            refine C_seq ?_
            refine C_reg (mdl []) ?_
            refine S_m (v := .sl _ _ _) rfl ?_
            refine S_m (v := .int _ _) rfl ?_
            refine S_m (v := .int _ _) rfl ?_
            refine S_call (F_lecternlaw10_spot_ok _ hF fun x40 _ hF => ?_) (.cons (.refl _) (.cons (.refl _) (.nil)))
            refine S_call (F_trace_Around_ok _ hF fun x41 _ hF => ?_) (.cons (.refl _) (.cons (.refl _) (.nil)))
            refine S_m (v := .tup _) rfl ?_
            refine S_ext rfl rfl ?_
            refine S_ext rfl rfl ?_
            refine S_ext rfl rfl ?_
            refine S_a (v := .int _ _) rfl ?_
            refine S_a (v := .bool _) rfl ?_
            refine S_a (v := .int _ _) rfl ?_
            refine S_nil ?_
            refine C_seq ?_
            refine C_reg (mdl []) ?_
            refine S_m (v := .sl _ _ _) rfl ?_
            refine S_m (v := .int _ _) rfl ?_
            refine S_m (v := .int _ _) rfl ?_
            refine S_call (F_lecternlaw10_spot_ok _ hF fun x42 _ hF => ?_) (.cons (.refl _) (.cons (.refl _) (.nil)))
            refine S_call (F_trace_Around_ok _ hF fun x43 _ hF => ?_) (.cons (.refl _) (.cons (.refl _) (.nil)))
            refine S_m (v := .tup _) rfl ?_
            refine S_ext rfl rfl ?_
            refine S_ext rfl rfl ?_
            refine S_ext rfl rfl ?_
            refine S_a (v := .int _ _) rfl ?_
            refine S_a (v := .bool _) rfl ?_
            refine S_a (v := .int _ _) rfl ?_
            refine S_nil ?_
            refine C_seq ?_
            refine C_reg (mdl []) ?_
            refine S_m (v := .sl _ _ _) rfl ?_
            refine S_call (F_trace_Area_ok _ hF fun x44 _ hF => ?_) (.cons (.refl _) (.nil))
            refine S_m (v := .tup _) rfl ?_
            refine S_ext rfl rfl ?_
            refine S_ext rfl rfl ?_
            refine S_a (v := .float _ _) rfl ?_
            refine S_a (v := .int _ _) rfl ?_
            refine S_nil ?_
            refine C_seq ?_
            refine C_reg (mdl []) ?_
            refine S_m (v := .bool _) rfl ?_
            refine S_un rfl (ev_not _) ?_
            refine S_m (v := .bool _) rfl ?_
            refine S_two (b := (!((((decide (p0 < p4)) && (decide (p4 < (IntKind.wrap .i64 (p0 + p2))))) && (decide (p1 < p5))) && (decide (p5 < (IntKind.wrap .i64 (p1 + p3))))))) 3 210 (.bool ((!((((decide (p0 < p4)) && (decide (p4 < (IntKind.wrap .i64 (p0 + p2))))) && (decide (p1 < p5))) && (decide (p5 < (IntKind.wrap .i64 (p1 + p3)))))) && (!((((decide (p4 < p0)) || (decide ((IntKind.wrap .i64 (p0 + p2)) < p4))) || (decide (p5 < p1))) || (decide ((IntKind.wrap .i64 (p1 + p3)) < p5)))))) (fun hb45 => ?_) (fun hb45 => ?_) ?_
            ·
              refine S_on rfl rfl hb45 ?_
              refine S_in ?_
              refine S_m (v := .bool _) rfl ?_
              refine S_nil ?_
              refine S_on rfl rfl hb45 ?_
              refine S_in ?_
              refine S_un rfl (ev_not _) ?_
              refine S_nil ?_
              refine S_pickT (v := .bool _) rfl hb45 rfl ?_
              refine S_nil ?_
              refine .hd (and_t hb45) ?_
              repeat (first | with_reducible exact WS.refl _ | refine WS.add ?_ rfl)
            ·
              refine S_off rfl rfl hb45 ?_
              refine S_offD ?_
              refine S_off rfl rfl hb45 ?_
              refine S_offD ?_
              refine S_pickF (v := .bool _) rfl hb45 rfl ?_
              refine S_nil ?_
              refine .hd (and_f hb45) ?_
              repeat (first | with_reducible exact WS.refl _ | refine WS.add ?_ rfl)
            refine S_a (v := .bool _) rfl ?_
            refine S_nil ?_
            refine C_seq ?_
            refine C_reg (mdl []) ?_
            refine S_m (v := .int _ _) rfl ?_
            refine S_bin rfl rfl (ev_eql ..) ?_
            refine S_m (v := .bool _) rfl ?_
            refine S_two (b := (x39.2.2 == (0 : Int))) 3 216 (.bool ((x39.2.2 == (0 : Int)) && (x41.2.2 == (0 : Int)))) (fun hb46 => ?_) (fun hb46 => ?_) ?_
            ·
              refine S_on rfl rfl hb46 ?_
              refine S_in ?_
              refine S_m (v := .int _ _) rfl ?_
              refine S_nil ?_
              refine S_on rfl rfl hb46 ?_
              refine S_in ?_
              refine S_bin rfl rfl (ev_eql ..) ?_
              refine S_nil ?_
              refine S_pickT (v := .bool _) rfl hb46 rfl ?_
              refine S_nil ?_
              refine .hd (and_t hb46) ?_
              repeat (first | with_reducible exact WS.refl _ | refine WS.add ?_ rfl)
            ·
              refine S_off rfl rfl hb46 ?_
              refine S_offD ?_
              refine S_off rfl rfl hb46 ?_
              refine S_offD ?_
              refine S_pickF (v := .bool _) rfl hb46 rfl ?_
              refine S_nil ?_
              refine .hd (and_f hb46) ?_
              repeat (first | with_reducible exact WS.refl _ | refine WS.add ?_ rfl)
            refine S_m (v := .bool _) rfl ?_
            refine S_two (b := ((x39.2.2 == (0 : Int)) && (x41.2.2 == (0 : Int)))) 3 220 (.bool (((x39.2.2 == (0 : Int)) && (x41.2.2 == (0 : Int))) && (x43.2.2 == (0 : Int)))) (fun hb47 => ?_) (fun hb47 => ?_) ?_
            ·
              refine S_on rfl rfl hb47 ?_
              refine S_in ?_
              refine S_m (v := .int _ _) rfl ?_
              refine S_nil ?_
              refine S_on rfl rfl hb47 ?_
              refine S_in ?_
              refine S_bin rfl rfl (ev_eql ..) ?_
              refine S_nil ?_
              refine S_pickT (v := .bool _) rfl hb47 rfl ?_
              refine S_nil ?_
              refine .hd (and_t hb47) ?_
              repeat (first | with_reducible exact WS.refl _ | refine WS.add ?_ rfl)
            ·
              refine S_off rfl rfl hb47 ?_
              refine S_offD ?_
              refine S_off rfl rfl hb47 ?_
              refine S_offD ?_
              refine S_pickF (v := .bool _) rfl hb47 rfl ?_
              refine S_nil ?_
              refine .hd (and_f hb47) ?_
              repeat (first | with_reducible exact WS.refl _ | refine WS.add ?_ rfl)
            refine S_m (v := .bool _) rfl ?_
            refine S_two (b := (((x39.2.2 == (0 : Int)) && (x41.2.2 == (0 : Int))) && (x43.2.2 == (0 : Int)))) 3 224 (.bool ((((x39.2.2 == (0 : Int)) && (x41.2.2 == (0 : Int))) && (x43.2.2 == (0 : Int))) && (x44.2 == (0 : Int)))) (fun hb48 => ?_) (fun hb48 => ?_) ?_
            ·
              refine S_on rfl rfl hb48 ?_
              refine S_in ?_
              refine S_m (v := .int _ _) rfl ?_
              refine S_nil ?_
              refine S_on rfl rfl hb48 ?_
              refine S_in ?_
              refine S_bin rfl rfl (ev_eql ..) ?_
              refine S_nil ?_
              refine S_pickT (v := .bool _) rfl hb48 rfl ?_
              refine S_nil ?_
              refine .hd (and_t hb48) ?_
              repeat (first | with_reducible exact WS.refl _ | refine WS.add ?_ rfl)
            ·
              refine S_off rfl rfl hb48 ?_
              refine S_offD ?_
              refine S_off rfl rfl hb48 ?_
              refine S_offD ?_
              refine S_pickF (v := .bool _) rfl hb48 rfl ?_
              refine S_nil ?_
              refine .hd (and_f hb48) ?_
              repeat (first | with_reducible exact WS.refl _ | refine WS.add ?_ rfl)
            refine S_m (v := .bool _) rfl ?_
            refine S_two (b := ((((x39.2.2 == (0 : Int)) && (x41.2.2 == (0 : Int))) && (x43.2.2 == (0 : Int))) && (x44.2 == (0 : Int)))) 4 229 (.bool (((((x39.2.2 == (0 : Int)) && (x41.2.2 == (0 : Int))) && (x43.2.2 == (0 : Int))) && (x44.2 == (0 : Int))) && (x39.1 == a35))) (fun hb49 => ?_) (fun hb49 => ?_) ?_
            ·
              refine S_on rfl rfl hb49 ?_
              refine S_in ?_
              refine S_m (v := .int _ _) rfl ?_
              refine S_nil ?_
              refine S_on rfl rfl hb49 ?_
              refine S_in ?_
              refine S_m (v := .int _ _) rfl ?_
              refine S_nil ?_
              refine S_on rfl rfl hb49 ?_
              refine S_in ?_
              refine S_bin rfl rfl (ev_eql ..) ?_
              refine S_nil ?_
              refine S_pickT (v := .bool _) rfl hb49 rfl ?_
              refine S_nil ?_
              refine .hd (and_t hb49) ?_
              repeat (first | with_reducible exact WS.refl _ | refine WS.add ?_ rfl)
            ·
              refine S_off rfl rfl hb49 ?_
              refine S_offD ?_
              refine S_off rfl rfl hb49 ?_
              refine S_offD ?_
              refine S_off rfl rfl hb49 ?_
              refine S_offD ?_
              refine S_pickF (v := .bool _) rfl hb49 rfl ?_
              refine S_nil ?_
              refine .hd (and_f hb49) ?_
              repeat (first | with_reducible exact WS.refl _ | refine WS.add ?_ rfl)
            refine S_m (v := .bool _) rfl ?_
            refine S_two (b := (((((x39.2.2 == (0 : Int)) && (x41.2.2 == (0 : Int))) && (x43.2.2 == (0 : Int))) && (x44.2 == (0 : Int))) && (x39.1 == a35))) 5 235 (.bool ((((((x39.2.2 == (0 : Int)) && (x41.2.2 == (0 : Int))) && (x43.2.2 == (0 : Int))) && (x44.2 == (0 : Int))) && (x39.1 == a35)) && (x41.1 == (IntKind.wrap .i64 ((2 : Int) * a35))))) (fun hb50 => ?_) (fun hb50 => ?_) ?_
            ·
              refine S_on rfl rfl hb50 ?_
              refine S_in ?_
              refine S_m (v := .int _ _) rfl ?_
              refine S_nil ?_
              refine S_on rfl rfl hb50 ?_
              refine S_in ?_
              refine S_m (v := .int _ _) rfl ?_
              refine S_nil ?_
              refine S_on rfl rfl hb50 ?_
              refine S_in ?_
              refine S_bin rfl rfl (ev_mul ..) ?_
              refine S_nil ?_
              refine S_on rfl rfl hb50 ?_
              refine S_in ?_
              refine S_bin rfl rfl (ev_eql ..) ?_
              refine S_nil ?_
              refine S_pickT (v := .bool _) rfl hb50 rfl ?_
              refine S_nil ?_
              refine .hd (and_t hb50) ?_
              repeat (first | with_reducible exact WS.refl _ | refine WS.add ?_ rfl)
            ·
              refine S_off rfl rfl hb50 ?_
              refine S_offD ?_
              refine S_off rfl rfl hb50 ?_
              refine S_offD ?_
              refine S_off rfl rfl hb50 ?_
              refine S_offD ?_
              refine S_off rfl rfl hb50 ?_
              refine S_offD ?_
              refine S_pickF (v := .bool _) rfl hb50 rfl ?_
              refine S_nil ?_
              refine .hd (and_f hb50) ?_
              repeat (first | with_reducible exact WS.refl _ | refine WS.add ?_ rfl)
            refine S_m (v := .bool _) rfl ?_
            refine S_two (b := ((((((x39.2.2 == (0 : Int)) && (x41.2.2 == (0 : Int))) && (x43.2.2 == (0 : Int))) && (x44.2 == (0 : Int))) && (x39.1 == a35)) && (x41.1 == (IntKind.wrap .i64 ((2 : Int) * a35))))) 5 241 (.bool (((((((x39.2.2 == (0 : Int)) && (x41.2.2 == (0 : Int))) && (x43.2.2 == (0 : Int))) && (x44.2 == (0 : Int))) && (x39.1 == a35)) && (x41.1 == (IntKind.wrap .i64 ((2 : Int) * a35)))) && (x43.1 == (IntKind.wrap .i64 (0 - a35))))) (fun hb51 => ?_) (fun hb51 => ?_) ?_
            ·
              refine S_on rfl rfl hb51 ?_
              refine S_in ?_
              refine S_m (v := .int _ _) rfl ?_
              refine S_nil ?_
              refine S_on rfl rfl hb51 ?_
              refine S_in ?_
              refine S_m (v := .int _ _) rfl ?_
              refine S_nil ?_
              refine S_on rfl rfl hb51 ?_
              refine S_in ?_
              refine S_un rfl (ev_neg ..) ?_
              refine S_nil ?_
              refine S_on rfl rfl hb51 ?_
              refine S_in ?_
              refine S_bin rfl rfl (ev_eql ..) ?_
              refine S_nil ?_
              refine S_pickT (v := .bool _) rfl hb51 rfl ?_
              refine S_nil ?_
              refine .hd (and_t hb51) ?_
              repeat (first | with_reducible exact WS.refl _ | refine WS.add ?_ rfl)
            ·
              refine S_off rfl rfl hb51 ?_
              refine S_offD ?_
              refine S_off rfl rfl hb51 ?_
              refine S_offD ?_
              refine S_off rfl rfl hb51 ?_
              refine S_offD ?_
              refine S_off rfl rfl hb51 ?_
              refine S_offD ?_
              refine S_pickF (v := .bool _) rfl hb51 rfl ?_
              refine S_nil ?_
              refine .hd (and_f hb51) ?_
              repeat (first | with_reducible exact WS.refl _ | refine WS.add ?_ rfl)
            refine S_m (v := .bool _) rfl ?_
            refine S_two (b := (((((((x39.2.2 == (0 : Int)) && (x41.2.2 == (0 : Int))) && (x43.2.2 == (0 : Int))) && (x44.2 == (0 : Int))) && (x39.1 == a35)) && (x41.1 == (IntKind.wrap .i64 ((2 : Int) * a35)))) && (x43.1 == (IntKind.wrap .i64 (0 - a35))))) 4 246 (.bool ((((((((x39.2.2 == (0 : Int)) && (x41.2.2 == (0 : Int))) && (x43.2.2 == (0 : Int))) && (x44.2 == (0 : Int))) && (x39.1 == a35)) && (x41.1 == (IntKind.wrap .i64 ((2 : Int) * a35)))) && (x43.1 == (IntKind.wrap .i64 (0 - a35)))) && (x39.2.1 == ((!((((decide (p0 < p4)) && (decide (p4 < (IntKind.wrap .i64 (p0 + p2))))) && (decide (p1 < p5))) && (decide (p5 < (IntKind.wrap .i64 (p1 + p3)))))) && (!((((decide (p4 < p0)) || (decide ((IntKind.wrap .i64 (p0 + p2)) < p4))) || (decide (p5 < p1))) || (decide ((IntKind.wrap .i64 (p1 + p3)) < p5)))))))) (fun hb52 => ?_) (fun hb52 => ?_) ?_
            ·
              refine S_on rfl rfl hb52 ?_
              refine S_in ?_
              refine S_m (v := .bool _) rfl ?_
              refine S_nil ?_
              refine S_on rfl rfl hb52 ?_
              refine S_in ?_
              refine S_m (v := .bool _) rfl ?_
              refine S_nil ?_
              refine S_on rfl rfl hb52 ?_
              refine S_in ?_
              refine S_bin rfl rfl (e_beq ty_bo_4) ?_
              refine S_nil ?_
              refine S_pickT (v := .bool _) rfl hb52 rfl ?_
              refine S_nil ?_
              refine .hd (and_t hb52) ?_
              repeat (first | with_reducible exact WS.refl _ | refine WS.add ?_ rfl)
            ·
              refine S_off rfl rfl hb52 ?_
              refine S_offD ?_
              refine S_off rfl rfl hb52 ?_
              refine S_offD ?_
              refine S_off rfl rfl hb52 ?_
              refine S_offD ?_
              refine S_pickF (v := .bool _) rfl hb52 rfl ?_
              refine S_nil ?_
              refine .hd (and_f hb52) ?_
              repeat (first | with_reducible exact WS.refl _ | refine WS.add ?_ rfl)
            refine S_m (v := .bool _) rfl ?_
            refine S_two (b := ((((((((x39.2.2 == (0 : Int)) && (x41.2.2 == (0 : Int))) && (x43.2.2 == (0 : Int))) && (x44.2 == (0 : Int))) && (x39.1 == a35)) && (x41.1 == (IntKind.wrap .i64 ((2 : Int) * a35)))) && (x43.1 == (IntKind.wrap .i64 (0 - a35)))) && (x39.2.1 == ((!((((decide (p0 < p4)) && (decide (p4 < (IntKind.wrap .i64 (p0 + p2))))) && (decide (p1 < p5))) && (decide (p5 < (IntKind.wrap .i64 (p1 + p3)))))) && (!((((decide (p4 < p0)) || (decide ((IntKind.wrap .i64 (p0 + p2)) < p4))) || (decide (p5 < p1))) || (decide ((IntKind.wrap .i64 (p1 + p3)) < p5)))))))) 4 251 (.bool (((((((((x39.2.2 == (0 : Int)) && (x41.2.2 == (0 : Int))) && (x43.2.2 == (0 : Int))) && (x44.2 == (0 : Int))) && (x39.1 == a35)) && (x41.1 == (IntKind.wrap .i64 ((2 : Int) * a35)))) && (x43.1 == (IntKind.wrap .i64 (0 - a35)))) && (x39.2.1 == ((!((((decide (p0 < p4)) && (decide (p4 < (IntKind.wrap .i64 (p0 + p2))))) && (decide (p1 < p5))) && (decide (p5 < (IntKind.wrap .i64 (p1 + p3)))))) && (!((((decide (p4 < p0)) || (decide ((IntKind.wrap .i64 (p0 + p2)) < p4))) || (decide (p5 < p1))) || (decide ((IntKind.wrap .i64 (p1 + p3)) < p5))))))) && (x41.2.1 == ((!((((decide (p0 < p4)) && (decide (p4 < (IntKind.wrap .i64 (p0 + p2))))) && (decide (p1 < p5))) && (decide (p5 < (IntKind.wrap .i64 (p1 + p3)))))) && (!((((decide (p4 < p0)) || (decide ((IntKind.wrap .i64 (p0 + p2)) < p4))) || (decide (p5 < p1))) || (decide ((IntKind.wrap .i64 (p1 + p3)) < p5)))))))) (fun hb53 => ?_) (fun hb53 => ?_) ?_
            ·
              refine S_on rfl rfl hb53 ?_
              refine S_in ?_
              refine S_m (v := .bool _) rfl ?_
              refine S_nil ?_
              refine S_on rfl rfl hb53 ?_
              refine S_in ?_
              refine S_m (v := .bool _) rfl ?_
              refine S_nil ?_
              refine S_on rfl rfl hb53 ?_
              refine S_in ?_
              refine S_bin rfl rfl (e_beq ty_bo_4) ?_
              refine S_nil ?_
              refine S_pickT (v := .bool _) rfl hb53 rfl ?_
              refine S_nil ?_
              refine .hd (and_t hb53) ?_
              repeat (first | with_reducible exact WS.refl _ | refine WS.add ?_ rfl)
            ·
              refine S_off rfl rfl hb53 ?_
              refine S_offD ?_
              refine S_off rfl rfl hb53 ?_
              refine S_offD ?_
              refine S_off rfl rfl hb53 ?_
              refine S_offD ?_
              refine S_pickF (v := .bool _) rfl hb53 rfl ?_
              refine S_nil ?_
              refine .hd (and_f hb53) ?_
              repeat (first | with_reducible exact WS.refl _ | refine WS.add ?_ rfl)
            refine S_m (v := .bool _) rfl ?_
            refine S_two (b := (((((((((x39.2.2 == (0 : Int)) && (x41.2.2 == (0 : Int))) && (x43.2.2 == (0 : Int))) && (x44.2 == (0 : Int))) && (x39.1 == a35)) && (x41.1 == (IntKind.wrap .i64 ((2 : Int) * a35)))) && (x43.1 == (IntKind.wrap .i64 (0 - a35)))) && (x39.2.1 == ((!((((decide (p0 < p4)) && (decide (p4 < (IntKind.wrap .i64 (p0 + p2))))) && (decide (p1 < p5))) && (decide (p5 < (IntKind.wrap .i64 (p1 + p3)))))) && (!((((decide (p4 < p0)) || (decide ((IntKind.wrap .i64 (p0 + p2)) < p4))) || (decide (p5 < p1))) || (decide ((IntKind.wrap .i64 (p1 + p3)) < p5))))))) && (x41.2.1 == ((!((((decide (p0 < p4)) && (decide (p4 < (IntKind.wrap .i64 (p0 + p2))))) && (decide (p1 < p5))) && (decide (p5 < (IntKind.wrap .i64 (p1 + p3)))))) && (!((((decide (p4 < p0)) || (decide ((IntKind.wrap .i64 (p0 + p2)) < p4))) || (decide (p5 < p1))) || (decide ((IntKind.wrap .i64 (p1 + p3)) < p5)))))))) 4 256 (.bool ((((((((((x39.2.2 == (0 : Int)) && (x41.2.2 == (0 : Int))) && (x43.2.2 == (0 : Int))) && (x44.2 == (0 : Int))) && (x39.1 == a35)) && (x41.1 == (IntKind.wrap .i64 ((2 : Int) * a35)))) && (x43.1 == (IntKind.wrap .i64 (0 - a35)))) && (x39.2.1 == ((!((((decide (p0 < p4)) && (decide (p4 < (IntKind.wrap .i64 (p0 + p2))))) && (decide (p1 < p5))) && (decide (p5 < (IntKind.wrap .i64 (p1 + p3)))))) && (!((((decide (p4 < p0)) || (decide ((IntKind.wrap .i64 (p0 + p2)) < p4))) || (decide (p5 < p1))) || (decide ((IntKind.wrap .i64 (p1 + p3)) < p5))))))) && (x41.2.1 == ((!((((decide (p0 < p4)) && (decide (p4 < (IntKind.wrap .i64 (p0 + p2))))) && (decide (p1 < p5))) && (decide (p5 < (IntKind.wrap .i64 (p1 + p3)))))) && (!((((decide (p4 < p0)) || (decide ((IntKind.wrap .i64 (p0 + p2)) < p4))) || (decide (p5 < p1))) || (decide ((IntKind.wrap .i64 (p1 + p3)) < p5))))))) && (x43.2.1 == ((!((((decide (p0 < p4)) && (decide (p4 < (IntKind.wrap .i64 (p0 + p2))))) && (decide (p1 < p5))) && (decide (p5 < (IntKind.wrap .i64 (p1 + p3)))))) && (!((((decide (p4 < p0)) || (decide ((IntKind.wrap .i64 (p0 + p2)) < p4))) || (decide (p5 < p1))) || (decide ((IntKind.wrap .i64 (p1 + p3)) < p5)))))))) (fun hb54 => ?_) (fun hb54 => ?_) ?_
            ·
              refine S_on rfl rfl hb54 ?_
              refine S_in ?_
              refine S_m (v := .bool _) rfl ?_
              refine S_nil ?_
              refine S_on rfl rfl hb54 ?_
              refine S_in ?_
              refine S_m (v := .bool _) rfl ?_
              refine S_nil ?_
              refine S_on rfl rfl hb54 ?_
              refine S_in ?_
              refine S_bin rfl rfl (e_beq ty_bo_4) ?_
              refine S_nil ?_
              refine S_pickT (v := .bool _) rfl hb54 rfl ?_
              refine S_nil ?_
              refine .hd (and_t hb54) ?_
              repeat (first | with_reducible exact WS.refl _ | refine WS.add ?_ rfl)
            ·
              refine S_off rfl rfl hb54 ?_
              refine S_offD ?_
              refine S_off rfl rfl hb54 ?_
              refine S_offD ?_
              refine S_off rfl rfl hb54 ?_
              refine S_offD ?_
              refine S_pickF (v := .bool _) rfl hb54 rfl ?_
              refine S_nil ?_
              refine .hd (and_f hb54) ?_
              repeat (first | with_reducible exact WS.refl _ | refine WS.add ?_ rfl)
            refine S_m (v := .bool _) rfl ?_
            refine S_twoJ 9 266 hF (fun J56 hb55 hF => ?_) (fun J56 hb55 hF => ?_) (fun v57 hF => ?_)
            ·
              refine S_on rfl rfl hb55 ?_
              refine S_in ?_
              refine S_m (v := .float _ _) rfl ?_
              refine S_nil ?_
              refine S_on rfl rfl hb55 ?_
              refine S_in ?_
              refine S_m (v := .int _ _) rfl ?_
              refine S_nil ?_
              refine S_on rfl rfl hb55 ?_
              refine S_in ?_
              refine S_conv rfl (e_i2f ty_ki_40 ty_fa_40 ty_un_3) ?_
              refine S_nil ?_
              refine S_on rfl rfl hb55 ?_
              refine S_in ?_
              refine S_fmul (a := (4616189618054758400 : Nat)) (b := (i2f p2)) rfl rfl hF (fun x58 _ hF => ?_)
              refine S_nil ?_
              refine S_on rfl rfl hb55 ?_
              refine S_in ?_
              refine S_m (v := .int _ _) rfl ?_
              refine S_nil ?_
              refine S_on rfl rfl hb55 ?_
              refine S_in ?_
              refine S_conv rfl (e_i2f ty_ki_40 ty_fa_40 ty_un_3) ?_
              refine S_nil ?_
              refine S_on rfl rfl hb55 ?_
              refine S_in ?_
              refine S_fmul (a := x58) (b := (i2f p3)) rfl rfl hF (fun x59 _ hF => ?_)
              refine S_nil ?_
              refine S_on rfl rfl hb55 ?_
              refine S_in ?_
              refine S_bin rfl rfl (e_feq (a := x44.1) (b := x59)) ?_
              refine S_nil ?_
              refine S_pickT (v := .bool _) rfl hb55 rfl ?_
              refine S_nil ?_
              refine ⟨_, hF, .hd (.refl _) ?_⟩
              repeat (first | with_reducible exact WS.refl _ | refine WS.add ?_ rfl)
            ·
              refine S_off rfl rfl hb55 ?_
              refine S_offD ?_
              refine S_off rfl rfl hb55 ?_
              refine S_offD ?_
              refine S_off rfl rfl hb55 ?_
              refine S_offD ?_
              refine S_off rfl rfl hb55 ?_
              refine S_offD ?_
              refine S_off rfl rfl hb55 ?_
              refine S_offD ?_
              refine S_off rfl rfl hb55 ?_
              refine S_offD ?_
              refine S_off rfl rfl hb55 ?_
              refine S_offD ?_
              refine S_off rfl rfl hb55 ?_
              refine S_offD ?_
              refine S_pickF (v := .bool _) rfl hb55 rfl ?_
              refine S_nil ?_
              refine ⟨_, hF, .hd (.refl _) ?_⟩
              repeat (first | with_reducible exact WS.refl _ | refine WS.add ?_ rfl)
            ·
              refine S_a (v := .bool _) rfl ?_
              refine S_nil ?_
              refine WP_ret ?_
              repeat (first | with_reducible refine Exit.sel_ret ?_ | with_reducible refine Exit.blk_ret ?_ | with_reducible refine Exit.jmp_ret ?_)
              refine C_ret (fn := Tryd.f7) rfl (.tmp (v := .bool v57) rfl .nil) ?_
              exact ⟨_, _, (.refl _), WH.refl _, _, F_some hF, rfl⟩
theorem F_trace_Turn_w (p0 : List T_trace_Stroke) (p1 : Nat × Nat) (p2 : Nat × Nat) {G : (List T_trace_Stroke) × Int → Prop} (h : Heap) (hF : OptP (F_trace_Turn p0 p1 p2) G) : CallsA Tryd.prog 24 [.sl 2 (List.map c_T_trace_Stroke p0) 0, .cplx .f64 p1.1 p1.2, .cplx .f64 p2.1 p2.2] h fun d h' => ∃ r, G r ∧ d = .tup [.sl 2 (List.map c_T_trace_Stroke r.1) 0, .int .i64 r.2] ∧ h' = h := by
  refine CallsA.ret ?_
  refine C_body Tryd.func24 rfl en_24 Tryd.ntmps24 rfl (fun ok => ?_)
  rw [F_trace_Turn] at hF
  refine C_seq ?_
  refine C_reg (mdl []) ?_
  refine S_a (v := .snil) rfl ?_
  refine S_one 6 (v := .sl 2 (List.map c_T_trace_Stroke ([] : List T_trace_Stroke)) 0) (.nil _) ?_
  refine S_a (v := .int _ _) rfl ?_
  refine S_nil ?_
  refine C_seq ?_
  refine C_seq ?_
  refine C_reg (mdl []) ?_
  refine S_m (v := .sl _ _ _) rfl ?_
  refine S_call (F_trace_right_ok _ hF fun x1 _ hF => ?_) (.cons (.refl _) (.nil))
  refine S_un rfl (ev_not _) ?_
  refine S_m (v := .bool _) rfl ?_
  refine S_twoJ 4 21 hF (fun J3 hb2 hF => ?_) (fun J3 hb2 hF => ?_) (fun v4 hF => ?_)
  ·
    refine S_off rfl rfl hb2 ?_
    refine S_offD ?_
    refine S_off rfl rfl hb2 ?_
    refine S_offD ?_
    refine S_off rfl rfl hb2 ?_
    refine S_offD ?_
    refine S_pickT (v := .bool _) rfl hb2 rfl ?_
    refine S_nil ?_
    refine ⟨_, hF, .hd (.refl _) ?_⟩
    repeat (first | with_reducible exact WS.refl _ | refine WS.add ?_ rfl)
  ·
    refine S_on rfl rfl hb2 ?_
    refine S_in ?_
    refine S_m (v := .cplx _ _ _) rfl ?_
    refine S_nil ?_
    refine S_on rfl rfl hb2 ?_
    refine S_in ?_
    refine S_call (F_trace_spot_ok _ hF fun x5 _ hF => ?_) (.cons (.refl _) (.nil))
    refine S_nil ?_
    refine S_on rfl rfl hb2 ?_
    refine S_in ?_
    refine S_un rfl (ev_not _) ?_
    refine S_nil ?_
    refine S_pickF (v := .bool _) rfl hb2 rfl ?_
    refine S_nil ?_
    refine ⟨_, hF, .hd (.refl _) ?_⟩
    repeat (first | with_reducible exact WS.refl _ | refine WS.add ?_ rfl)
  ·
    refine S_m (v := .bool _) rfl ?_
    refine S_twoJ 4 26 hF (fun J7 hb6 hF => ?_) (fun J7 hb6 hF => ?_) (fun v8 hF => ?_)
    ·
      refine S_off rfl rfl hb6 ?_
      refine S_offD ?_
      refine S_off rfl rfl hb6 ?_
      refine S_offD ?_
      refine S_off rfl rfl hb6 ?_
      refine S_offD ?_
      refine S_pickT (v := .bool _) rfl hb6 rfl ?_
      refine S_nil ?_
      refine ⟨_, hF, .hd (.refl _) ?_⟩
      repeat (first | with_reducible exact WS.refl _ | refine WS.add ?_ rfl)
    ·
      refine S_on rfl rfl hb6 ?_
      refine S_in ?_
      refine S_m (v := .cplx _ _ _) rfl ?_
      refine S_nil ?_
      refine S_on rfl rfl hb6 ?_
      refine S_in ?_
      refine S_call (F_trace_spot_ok _ hF fun x9 _ hF => ?_) (.cons (.refl _) (.nil))
      refine S_nil ?_
      refine S_on rfl rfl hb6 ?_
      refine S_in ?_
      refine S_un rfl (ev_not _) ?_
      refine S_nil ?_
      refine S_pickF (v := .bool _) rfl hb6 rfl ?_
      refine S_nil ?_
      refine ⟨_, hF, .hd (.refl _) ?_⟩
      repeat (first | with_reducible exact WS.refl _ | refine WS.add ?_ rfl)
    ·
      refine S_nil ?_
      refine C_if (b := v8) rfl hF (fun hb10 hF => ?_) (fun hb10 hF => ?_)
      ·
        refine C_seq ?_
        refine C_reg (mdl []) ?_
        refine S_a (v := .snil) rfl ?_
        refine S_one 6 (v := .sl 2 (List.map c_T_trace_Stroke ([] : List T_trace_Stroke)) 0) (.nil _) ?_
        refine S_a (v := .int _ _) rfl ?_
        refine S_nil ?_
        refine WP_ret ?_
        repeat (first | with_reducible refine Exit.sel_ret ?_ | with_reducible refine Exit.blk_ret ?_ | with_reducible refine Exit.jmp_ret ?_)
        refine C_ret (fn := Tryd.f24) rfl (.tmp (v := .sl 2 (List.map c_T_trace_Stroke ([] : List T_trace_Stroke)) 0) rfl (.tmp (v := .int .i64 (1 : Int)) rfl .nil)) ?_
        exact ⟨_, _, (.tupC (.cons (.refl _) (.cons (.refl _) (.nil)))), ok.wh, _, F_some hF, rfl, rfl⟩
      ·
        refine WP_skip ?_
        refine C_seq ?_
        refine C_reg (mdl []) ?_
        refine S_a (v := .snil) rfl ?_
        refine S_ghost 8 2 ok rfl rfl ?_
        intro r11 hr11 ok
        refine S_nil ?_
        refine C_join hF (fun (a78 : (List T_trace_Stroke)) s' => ∃ g79 : Nat, g79 ≠ 0 ∧ OK h [(g79, .room)] ∧ WS s' ⟨mkSl 64 [(8, .sl 2 (List.map c_T_trace_Stroke a78) g79)], Hp h [(g79, .room)]⟩) (fun J80 hF => ?_) ?_
        ·
          refine C_seq ?_
          refine C_reg (mdl []) ?_
          refine S_m (v := .sl _ _ _) rfl ?_
          refine S_lenL rfl ty_sl_23 ?_
          refine S_m (v := .int _ _) rfl ?_
          refine S_nil ?_
          refine WP_block ?_
          refine C_loop (σ := (List T_trace_Stroke) × Int) hF (fun (v : (List T_trace_Stroke) × Int) s' => match v with | (a81, a83) => ∃ g82 : Nat, g82 ≠ 0 ∧ OK h [(g82, .room)] ∧ WS s' ⟨mkSl 64 [(1, .cplx .f64 p1.1 p1.2), (2, .cplx .f64 p2.1 p2.2), (8, .sl 2 (List.map c_T_trace_Stroke a81) g82), (27, .sl 2 (List.map c_T_trace_Stroke p0) 0), (28, .int .i64 (p0.length : Int)), (29, .int .i64 a83)], Hp h [(g82, .room)]⟩) ?_ ?_
          ·
            have hwo : WO [(r11, .room)] [(r11, .room)] := (.keep .nil)
            exact ⟨r11, hr11, (hwo.spec ok).1, WS.mk' (.cons (.refl _) (.cons (.refl _) (.cons (.refl _) (.cons (.refl _) (.cons (.refl _) (.cons (.refl _) .nil)))))) ok hwo⟩
          ·
            rintro G84 hG85 rec86 ⟨a81, a83⟩ s' ih87 hF ⟨g82, hg82, ok, hws⟩
            refine WP_ws hws ?_
            clear hws s'
            rw [F_trace_Turn_l0] at hF
            refine C_seq ?_
            refine C_reg (mdl []) ?_
            refine S_bin rfl rfl (ev_lss ..) ?_
            refine S_nil ?_
            refine C_seq ?_
            refine C_if (b := (decide (a83 < (p0.length : Int)))) rfl hF (fun hb88 hF => ?_) (fun hb88 hF => ?_)
            ·
              refine WP_skip ?_
              refine C_join hF (fun (a119 : (List T_trace_Stroke)) s' => ∃ g120 : Nat, g120 ≠ 0 ∧ OK h [(g120, .room)] ∧ WS s' ⟨mkSl 64 [(1, .cplx .f64 p1.1 p1.2), (2, .cplx .f64 p2.1 p2.2), (8, .sl 2 (List.map c_T_trace_Stroke a119) g120), (27, .sl 2 (List.map c_T_trace_Stroke p0) 0), (28, .int .i64 (p0.length : Int)), (29, .int .i64 a83)], Hp h [(g120, .room)]⟩) (fun J121 hF => ?_) ?_
              ·
                refine WP_block ?_
                refine C_seq ?_
                refine C_reg (mdl [(10, 1)]) ?_
                refine S_ix rfl rfl ty_sl_23 ty_sz_56 hF (fun x122 _ hF => ?_)
                refine S_ldQ rfl (p_agg (vs := c_T_trace_Stroke x122) ty_ag_56 ty_sz_56 rfl rfl) ?_
                refine S_all1 ok rfl ty_zc_56 ?_
                intro i123 hi123 ok
                refine S_st (j := 0) (cs' := [.sl 1 (List.map c_cplx x122.Spots) 0, .bool x122.Closed]) ok rfl rfl rfl hi123 rfl ty_sz_56 rfl rfl (fun ok => ?_)
                refine S_nil ?_
                refine C_seq ?_
                refine C_reg (mdl [(11, 1)]) ?_
                refine S_faP rfl ty_fd_56_1 ty_sz_4 ?_
                refine S_ldP (j := 0) ok rfl rfl rfl hi123 (p_one (v := .bool x122.Closed) ty_ag_4 ty_sz_4 rfl) ?_
                refine S_bld (v := .agg [.snil, .bool x122.Closed]) (b_st ty_zc_56 ty_pl_56 rfl) ?_
                refine S_all1 ok rfl ty_zc_56 ?_
                intro i124 hi124 ok
                refine S_st (j := 0) (cs' := [.snil, .bool x122.Closed]) ok rfl rfl rfl hi124 rfl ty_sz_56 rfl rfl (fun ok => ?_)
                refine S_ghostO 0 0 1 (fun r125 => [.sl 1 (List.map c_cplx ([] : List (Nat × Nat))) r125, .bool x122.Closed]) ok rfl hi124 rfl (fun _ => rfl) ?_
                intro r125 hr125 ok
                refine S_nil ?_
                refine C_join hF (fun (v : (List (Nat × Nat)) × Bool) s' => match v with | (a137, a139) => ∃ g138 : Nat, g138 ≠ 0 ∧ OK h [(g138, .room), (i124, .cells [.sl 1 (List.map c_cplx a137) g138, .bool a139]), (g82, .room)] ∧ WS s' ⟨mkSl 64 [(1, .cplx .f64 p1.1 p1.2), (2, .cplx .f64 p2.1 p2.2), (8, .sl 2 (List.map c_T_trace_Stroke a81) g82), (11, .ptr i124 0), (27, .sl 2 (List.map c_T_trace_Stroke p0) 0), (28, .int .i64 (p0.length : Int)), (29, .int .i64 a83)], Hp h [(g138, .room), (i124, .cells [.sl 1 (List.map c_cplx a137) g138, .bool a139]), (g82, .room)]⟩) (fun J140 hF => ?_) ?_
                ·
                  refine C_seq ?_
                  refine C_reg (mdl []) ?_
                  refine S_faP rfl ty_fd_56_0 ty_sz_54 ?_
                  refine S_ldP (j := 2) ok rfl rfl rfl hi123 (p_one (v := .sl 1 (List.map c_cplx x122.Spots) 0) ty_ag_54 ty_sz_54 rfl) ?_
                  refine S_lenL rfl ty_sl_54 ?_
                  refine S_m (v := .int _ _) rfl ?_
                  refine S_nil ?_
                  refine WP_block ?_
                  refine C_loop (σ := (List (Nat × Nat)) × Bool × Int) hF (fun (v : (List (Nat × Nat)) × Bool × Int) s' => match v with | (a141, a143, a144) => ∃ g142 : Nat, g142 ≠ 0 ∧ OK h [(g142, .room), (i124, .cells [.sl 1 (List.map c_cplx a141) g142, .bool a143]), (g82, .room)] ∧ WS s' ⟨mkSl 64 [(1, .cplx .f64 p1.1 p1.2), (2, .cplx .f64 p2.1 p2.2), (8, .sl 2 (List.map c_T_trace_Stroke a81) g82), (11, .ptr i124 0), (27, .sl 2 (List.map c_T_trace_Stroke p0) 0), (28, .int .i64 (p0.length : Int)), (29, .int .i64 a83), (37, .sl 1 (List.map c_cplx x122.Spots) 0), (38, .int .i64 (x122.Spots.length : Int)), (39, .int .i64 a144)], Hp h [(g142, .room), (i124, .cells [.sl 1 (List.map c_cplx a141) g142, .bool a143]), (g82, .room)]⟩) ?_ ?_
                  ·
                    have hwo : WO [(r125, .room), (i124, .cells [.sl 1 (List.map c_cplx ([] : List (Nat × Nat))) r125, .bool x122.Closed]), (i123, .cells [.sl 1 (List.map c_cplx x122.Spots) 0, .bool x122.Closed]), (g82, .room)] [(r125, .room), (i124, .cells [.sl 1 (List.map c_cplx ([] : List (Nat × Nat))) r125, .bool x122.Closed]), (g82, .room)] := (.keep (.keep (.drop (.keep .nil))))
                    exact ⟨r125, hr125, (hwo.spec ok).1, WS.mk' (.cons (.refl _) (.cons (.refl _) (.cons (.refl _) (.cons (.refl _) (.cons (.refl _) (.cons (.refl _) (.cons (.refl _) (.cons (.refl _) (.cons (.refl _) (.cons (.refl _) .nil)))))))))) ok hwo⟩
                  ·
                    rintro G145 hG146 rec147 ⟨a141, a143, a144⟩ s' ih148 hF ⟨g142, hg142, ok, hws⟩
                    refine WP_ws hws ?_
                    clear hws s'
                    rw [F_trace_Turn_l1] at hF
                    refine C_seq ?_
                    refine C_reg (mdl []) ?_
                    refine S_bin rfl rfl (ev_lss ..) ?_
                    refine S_nil ?_
                    refine C_seq ?_
                    refine C_if (b := (decide (a144 < (x122.Spots.length : Int)))) rfl hF (fun hb149 hF => ?_) (fun hb149 hF => ?_)
                    ·
                      refine WP_skip ?_
                      refine C_seq ?_
                      refine WP_block ?_
                      refine C_seq ?_
                      refine C_reg (mdl []) ?_
                      refine S_ix rfl rfl ty_sl_54 ty_sz_45 hF (fun x150 _ hF => ?_)
                      refine S_ldQ rfl (p_one ty_ag_45 ty_sz_45 rfl) ?_
                      refine S_a (v := .cplx _ _ _) rfl ?_
                      refine S_nil ?_
                      refine C_seq ?_
                      refine C_reg (mdl []) ?_
                      refine S_m (v := .cplx _ _ _) rfl ?_
                      refine S_m (v := .cplx _ _ _) rfl ?_
                      refine S_cmul (a := x150) (b := p1) rfl rfl hF (fun x151 _ hF => ?_)
                      refine S_m (v := .cplx _ _ _) rfl ?_
                      refine S_cadd (a := x151) (b := p2) rfl rfl hF (fun x152 _ hF => ?_)
                      refine S_a (v := .cplx _ _ _) rfl ?_
                      refine S_nil ?_
                      refine C_seq ?_
                      refine C_seq ?_
                      refine C_reg (mdl []) ?_
                      refine S_m (v := .cplx _ _ _) rfl ?_
                      refine S_call (F_trace_spot_ok _ hF fun x153 _ hF => ?_) (.cons (.refl _) (.nil))
                      refine S_un rfl (ev_not _) ?_
                      refine S_nil ?_
                      refine C_if (b := (!x153)) rfl hF (fun hb154 hF => ?_) (fun hb154 hF => ?_)
                      ·
                        refine C_seq ?_
                        refine C_reg (mdl []) ?_
                        refine S_a (v := .snil) rfl ?_
                        refine S_one 6 (v := .sl 2 (List.map c_T_trace_Stroke ([] : List T_trace_Stroke)) 0) (.nil _) ?_
                        refine S_a (v := .int _ _) rfl ?_
                        refine S_nil ?_
                        refine WP_ret ?_
                        replace hF := hG146 _ (F_some hF)
                        replace hF := hG85 _ (F_some hF)
                        repeat (first | with_reducible refine Exit.sel_ret ?_ | with_reducible refine Exit.blk_ret ?_ | with_reducible refine Exit.jmp_ret ?_)
                        refine C_ret (fn := Tryd.f24) rfl (.tmp (v := .sl 2 (List.map c_T_trace_Stroke ([] : List T_trace_Stroke)) 0) rfl (.tmp (v := .int .i64 (5 : Int)) rfl .nil)) ?_
                        exact ⟨_, _, (.tupC (.cons (.refl _) (.cons (.refl _) (.nil)))), ok.wh, _, F_some hF, rfl, rfl⟩
                      ·
                        refine WP_skip ?_
                        refine C_reg (mdl [(55, 2)]) ?_
                        refine S_faP rfl ty_fd_56_0 ty_sz_54 ?_
                        refine S_ldP (j := 1) ok rfl rfl rfl hi124 (p_one (v := .sl 1 (List.map c_cplx a141) g142) ty_ag_54 ty_sz_54 rfl) ?_
                        refine S_m (v := .cplx _ _ _) rfl ?_
                        refine S_lit0 (cs := [.cplx .f64 x152.1 x152.2]) (es := (List.map c_cplx [x152])) rfl ty_el_54 rfl (by kernel_rfl) (by kernel_rfl) ?_
                        refine S_app (j := 0) ok rfl rfl rfl rfl hg142 ty_el_54 ty_ni_54 hF ?_
                        intro r155 hr155 ok hF
                        refine S_faP rfl ty_fd_56_0 ty_sz_54 ?_
                        refine S_st (j := 1) (cs' := [.sl 1 (List.map c_cplx (a141 ++ [x152])) r155, .bool a143]) ok rfl rfl rfl hi124 rfl ty_sz_54 rfl rfl (fun ok => ?_)
                        refine S_nil ?_
                        refine C_reg (mdl []) ?_
                        refine S_bin rfl rfl (ev_add ..) ?_
                        refine S_m (v := .int _ _) rfl ?_
                        refine S_nil ?_
                        refine ih148 ((a141 ++ [x152]), a143, (IntKind.wrap .i64 (a144 + (1 : Int)))) _ hF ?_
                        have hwo : WO [(r155, .room), (i124, .cells [.sl 1 (List.map c_cplx (a141 ++ [x152])) r155, .bool a143]), (g82, .room)] [(r155, .room), (i124, .cells [.sl 1 (List.map c_cplx (a141 ++ [x152])) r155, .bool a143]), (g82, .room)] := (.keep (.keep (.keep .nil)))
                        exact ⟨r155, hr155, (hwo.spec ok).1, WS.mk' (.cons (.refl _) (.cons (.refl _) (.cons (.refl _) (.cons (.refl _) (.cons (.refl _) (.cons (.refl _) (.cons (.refl _) (.cons (.refl _) (.cons (.refl _) (.cons (.refl _) .nil)))))))))) ok hwo⟩
                    ·
                      refine WP_exit ?_
                      simp only [Exit.sel, Exit.blk, Exit.jmp, if_true, if_false, reduceIte, Nat.reduceEqDiff, Nat.succ_ne_zero, Nat.zero_ne_one, Nat.one_ne_zero]
                      replace hF := hG146 _ (F_some hF)
                      have hwo : WO [(g142, .room), (i124, .cells [.sl 1 (List.map c_cplx a141) g142, .bool a143]), (g82, .room)] [(g142, .room), (i124, .cells [.sl 1 (List.map c_cplx a141) g142, .bool a143]), (g82, .room)] := (.keep (.keep (.keep .nil)))
                      exact ⟨(a141, a143), hF, g142, hg142, (hwo.spec ok).1, WS.mk' (.cons (.refl _) (.cons (.refl _) (.cons (.refl _) (.cons (.refl _) (.cons (.refl _) (.cons (.refl _) (.cons (.refl _) .nil))))))) ok hwo⟩
                ·
                  rintro ⟨a137, a139⟩ s' hF ⟨g138, hg138, ok, hws⟩
                  refine WP_ws hws ?_
                  clear hws s'
                  refine C_reg (mdl [(61, 2)]) ?_
                  refine S_m (v := .sl _ _ _) rfl ?_
                  refine S_ldP (j := 1) ok rfl rfl rfl hi124 (p_agg (vs := [.sl 1 (List.map c_cplx a137) g138, .bool a139]) ty_ag_56 ty_sz_56 rfl rfl) ?_
                  refine S_one 59 (v := .agg (c_T_trace_Stroke (⟨a137, a139⟩ : T_trace_Stroke))) (.aggC (.cons (.zero _ _ _) (.cons (.refl _) (.nil)))) ?_
                  refine S_lit0 (cs := [.sl 1 (List.map c_cplx (⟨a137, a139⟩ : T_trace_Stroke).Spots) 0, .bool (⟨a137, a139⟩ : T_trace_Stroke).Closed]) (es := (List.map c_T_trace_Stroke [(⟨a137, a139⟩ : T_trace_Stroke)])) rfl ty_el_23 rfl (by kernel_rfl) (by kernel_rfl) ?_
                  refine S_app (j := 2) ok rfl rfl rfl rfl hg82 ty_el_23 ty_ni_23 hF ?_
                  intro r156 hr156 ok hF
                  refine S_a (v := .sl _ _ _) rfl ?_
                  refine S_nil ?_
                  have hwo : WO [(g138, .room), (i124, .cells [.sl 1 (List.map c_cplx a137) g138, .bool a139]), (r156, .room)] [(r156, .room)] := (.drop (.drop (.keep .nil)))
                  exact ⟨(a81 ++ [(⟨a137, a139⟩ : T_trace_Stroke)]), hF, r156, hr156, (hwo.spec ok).1, WS.mk' (.cons (.refl _) (.cons (.refl _) (.cons (.refl _) (.cons (.refl _) (.cons (.refl _) (.cons (.refl _) .nil)))))) ok hwo⟩
              ·
                rintro a119 s' hF ⟨g120, hg120, ok, hws⟩
                refine WP_ws hws ?_
                clear hws s'
                refine C_reg (mdl []) ?_
                refine S_bin rfl rfl (ev_add ..) ?_
                refine S_m (v := .int _ _) rfl ?_
                refine S_nil ?_
                refine ih87 (a119, (IntKind.wrap .i64 (a83 + (1 : Int)))) _ hF ?_
                have hwo : WO [(g120, .room)] [(g120, .room)] := (.keep .nil)
                exact ⟨g120, hg120, (hwo.spec ok).1, WS.mk' (.cons (.refl _) (.cons (.refl _) (.cons (.refl _) (.cons (.refl _) (.cons (.refl _) (.cons (.refl _) .nil)))))) ok hwo⟩
            ·
              refine WP_exit ?_
              simp only [Exit.sel, Exit.blk, Exit.jmp, if_true, if_false, reduceIte, Nat.reduceEqDiff, Nat.succ_ne_zero, Nat.zero_ne_one, Nat.one_ne_zero]
              replace hF := hG85 _ (F_some hF)
              have hwo : WO [(g82, .room)] [(g82, .room)] := (.keep .nil)
              exact ⟨a81, hF, g82, hg82, (hwo.spec ok).1, WS.mk' (.cons (.refl _) .nil) ok hwo⟩
        ·
          rintro a78 s' hF ⟨g79, hg79, ok, hws⟩
          refine WP_ws hws ?_
          clear hws s'
          refine C_seq ?_
          refine C_reg (mdl []) ?_
          refine S_m (v := .sl _ _ _) rfl ?_
          refine S_one 63 (v := .sl 2 (List.map c_T_trace_Stroke a78) 0) (.zero _ _ _) ?_
          refine S_a (v := .sl _ _ _) rfl ?_
          refine S_a (v := .int _ _) rfl ?_
          refine S_nil ?_
          refine WP_ret ?_
          repeat (first | with_reducible refine Exit.sel_ret ?_ | with_reducible refine Exit.blk_ret ?_ | with_reducible refine Exit.jmp_ret ?_)
          refine C_ret (fn := Tryd.f24) rfl (.tmp (v := .sl 2 (List.map c_T_trace_Stroke a78) 0) rfl (.tmp (v := .int .i64 (0 : Int)) rfl .nil)) ?_
          exact ⟨_, _, (.tupC (.cons (.refl _) (.cons (.refl _) (.nil)))), ok.wh, _, F_some hF, rfl, rfl⟩
theorem F_trace_Turn_ok {β : Type} {f : (List T_trace_Stroke) × Int → Option β} {G : β → Prop} {R : D → Heap → Prop} {p0 : List T_trace_Stroke} {p1 : Nat × Nat} {p2 : Nat × Nat} (h : Heap) (hF : OptP ((F_trace_Turn p0 p1 p2).bind f) G) (hk : ∀ r, F_trace_Turn p0 p1 p2 = some r → OptP (f r) G → R (.tup [.sl 2 (List.map c_T_trace_Stroke r.1) 0, .int .i64 r.2]) h) : CallsA Tryd.prog 24 [.sl 2 (List.map c_T_trace_Stroke p0) 0, .cplx .f64 p1.1 p1.2, .cplx .f64 p2.1 p2.2] h R := by
  obtain ⟨r0, hr, hF⟩ := F_bind hF
  refine (F_trace_Turn_w (G := fun r => r = r0) p0 p1 p2 h ⟨r0, hr, rfl⟩).mono ?_
  rintro _ _ ⟨r, rfl, rfl, rfl⟩
  exact hk _ hr hF
theorem F_lecternlaw10_TraceMoves_w (p0 : List T_lecternlaw10_Line) (p1 : Int) (p2 : Int) (p3 : Int) (p4 : Int) {G : Bool → Prop} (h : Heap) (hF : OptP (F_lecternlaw10_TraceMoves p0 p1 p2 p3 p4) G) : CallsA Tryd.prog 8 [.sl 2 (List.map c_T_lecternlaw10_Line p0) 0, .int .i64 p1, .int .i64 p2, .int .i64 p3, .int .i64 p4] h fun d h' => ∃ r, G r ∧ d = .bool r := by
  refine CallsA.ret ?_
  refine C_body Tryd.func8 rfl en_8 Tryd.ntmps8 rfl (fun ok => ?_)
  rw [F_lecternlaw10_TraceMoves] at hF
  refine C_seq ?_
  refine C_reg (mdl []) ?_
  refine S_a (v := .bool _) rfl ?_
  refine S_nil ?_
  refine C_seq ?_
  refine C_seq ?_
  refine C_reg (mdl []) ?_
  refine S_call (F_lecternlaw10_awake_ok _ hF fun x1 _ hF => ?_) (.nil)
  refine S_un rfl (ev_not _) ?_
  refine S_nil ?_
  refine C_if (b := (!x1)) rfl hF (fun hb2 hF => ?_) (fun hb2 hF => ?_)
  ·
    refine C_seq ?_
    refine C_reg (mdl []) ?_
    refine S_a (v := .bool _) rfl ?_
    refine S_nil ?_
    refine WP_ret ?_
    repeat (first | with_reducible refine Exit.sel_ret ?_ | with_reducible refine Exit.blk_ret ?_ | with_reducible refine Exit.jmp_ret ?_)
    refine C_ret (fn := Tryd.f8) rfl (.tmp (v := .bool false) rfl .nil) ?_
    exact ⟨_, _, (.refl _), WH.refl _, _, F_some hF, rfl⟩
  ·
    refine WP_skip ?_
    refine C_seq ?_
    refine C_reg (mdl []) ?_
    refine S_m (v := .sl _ _ _) rfl ?_
    refine S_call (F_lecternlaw10_figure_ok _ hF fun x3 _ hF => ?_) (.cons (.refl _) (.nil))
    refine S_m (v := .tup _) rfl ?_
    refine S_ext rfl rfl ?_
    refine S_ext rfl rfl ?_
    refine S_ext rfl rfl ?_
    refine S_a (v := .sl _ _ _) rfl ?_
    refine S_a (v := .sl _ _ _) rfl ?_
    refine S_a (v := .bool _) rfl ?_
    refine S_nil ?_
    refine C_seq ?_
    refine C_seq ?_
    refine C_reg (mdl []) ?_
    refine S_m (v := .bool _) rfl ?_
    refine S_un rfl (ev_not _) ?_
    refine S_m (v := .bool _) rfl ?_
    refine S_two (b := (!x3.2.2)) 3 45 (.bool ((!x3.2.2) || (decide (p1 < (-900 : Int))))) (fun hb4 => ?_) (fun hb4 => ?_) ?_
    ·
      refine S_off rfl rfl hb4 ?_
      refine S_offD ?_
      refine S_off rfl rfl hb4 ?_
      refine S_offD ?_
      refine S_pickT (v := .bool _) rfl hb4 rfl ?_
      refine S_nil ?_
      refine .hd (or_t hb4) ?_
      repeat (first | with_reducible exact WS.refl _ | refine WS.add ?_ rfl)
    ·
      refine S_on rfl rfl hb4 ?_
      refine S_in ?_
      refine S_m (v := .int _ _) rfl ?_
      refine S_nil ?_
      refine S_on rfl rfl hb4 ?_
      refine S_in ?_
      refine S_bin rfl rfl (ev_lss ..) ?_
      refine S_nil ?_
      refine S_pickF (v := .bool _) rfl hb4 rfl ?_
      refine S_nil ?_
      refine .hd (or_f hb4) ?_
      repeat (first | with_reducible exact WS.refl _ | refine WS.add ?_ rfl)
    refine S_m (v := .bool _) rfl ?_
    refine S_two (b := ((!x3.2.2) || (decide (p1 < (-900 : Int))))) 3 49 (.bool (((!x3.2.2) || (decide (p1 < (-900 : Int)))) || (decide ((900 : Int) < p1)))) (fun hb5 => ?_) (fun hb5 => ?_) ?_
    ·
      refine S_off rfl rfl hb5 ?_
      refine S_offD ?_
      refine S_off rfl rfl hb5 ?_
      refine S_offD ?_
      refine S_pickT (v := .bool _) rfl hb5 rfl ?_
      refine S_nil ?_
      refine .hd (or_t hb5) ?_
      repeat (first | with_reducible exact WS.refl _ | refine WS.add ?_ rfl)
    ·
      refine S_on rfl rfl hb5 ?_
      refine S_in ?_
      refine S_m (v := .int _ _) rfl ?_
      refine S_nil ?_
      refine S_on rfl rfl hb5 ?_
      refine S_in ?_
      refine S_bin rfl rfl (ev_gtr ..) ?_
      refine S_nil ?_
      refine S_pickF (v := .bool _) rfl hb5 rfl ?_
      refine S_nil ?_
      refine .hd (or_f hb5) ?_
      repeat (first | with_reducible exact WS.refl _ | refine WS.add ?_ rfl)
    refine S_m (v := .bool _) rfl ?_
    refine S_two (b := (((!x3.2.2) || (decide (p1 < (-900 : Int)))) || (decide ((900 : Int) < p1)))) 3 53 (.bool ((((!x3.2.2) || (decide (p1 < (-900 : Int)))) || (decide ((900 : Int) < p1))) || (decide (p2 < (-900 : Int))))) (fun hb6 => ?_) (fun hb6 => ?_) ?_
    ·
      refine S_off rfl rfl hb6 ?_
      refine S_offD ?_
      refine S_off rfl rfl hb6 ?_
      refine S_offD ?_
      refine S_pickT (v := .bool _) rfl hb6 rfl ?_
      refine S_nil ?_
      refine .hd (or_t hb6) ?_
      repeat (first | with_reducible exact WS.refl _ | refine WS.add ?_ rfl)
    ·
      refine S_on rfl rfl hb6 ?_
      refine S_in ?_
      refine S_m (v := .int _ _) rfl ?_
      refine S_nil ?_
      refine S_on rfl rfl hb6 ?_
      refine S_in ?_
      refine S_bin rfl rfl (ev_lss ..) ?_
      refine S_nil ?_
      refine S_pickF (v := .bool _) rfl hb6 rfl ?_
      refine S_nil ?_
      refine .hd (or_f hb6) ?_
      repeat (first | with_reducible exact WS.refl _ | refine WS.add ?_ rfl)
    refine S_m (v := .bool _) rfl ?_
    refine S_two (b := ((((!x3.2.2) || (decide (p1 < (-900 : Int)))) || (decide ((900 : Int) < p1))) || (decide (p2 < (-900 : Int))))) 3 57 (.bool (((((!x3.2.2) || (decide (p1 < (-900 : Int)))) || (decide ((900 : Int) < p1))) || (decide (p2 < (-900 : Int)))) || (decide ((900 : Int) < p2)))) (fun hb7 => ?_) (fun hb7 => ?_) ?_
    ·
      refine S_off rfl rfl hb7 ?_
      refine S_offD ?_
      refine S_off rfl rfl hb7 ?_
      refine S_offD ?_
      refine S_pickT (v := .bool _) rfl hb7 rfl ?_
      refine S_nil ?_
      refine .hd (or_t hb7) ?_
      repeat (first | with_reducible exact WS.refl _ | refine WS.add ?_ rfl)
    ·
      refine S_on rfl rfl hb7 ?_
      refine S_in ?_
      refine S_m (v := .int _ _) rfl ?_
      refine S_nil ?_
      refine S_on rfl rfl hb7 ?_
      refine S_in ?_
      refine S_bin rfl rfl (ev_gtr ..) ?_
      refine S_nil ?_
      refine S_pickF (v := .bool _) rfl hb7 rfl ?_
      refine S_nil ?_
      refine .hd (or_f hb7) ?_
      repeat (first | with_reducible exact WS.refl _ | refine WS.add ?_ rfl)
    refine S_m (v := .bool _) rfl ?_
    refine S_two (b := (((((!x3.2.2) || (decide (p1 < (-900 : Int)))) || (decide ((900 : Int) < p1))) || (decide (p2 < (-900 : Int)))) || (decide ((900 : Int) < p2)))) 7 65 (.bool ((((((!x3.2.2) || (decide (p1 < (-900 : Int)))) || (decide ((900 : Int) < p1))) || (decide (p2 < (-900 : Int)))) || (decide ((900 : Int) < p2))) || ((p1 == (0 : Int)) && (p2 == (0 : Int))))) (fun hb8 => ?_) (fun hb8 => ?_) ?_
    ·
      refine S_off rfl rfl hb8 ?_
      refine S_offD ?_
      refine S_off rfl rfl hb8 ?_
      refine S_offD ?_
      refine S_off rfl rfl hb8 ?_
      refine S_offD ?_
      refine S_off2 rfl rfl ?_
      refine S_offD ?_
      refine S_off2 rfl rfl ?_
      refine S_offD ?_
      refine S_off rfl rfl hb8 ?_
      refine S_offD ?_
      refine S_pickT (v := .bool _) rfl hb8 rfl ?_
      refine S_nil ?_
      refine .hd (or_t hb8) ?_
      repeat (first | with_reducible exact WS.refl _ | refine WS.add ?_ rfl)
    ·
      refine S_on rfl rfl hb8 ?_
      refine S_in ?_
      refine S_m (v := .int _ _) rfl ?_
      refine S_nil ?_
      refine S_on rfl rfl hb8 ?_
      refine S_in ?_
      refine S_bin rfl rfl (ev_eql ..) ?_
      refine S_nil ?_
      refine S_on rfl rfl hb8 ?_
      refine S_in ?_
      refine S_m (v := .bool _) rfl ?_
      refine S_nil ?_
      refine S_two (b := (p1 == (0 : Int))) 3 64 (.bool ((p1 == (0 : Int)) && (p2 == (0 : Int)))) (fun hb10 => ?_) (fun hb10 => ?_) ?_
      ·
        refine S_on rfl rfl hb10 ?_
        refine S_in ?_
        refine S_m (v := .int _ _) rfl ?_
        refine S_nil ?_
        refine S_on rfl rfl hb10 ?_
        refine S_in ?_
        refine S_bin rfl rfl (ev_eql ..) ?_
        refine S_nil ?_
        refine S_on rfl rfl hb8 ?_
        refine S_in ?_
        refine S_pickT (v := .bool _) rfl hb10 rfl ?_
        refine S_nil ?_
        refine S_nil ?_
        refine .hd (and_t hb10) ?_
        repeat (first | with_reducible exact WS.refl _ | refine WS.add ?_ rfl)
      ·
        refine S_off rfl rfl hb10 ?_
        refine S_offD ?_
        refine S_off rfl rfl hb10 ?_
        refine S_offD ?_
        refine S_on rfl rfl hb8 ?_
        refine S_in ?_
        refine S_pickF (v := .bool _) rfl hb10 rfl ?_
        refine S_nil ?_
        refine S_nil ?_
        refine .hd (and_f hb10) ?_
        repeat (first | with_reducible exact WS.refl _ | refine WS.add ?_ rfl)
      refine S_pickF (v := .bool _) rfl hb8 rfl ?_
      refine S_nil ?_
      refine .hd (or_f hb8) ?_
      repeat (first | with_reducible exact WS.refl _ | refine WS.add ?_ rfl)
    refine S_m (v := .bool _) rfl ?_
    refine S_twoJ 5 71 hF (fun J12 hb11 hF => ?_) (fun J12 hb11 hF => ?_) (fun v13 hF => ?_)
    ·
      refine S_off rfl rfl hb11 ?_
      refine S_offD ?_
      refine S_off rfl rfl hb11 ?_
      refine S_offD ?_
      refine S_off rfl rfl hb11 ?_
      refine S_offD ?_
      refine S_off rfl rfl hb11 ?_
      refine S_offD ?_
      refine S_pickT (v := .bool _) rfl hb11 rfl ?_
      refine S_nil ?_
      refine ⟨_, hF, .hd (.refl _) ?_⟩
      repeat (first | with_reducible exact WS.refl _ | refine WS.add ?_ rfl)
    ·
      refine S_on rfl rfl hb11 ?_
      refine S_in ?_
      refine S_m (v := .int _ _) rfl ?_
      refine S_nil ?_
      refine S_on rfl rfl hb11 ?_
      refine S_in ?_
      refine S_m (v := .int _ _) rfl ?_
      refine S_nil ?_
      refine S_on rfl rfl hb11 ?_
      refine S_in ?_
      refine S_call (F_lecternlaw10_fits_ok _ hF fun x14 _ hF => ?_) (.cons (.refl _) (.cons (.refl _) (.nil)))
      refine S_nil ?_
      refine S_on rfl rfl hb11 ?_
      refine S_in ?_
      refine S_un rfl (ev_not _) ?_
      refine S_nil ?_
      refine S_pickF (v := .bool _) rfl hb11 rfl ?_
      refine S_nil ?_
      refine ⟨_, hF, .hd (.refl _) ?_⟩
      repeat (first | with_reducible exact WS.refl _ | refine WS.add ?_ rfl)
    ·
      refine S_nil ?_
      refine C_if (b := v13) rfl hF (fun hb15 hF => ?_) (fun hb15 hF => ?_)
      ·
        refine C_seq ?_
        refine C_reg (mdl []) ?_
        refine S_a (v := .bool _) rfl ?_
        refine S_nil ?_
        refine WP_ret ?_
        repeat (first | with_reducible refine Exit.sel_ret ?_ | with_reducible refine Exit.blk_ret ?_ | with_reducible refine Exit.jmp_ret ?_)
        refine C_ret (fn := Tryd.f8) rfl (.tmp (v := .bool true) rfl .nil) ?_
        exact ⟨_, _, (.refl _), WH.refl _, _, F_some hF, rfl⟩
      ·
        refine WP_skip ?_
        refine C_seq ?_
        refine C_reg (mdl []) ?_
        refine S_m (v := .int _ _) rfl ?_
        refine S_m (v := .int _ _) rfl ?_
        refine S_call (F_lecternlaw10_spot_ok _ hF fun x16 _ hF => ?_) (.cons (.refl _) (.cons (.refl _) (.nil)))
        refine S_m (v := .int _ _) rfl ?_
        refine S_bin rfl rfl (e_rem rfl) ?_
        refine S_m (v := .int _ _) rfl ?_
        refine S_bin rfl rfl (e_rem rfl) ?_
        refine S_call (F_lecternlaw10_spot_ok _ hF fun x17 _ hF => ?_) (.cons (.refl _) (.cons (.refl _) (.nil)))
        refine S_m (v := .int _ _) rfl ?_
        refine S_m (v := .int _ _) rfl ?_
        refine S_call (F_lecternlaw10_spot_ok _ hF fun x18 _ hF => ?_) (.cons (.refl _) (.cons (.refl _) (.nil)))
        refine S_a (v := .cplx _ _ _) rfl ?_
        refine S_a (v := .cplx _ _ _) rfl ?_
        refine S_a (v := .cplx _ _ _) rfl ?_
        refine S_nil ?_
        refine C_seq ?_
        refine C_reg (mdl []) ?_
        refine S_m (v := .sl _ _ _) rfl ?_
        refine S_m (v := .cplx _ _ _) rfl ?_
        refine S_m (v := .cplx _ _ _) rfl ?_
        refine S_call (F_trace_Turn_ok _ hF fun x19 _ hF => ?_) (.cons (.refl _) (.cons (.refl _) (.cons (.refl _) (.nil))))
        refine S_m (v := .tup _) rfl ?_
        refine S_ext rfl rfl ?_
        refine S_ext rfl rfl ?_
        refine S_a (v := .sl _ _ _) rfl ?_
        refine S_a (v := .int _ _) rfl ?_
        refine S_nil ?_
        refine C_seq ?_
        refine C_seq ?_
        refine C_reg (mdl []) ?_
        refine S_m (v := .int _ _) rfl ?_
        refine S_bin rfl rfl (ev_neq ..) ?_
        refine S_nil ?_
        refine C_if (b := (x19.2 != (0 : Int))) rfl hF (fun hb20 hF => ?_) (fun hb20 hF => ?_)
        ·
          refine C_seq ?_
          refine C_reg (mdl []) ?_
          refine S_a (v := .bool _) rfl ?_
          refine S_nil ?_
          refine WP_ret ?_
          repeat (first | with_reducible refine Exit.sel_ret ?_ | with_reducible refine Exit.blk_ret ?_ | with_reducible refine Exit.jmp_ret ?_)
          refine C_ret (fn := Tryd.f8) rfl (.tmp (v := .bool true) rfl .nil) ?_
          exact ⟨_, _, (.refl _), WH.refl _, _, F_some hF, rfl⟩
        ·
          refine WP_skip ?_
          refine C_seq ?_
          refine C_reg (mdl []) ?_
          refine S_m (v := .sl _ _ _) rfl ?_
          refine S_call (F_trace_Area_ok _ hF fun x21 _ hF => ?_) (.cons (.refl _) (.nil))
          refine S_m (v := .tup _) rfl ?_
          refine S_ext rfl rfl ?_
          refine S_ext rfl rfl ?_
          refine S_a (v := .float _ _) rfl ?_
          refine S_a (v := .int _ _) rfl ?_
          refine S_nil ?_
          refine C_seq ?_
          refine C_reg (mdl []) ?_
          refine S_m (v := .sl _ _ _) rfl ?_
          refine S_call (F_trace_Area_ok _ hF fun x22 _ hF => ?_) (.cons (.refl _) (.nil))
          refine S_m (v := .tup _) rfl ?_
          refine S_ext rfl rfl ?_
          refine S_ext rfl rfl ?_
          refine S_a (v := .float _ _) rfl ?_
          refine S_a (v := .int _ _) rfl ?_
          refine S_nil ?_
          refine C_seq ?_
          refine C_seq ?_
          refine C_reg (mdl []) ?_
          refine S_m (v := .int _ _) rfl ?_
          refine S_bin rfl rfl (ev_neq ..) ?_
          refine S_m (v := .bool _) rfl ?_
          refine S_two (b := (x21.2 != (0 : Int))) 3 107 (.bool ((x21.2 != (0 : Int)) || (x22.2 != (0 : Int)))) (fun hb23 => ?_) (fun hb23 => ?_) ?_
          ·
            refine S_off rfl rfl hb23 ?_
            refine S_offD ?_
            refine S_off rfl rfl hb23 ?_
            refine S_offD ?_
            refine S_pickT (v := .bool _) rfl hb23 rfl ?_
            refine S_nil ?_
            refine .hd (or_t hb23) ?_
            repeat (first | with_reducible exact WS.refl _ | refine WS.add ?_ rfl)
          ·
            refine S_on rfl rfl hb23 ?_
            refine S_in ?_
            refine S_m (v := .int _ _) rfl ?_
            refine S_nil ?_
            refine S_on rfl rfl hb23 ?_
            refine S_in ?_
            refine S_bin rfl rfl (ev_neq ..) ?_
            refine S_nil ?_
            refine S_pickF (v := .bool _) rfl hb23 rfl ?_
            refine S_nil ?_
            refine .hd (or_f hb23) ?_
            repeat (first | with_reducible exact WS.refl _ | refine WS.add ?_ rfl)
          refine S_m (v := .bool _) rfl ?_
          refine S_twoJ 13 121 hF (fun J25 hb24 hF => ?_) (fun J25 hb24 hF => ?_) (fun v26 hF => ?_)
          ·
            refine S_off rfl rfl hb24 ?_
            refine S_offD ?_
            refine S_off rfl rfl hb24 ?_
            refine S_offD ?_
            refine S_off rfl rfl hb24 ?_
            refine S_offD ?_
            refine S_off rfl rfl hb24 ?_
            refine S_offD ?_
            refine S_off rfl rfl hb24 ?_
            refine S_offD ?_
            refine S_off rfl rfl hb24 ?_
            refine S_offD ?_
            refine S_off rfl rfl hb24 ?_
            refine S_offD ?_
            refine S_off rfl rfl hb24 ?_
            refine S_offD ?_
            refine S_off rfl rfl hb24 ?_
            refine S_offD ?_
            refine S_off rfl rfl hb24 ?_
            refine S_offD ?_
            refine S_off rfl rfl hb24 ?_
            refine S_offD ?_
            refine S_off rfl rfl hb24 ?_
            refine S_offD ?_
            refine S_pickT (v := .bool _) rfl hb24 rfl ?_
            refine S_nil ?_
            refine ⟨_, hF, .hd (.refl _) ?_⟩
            repeat (first | with_reducible exact WS.refl _ | refine WS.add ?_ rfl)
          ·
            refine S_on rfl rfl hb24 ?_
            refine S_in ?_
            refine S_m (v := .float _ _) rfl ?_
            refine S_nil ?_
            refine S_on rfl rfl hb24 ?_
            refine S_in ?_
            refine S_m (v := .float _ _) rfl ?_
            refine S_nil ?_
            refine S_on rfl rfl hb24 ?_
            refine S_in ?_
            refine S_m (v := .int _ _) rfl ?_
            refine S_nil ?_
            refine S_on rfl rfl hb24 ?_
            refine S_in ?_
            refine S_m (v := .int _ _) rfl ?_
            refine S_nil ?_
            refine S_on rfl rfl hb24 ?_
            refine S_in ?_
            refine S_bin rfl rfl (ev_mul ..) ?_
            refine S_nil ?_
            refine S_on rfl rfl hb24 ?_
            refine S_in ?_
            refine S_m (v := .int _ _) rfl ?_
            refine S_nil ?_
            refine S_on rfl rfl hb24 ?_
            refine S_in ?_
            refine S_m (v := .int _ _) rfl ?_
            refine S_nil ?_
            refine S_on rfl rfl hb24 ?_
            refine S_in ?_
            refine S_bin rfl rfl (ev_mul ..) ?_
            refine S_nil ?_
            refine S_on rfl rfl hb24 ?_
            refine S_in ?_
            refine S_bin rfl rfl (ev_add ..) ?_
            refine S_nil ?_
            refine S_on rfl rfl hb24 ?_
            refine S_in ?_
            refine S_conv rfl (e_i2f ty_ki_40 ty_fa_40 ty_un_3) ?_
            refine S_nil ?_
            refine S_on rfl rfl hb24 ?_
            refine S_in ?_
            refine S_fmul (a := x21.1) (b := (i2f (IntKind.wrap .i64 ((IntKind.wrap .i64 (p1 * p1)) + (IntKind.wrap .i64 (p2 * p2)))))) rfl rfl hF (fun x27 _ hF => ?_)
            refine S_nil ?_
            refine S_on rfl rfl hb24 ?_
            refine S_in ?_
            refine S_bin rfl rfl (e_fne (a := x22.1) (b := x27)) ?_
            refine S_nil ?_
            refine S_pickF (v := .bool _) rfl hb24 rfl ?_
            refine S_nil ?_
            refine ⟨_, hF, .hd (.refl _) ?_⟩
            repeat (first | with_reducible exact WS.refl _ | refine WS.add ?_ rfl)
          ·
            refine S_nil ?_
            refine C_if (b := v26) rfl hF (fun hb28 hF => ?_) (fun hb28 hF => ?_)
            ·
              refine C_seq ?_
              refine C_reg (mdl []) ?_
              refine S_a (v := .bool _) rfl ?_
              refine S_nil ?_
              refine WP_ret ?_
              repeat (first | with_reducible refine Exit.sel_ret ?_ | with_reducible refine Exit.blk_ret ?_ | with_reducible refine Exit.jmp_ret ?_)
              refine C_ret (fn := Tryd.f8) rfl (.tmp (v := .bool false) rfl .nil) ?_
              exact ⟨_, _, (.refl _), WH.refl _, _, F_some hF, rfl⟩
            ·
              refine WP_skip ?_
              refine C_seq ?_
              refine C_reg (mdl []) ?_
              refine S_m (v := .sl _ _ _) rfl ?_
              refine S_m (v := .cplx _ _ _) rfl ?_
              refine S_call (F_trace_Around_ok _ hF fun x29 _ hF => ?_) (.cons (.refl _) (.cons (.refl _) (.nil)))
              refine S_m (v := .tup _) rfl ?_
              refine S_ext rfl rfl ?_
              refine S_ext rfl rfl ?_
              refine S_ext rfl rfl ?_
              refine S_a (v := .int _ _) rfl ?_
              refine S_a (v := .bool _) rfl ?_
              refine S_a (v := .int _ _) rfl ?_
              refine S_nil ?_
              refine C_seq ?_
              refine C_reg (mdl []) ?_
              refine S_m (v := .cplx _ _ _) rfl ?_
              refine S_m (v := .cplx _ _ _) rfl ?_
              refine S_cmul (a := x18) (b := x16) rfl rfl hF (fun x30 _ hF => ?_)
              refine S_m (v := .cplx _ _ _) rfl ?_
              refine S_cadd (a := x30) (b := x17) rfl rfl hF (fun x31 _ hF => ?_)
              refine S_a (v := .cplx _ _ _) rfl ?_
              refine S_nil ?_
              refine C_seq ?_
              refine C_seq ?_
              refine C_reg (mdl [(27, 1)]) ?_
              refine S_m (v := .cplx _ _ _) rfl ?_
              refine S_call (F_lecternref10_From_ok _ hF fun x32 _ hF => ?_) (.cons (.refl _) (.nil))
              refine S_m (v := .tup _) rfl ?_
              refine S_ext rfl rfl ?_
              refine S_ext rfl rfl ?_
              refine S_all1 ok rfl ty_zc_52 ?_
              intro i33 hi33 ok
              refine S_st (j := 0) (cs' := [.int .i64 x32.1.X, .int .i64 x32.1.Y]) ok rfl rfl rfl hi33 rfl ty_sz_52 rfl rfl (fun ok => ?_)
              refine S_a (v := .bool _) rfl ?_
              refine S_nil ?_
              refine C_seq ?_
              refine C_reg (mdl []) ?_
              refine S_m (v := .bool _) rfl ?_
              refine S_un rfl (ev_not _) ?_
              refine S_m (v := .bool _) rfl ?_
              refine S_twoJ 7 148 hF (fun J35 hb34 hF => ?_) (fun J35 hb34 hF => ?_) (fun v36 hF => ?_)
              ·
                refine S_off rfl rfl hb34 ?_
                refine S_offD ?_
                refine S_off rfl rfl hb34 ?_
                refine S_offD ?_
                refine S_off rfl rfl hb34 ?_
                refine S_offD ?_
                refine S_off rfl rfl hb34 ?_
                refine S_offD ?_
                refine S_off rfl rfl hb34 ?_
                refine S_offD ?_
                refine S_off rfl rfl hb34 ?_
                refine S_offD ?_
                refine S_pickT (v := .bool _) rfl hb34 rfl ?_
                refine S_nil ?_
                refine ⟨_, hF, .hd (.refl _) ?_⟩
                repeat (first | with_reducible exact WS.refl _ | refine WS.add ?_ rfl)
              ·
                refine S_on rfl rfl hb34 ?_
                refine S_in ?_
                refine S_faP rfl ty_fd_52_0 ty_sz_3 ?_
                refine S_nil ?_
                refine S_on rfl rfl hb34 ?_
                refine S_in ?_
                refine S_ldP (j := 0) ok rfl rfl rfl hi33 (p_one (v := .int .i64 x32.1.X) ty_ag_3 ty_sz_3 rfl) ?_
                refine S_nil ?_
                refine S_on rfl rfl hb34 ?_
                refine S_in ?_
                refine S_faP rfl ty_fd_52_1 ty_sz_3 ?_
                refine S_nil ?_
                refine S_on rfl rfl hb34 ?_
                refine S_in ?_
                refine S_ldP (j := 0) ok rfl rfl rfl hi33 (p_one (v := .int .i64 x32.1.Y) ty_ag_3 ty_sz_3 rfl) ?_
                refine S_nil ?_
                refine S_on rfl rfl hb34 ?_
                refine S_in ?_
                refine S_call (F_lecternlaw10_fits_ok _ hF fun x37 _ hF => ?_) (.cons (.refl _) (.cons (.refl _) (.nil)))
                refine S_nil ?_
                refine S_on rfl rfl hb34 ?_
                refine S_in ?_
                refine S_un rfl (ev_not _) ?_
                refine S_nil ?_
                refine S_pickF (v := .bool _) rfl hb34 rfl ?_
                refine S_nil ?_
                refine ⟨_, hF, .hd (.refl _) ?_⟩
                repeat (first | with_reducible exact WS.refl _ | refine WS.add ?_ rfl)
              ·
                refine S_nil ?_
                refine C_if (b := v36) rfl hF (fun hb38 hF => ?_) (fun hb38 hF => ?_)
                ·
                  refine C_seq ?_
                  refine C_reg (mdl []) ?_
                  refine S_m (v := .int _ _) rfl ?_
                  refine S_bin rfl rfl (ev_eql ..) ?_
                  refine S_a (v := .bool _) rfl ?_
                  refine S_nil ?_
                  refine WP_ret ?_
                  repeat (first | with_reducible refine Exit.sel_ret ?_ | with_reducible refine Exit.blk_ret ?_ | with_reducible refine Exit.jmp_ret ?_)
                  refine C_ret (fn := Tryd.f8) rfl (.tmp (v := .bool (x29.2.2 == (0 : Int))) rfl .nil) ?_
                  exact ⟨_, _, (.refl _), WH.refl _, _, F_some hF, rfl⟩
                ·
                  refine WP_skip ?_
                  refine C_seq ?_
                  refine C_reg (mdl []) ?_
                  refine S_m (v := .sl _ _ _) rfl ?_
                  refine S_m (v := .cplx _ _ _) rfl ?_
                  refine S_call (F_trace_Around_ok _ hF fun x39 _ hF => ?_) (.cons (.refl _) (.cons (.refl _) (.nil)))
                  refine S_m (v := .tup _) rfl ?_
                  refine S_ext rfl rfl ?_
                  refine S_ext rfl rfl ?_
                  refine S_ext rfl rfl ?_
                  refine S_a (v := .int _ _) rfl ?_
                  refine S_a (v := .bool _) rfl ?_
                  refine S_a (v := .int _ _) rfl ?_
                  refine S_nil ?_
                  refine C_seq ?_
                  refine C_reg (mdl []) ?_
                  refine S_m (v := .int _ _) rfl ?_
                  refine S_bin rfl rfl (ev_eql ..) ?_
                  refine S_m (v := .bool _) rfl ?_
                  refine S_two (b := (x29.2.2 == (0 : Int))) 3 163 (.bool ((x29.2.2 == (0 : Int)) && (x39.2.2 == (0 : Int)))) (fun hb40 => ?_) (fun hb40 => ?_) ?_
                  ·
                    refine S_on rfl rfl hb40 ?_
                    refine S_in ?_
                    refine S_m (v := .int _ _) rfl ?_
                    refine S_nil ?_
                    refine S_on rfl rfl hb40 ?_
                    refine S_in ?_
                    refine S_bin rfl rfl (ev_eql ..) ?_
                    refine S_nil ?_
                    refine S_pickT (v := .bool _) rfl hb40 rfl ?_
                    refine S_nil ?_
                    refine .hd (and_t hb40) ?_
                    repeat (first | with_reducible exact WS.refl _ | refine WS.add ?_ rfl)
                  ·
                    refine S_off rfl rfl hb40 ?_
                    refine S_offD ?_
                    refine S_off rfl rfl hb40 ?_
                    refine S_offD ?_
                    refine S_pickF (v := .bool _) rfl hb40 rfl ?_
                    refine S_nil ?_
                    refine .hd (and_f hb40) ?_
                    repeat (first | with_reducible exact WS.refl _ | refine WS.add ?_ rfl)
                  refine S_m (v := .bool _) rfl ?_
                  refine S_two (b := ((x29.2.2 == (0 : Int)) && (x39.2.2 == (0 : Int)))) 4 168 (.bool (((x29.2.2 == (0 : Int)) && (x39.2.2 == (0 : Int))) && (x29.1 == x39.1))) (fun hb41 => ?_) (fun hb41 => ?_) ?_
                  ·
                    refine S_on rfl rfl hb41 ?_
                    refine S_in ?_
                    refine S_m (v := .int _ _) rfl ?_
                    refine S_nil ?_
                    refine S_on rfl rfl hb41 ?_
                    refine S_in ?_
                    refine S_m (v := .int _ _) rfl ?_
                    refine S_nil ?_
                    refine S_on rfl rfl hb41 ?_
                    refine S_in ?_
                    refine S_bin rfl rfl (ev_eql ..) ?_
                    refine S_nil ?_
                    refine S_pickT (v := .bool _) rfl hb41 rfl ?_
                    refine S_nil ?_
                    refine .hd (and_t hb41) ?_
                    repeat (first | with_reducible exact WS.refl _ | refine WS.add ?_ rfl)
                  ·
                    refine S_off rfl rfl hb41 ?_
                    refine S_offD ?_
                    refine S_off rfl rfl hb41 ?_
                    refine S_offD ?_
                    refine S_off rfl rfl hb41 ?_
                    refine S_offD ?_
                    refine S_pickF (v := .bool _) rfl hb41 rfl ?_
                    refine S_nil ?_
                    refine .hd (and_f hb41) ?_
                    repeat (first | with_reducible exact WS.refl _ | refine WS.add ?_ rfl)
                  refine S_m (v := .bool _) rfl ?_
                  refine S_two (b := (((x29.2.2 == (0 : Int)) && (x39.2.2 == (0 : Int))) && (x29.1 == x39.1))) 4 173 (.bool ((((x29.2.2 == (0 : Int)) && (x39.2.2 == (0 : Int))) && (x29.1 == x39.1)) && (x29.2.1 == x39.2.1))) (fun hb42 => ?_) (fun hb42 => ?_) ?_
                  ·
                    refine S_on rfl rfl hb42 ?_
                    refine S_in ?_
                    refine S_m (v := .bool _) rfl ?_
                    refine S_nil ?_
                    refine S_on rfl rfl hb42 ?_
                    refine S_in ?_
                    refine S_m (v := .bool _) rfl ?_
                    refine S_nil ?_
                    refine S_on rfl rfl hb42 ?_
                    refine S_in ?_
                    refine S_bin rfl rfl (e_beq ty_bo_4) ?_
                    refine S_nil ?_
                    refine S_pickT (v := .bool _) rfl hb42 rfl ?_
                    refine S_nil ?_
                    refine .hd (and_t hb42) ?_
                    repeat (first | with_reducible exact WS.refl _ | refine WS.add ?_ rfl)
                  ·
                    refine S_off rfl rfl hb42 ?_
                    refine S_offD ?_
                    refine S_off rfl rfl hb42 ?_
                    refine S_offD ?_
                    refine S_off rfl rfl hb42 ?_
                    refine S_offD ?_
                    refine S_pickF (v := .bool _) rfl hb42 rfl ?_
                    refine S_nil ?_
                    refine .hd (and_f hb42) ?_
                    repeat (first | with_reducible exact WS.refl _ | refine WS.add ?_ rfl)
                  refine S_a (v := .bool _) rfl ?_
                  refine S_nil ?_
                  refine WP_ret ?_
                  repeat (first | with_reducible refine Exit.sel_ret ?_ | with_reducible refine Exit.blk_ret ?_ | with_reducible refine Exit.jmp_ret ?_)
                  refine C_ret (fn := Tryd.f8) rfl (.tmp (v := .bool ((((x29.2.2 == (0 : Int)) && (x39.2.2 == (0 : Int))) && (x29.1 == x39.1)) && (x29.2.1 == x39.2.1))) rfl .nil) ?_
                  exact ⟨_, _, (.refl _), WH.refl _, _, F_some hF, rfl⟩
theorem F_lecternlaw10_TraceBack_w (p0 : List T_lecternlaw10_Line) (p1 : List UInt8) {G : Bool → Prop} (h : Heap) (hF : OptP (F_lecternlaw10_TraceBack p0 p1) G) : CallsA Tryd.prog 5 [.sl 2 (List.map c_T_lecternlaw10_Line p0) 0, .str p1] h fun d h' => ∃ r, G r ∧ d = .bool r := by
  refine CallsA.ret ?_
  refine C_body Tryd.func5 rfl en_5 Tryd.ntmps5 rfl (fun ok => ?_)
  rw [F_lecternlaw10_TraceBack] at hF
  refine C_seq ?_
  refine C_reg (mdl []) ?_
  refine S_a (v := .bool _) rfl ?_
  refine S_nil ?_
  refine C_seq ?_
  refine C_seq ?_
  refine C_reg (mdl []) ?_
  refine S_call (F_lecternlaw10_awake_ok _ hF fun x1 _ hF => ?_) (.nil)
  refine S_un rfl (ev_not _) ?_
  refine S_nil ?_
  refine C_if (b := (!x1)) rfl hF (fun hb2 hF => ?_) (fun hb2 hF => ?_)
  ·
    refine C_seq ?_
    refine C_reg (mdl []) ?_
    refine S_a (v := .bool _) rfl ?_
    refine S_nil ?_
    refine WP_ret ?_
    repeat (first | with_reducible refine Exit.sel_ret ?_ | with_reducible refine Exit.blk_ret ?_ | with_reducible refine Exit.jmp_ret ?_)
    refine C_ret (fn := Tryd.f5) rfl (.tmp (v := .bool false) rfl .nil) ?_
    exact ⟨_, _, (.refl _), WH.refl _, _, F_some hF, rfl⟩
  ·
    refine WP_skip ?_
    refine C_seq ?_
    refine C_reg (mdl []) ?_
    refine S_m (v := .sl _ _ _) rfl ?_
    refine S_call (F_lecternlaw10_figure_ok _ hF fun x3 _ hF => ?_) (.cons (.refl _) (.nil))
    refine S_m (v := .tup _) rfl ?_
    refine S_ext rfl rfl ?_
    refine S_ext rfl rfl ?_
    refine S_ext rfl rfl ?_
    refine S_a (v := .sl _ _ _) rfl ?_
    refine S_a (v := .sl _ _ _) rfl ?_
    refine S_a (v := .bool _) rfl ?_
    refine S_nil ?_
    refine C_join hF (fun (_ : Unit) s' => OK h [] ∧ WS s' ⟨mkSl 96 [(1, .str p1)], Hp h []⟩) (fun J13 hF => ?_) ?_
    ·
      refine C_seq ?_
      refine C_reg (mdl []) ?_
      refine S_m (v := .bool _) rfl ?_
      refine S_nil ?_
      refine C_if (b := x3.2.2) rfl hF (fun hb14 hF => ?_) (fun hb14 hF => ?_)
      ·
        refine C_seq ?_
        refine C_reg (mdl []) ?_
        refine S_m (v := .sl _ _ _) rfl ?_
        refine S_call (F_trace_Show_ok _ hF fun x15 _ hF => ?_) (.cons (.refl _) (.nil))
        refine S_m (v := .tup _) rfl ?_
        refine S_ext rfl rfl ?_
        refine S_ext rfl rfl ?_
        refine S_a (v := .str _) rfl ?_
        refine S_a (v := .int _ _) rfl ?_
        refine S_nil ?_
        refine C_seq ?_
        refine C_reg (mdl []) ?_
        refine S_m (v := .str _) rfl ?_
        refine S_call (F_trace_Read_ok _ hF fun x16 _ hF => ?_) (.cons (.refl _) (.nil))
        refine S_m (v := .tup _) rfl ?_
        refine S_ext rfl rfl ?_
        refine S_ext rfl rfl ?_
        refine S_ext rfl rfl ?_
        refine S_a (v := .sl _ _ _) rfl ?_
        refine S_a (v := .int _ _) rfl ?_
        refine S_a (v := .int _ _) rfl ?_
        refine S_nil ?_
        refine C_seq ?_
        refine C_reg (mdl []) ?_
        refine S_m (v := .int _ _) rfl ?_
        refine S_bin rfl rfl (ev_neq ..) ?_
        refine S_m (v := .bool _) rfl ?_
        refine S_two (b := (x15.2 != (0 : Int))) 3 47 (.bool ((x15.2 != (0 : Int)) || (x16.2.2 != (0 : Int)))) (fun hb17 => ?_) (fun hb17 => ?_) ?_
        ·
          refine S_off rfl rfl hb17 ?_
          refine S_offD ?_
          refine S_off rfl rfl hb17 ?_
          refine S_offD ?_
          refine S_pickT (v := .bool _) rfl hb17 rfl ?_
          refine S_nil ?_
          refine .hd (or_t hb17) ?_
          repeat (first | with_reducible exact WS.refl _ | refine WS.add ?_ rfl)
        ·
          refine S_on rfl rfl hb17 ?_
          refine S_in ?_
          refine S_m (v := .int _ _) rfl ?_
          refine S_nil ?_
          refine S_on rfl rfl hb17 ?_
          refine S_in ?_
          refine S_bin rfl rfl (ev_neq ..) ?_
          refine S_nil ?_
          refine S_pickF (v := .bool _) rfl hb17 rfl ?_
          refine S_nil ?_
          refine .hd (or_f hb17) ?_
          repeat (first | with_reducible exact WS.refl _ | refine WS.add ?_ rfl)
        refine S_m (v := .bool _) rfl ?_
        refine S_twoJ 5 53 hF (fun J19 hb18 hF => ?_) (fun J19 hb18 hF => ?_) (fun v20 hF => ?_)
        ·
          refine S_off rfl rfl hb18 ?_
          refine S_offD ?_
          refine S_off rfl rfl hb18 ?_
          refine S_offD ?_
          refine S_off rfl rfl hb18 ?_
          refine S_offD ?_
          refine S_off rfl rfl hb18 ?_
          refine S_offD ?_
          refine S_pickT (v := .bool _) rfl hb18 rfl ?_
          refine S_nil ?_
          refine ⟨_, hF, .hd (.refl _) ?_⟩
          repeat (first | with_reducible exact WS.refl _ | refine WS.add ?_ rfl)
        ·
          refine S_on rfl rfl hb18 ?_
          refine S_in ?_
          refine S_m (v := .sl _ _ _) rfl ?_
          refine S_nil ?_
          refine S_on rfl rfl hb18 ?_
          refine S_in ?_
          refine S_m (v := .sl _ _ _) rfl ?_
          refine S_nil ?_
          refine S_on rfl rfl hb18 ?_
          refine S_in ?_
          refine S_call (F_lecternlaw10_same_ok _ hF fun x21 _ hF => ?_) (.cons (.refl _) (.cons (.refl _) (.nil)))
          refine S_nil ?_
          refine S_on rfl rfl hb18 ?_
          refine S_in ?_
          refine S_un rfl (ev_not _) ?_
          refine S_nil ?_
          refine S_pickF (v := .bool _) rfl hb18 rfl ?_
          refine S_nil ?_
          refine ⟨_, hF, .hd (.refl _) ?_⟩
          repeat (first | with_reducible exact WS.refl _ | refine WS.add ?_ rfl)
        ·
          refine S_nil ?_
          refine C_if (b := v20) rfl hF (fun hb22 hF => ?_) (fun hb22 hF => ?_)
          ·
            refine C_seq ?_
            refine C_reg (mdl []) ?_
            refine S_a (v := .bool _) rfl ?_
            refine S_nil ?_
            refine WP_ret ?_
            repeat (first | with_reducible refine Exit.sel_ret ?_ | with_reducible refine Exit.blk_ret ?_ | with_reducible refine Exit.jmp_ret ?_)
            refine C_ret (fn := Tryd.f5) rfl (.tmp (v := .bool false) rfl .nil) ?_
            exact ⟨_, _, (.refl _), WH.refl _, _, F_some hF, rfl⟩
          ·
            refine WP_skip ?_
            have hwo : WO [] [] := .nil
            exact ⟨(), hF, (hwo.spec ok).1, WS.mk' (.cons (.refl _) .nil) ok hwo⟩
      ·
        refine WP_skip ?_
        have hwo : WO [] [] := .nil
        exact ⟨(), hF, (hwo.spec ok).1, WS.mk' (.cons (.refl _) .nil) ok hwo⟩
    ·
      rintro ⟨⟩ s' hF ⟨ok, hws⟩
      refine WP_ws hws ?_
      clear hws s'
      refine C_seq ?_
      refine C_reg (mdl []) ?_
      refine S_m (v := .str _) rfl ?_
      refine S_call (F_trace_Read_ok _ hF fun x23 _ hF => ?_) (.cons (.refl _) (.nil))
      refine S_m (v := .tup _) rfl ?_
      refine S_ext rfl rfl ?_
      refine S_ext rfl rfl ?_
      refine S_ext rfl rfl ?_
      refine S_a (v := .sl _ _ _) rfl ?_
      refine S_a (v := .int _ _) rfl ?_
      refine S_a (v := .int _ _) rfl ?_
      refine S_nil ?_
      refine C_seq ?_
      refine C_seq ?_
      refine C_reg (mdl []) ?_
      refine S_m (v := .int _ _) rfl ?_
      refine S_bin rfl rfl (ev_neq ..) ?_
      refine S_nil ?_
      refine C_if (b := (x23.2.2 != (0 : Int))) rfl hF (fun hb24 hF => ?_) (fun hb24 hF => ?_)
      ·
        refine C_seq ?_
        refine C_reg (mdl []) ?_
        refine S_m (v := .sl _ _ _) rfl ?_
        refine S_lenL rfl ty_sl_23 ?_
        refine S_bin rfl rfl (ev_eql ..) ?_
        refine S_a (v := .bool _) rfl ?_
        refine S_nil ?_
        refine WP_ret ?_
        repeat (first | with_reducible refine Exit.sel_ret ?_ | with_reducible refine Exit.blk_ret ?_ | with_reducible refine Exit.jmp_ret ?_)
        refine C_ret (fn := Tryd.f5) rfl (.tmp (v := .bool ((x23.1.length : Int) == (0 : Int))) rfl .nil) ?_
        exact ⟨_, _, (.refl _), WH.refl _, _, F_some hF, rfl⟩
      ·
        refine WP_skip ?_
        refine C_seq ?_
        refine C_reg (mdl []) ?_
        refine S_m (v := .sl _ _ _) rfl ?_
        refine S_call (F_trace_Show_ok _ hF fun x25 _ hF => ?_) (.cons (.refl _) (.nil))
        refine S_m (v := .tup _) rfl ?_
        refine S_ext rfl rfl ?_
        refine S_ext rfl rfl ?_
        refine S_a (v := .str _) rfl ?_
        refine S_a (v := .int _ _) rfl ?_
        refine S_nil ?_
        refine C_seq ?_
        refine C_reg (mdl []) ?_
        refine S_m (v := .str _) rfl ?_
        refine S_call (F_trace_Read_ok _ hF fun x26 _ hF => ?_) (.cons (.refl _) (.nil))
        refine S_m (v := .tup _) rfl ?_
        refine S_ext rfl rfl ?_
        refine S_ext rfl rfl ?_
        refine S_ext rfl rfl ?_
        refine S_a (v := .sl _ _ _) rfl ?_
        refine S_a (v := .int _ _) rfl ?_
        refine S_a (v := .int _ _) rfl ?_
        refine S_nil ?_
        refine C_seq ?_
        refine C_reg (mdl []) ?_
        refine S_m (v := .sl _ _ _) rfl ?_
        refine S_call (F_trace_Show_ok _ hF fun x27 _ hF => ?_) (.cons (.refl _) (.nil))
        refine S_m (v := .tup _) rfl ?_
        refine S_ext rfl rfl ?_
        refine S_ext rfl rfl ?_
        refine S_a (v := .str _) rfl ?_
        refine S_a (v := .int _ _) rfl ?_
        refine S_nil ?_
        refine C_seq ?_
        refine C_reg (mdl []) ?_
        refine S_m (v := .int _ _) rfl ?_
        refine S_bin rfl rfl (ev_eql ..) ?_
        refine S_m (v := .bool _) rfl ?_
        refine S_two (b := (x25.2 == (0 : Int))) 3 86 (.bool ((x25.2 == (0 : Int)) && (x26.2.2 == (0 : Int)))) (fun hb28 => ?_) (fun hb28 => ?_) ?_
        ·
          refine S_on rfl rfl hb28 ?_
          refine S_in ?_
          refine S_m (v := .int _ _) rfl ?_
          refine S_nil ?_
          refine S_on rfl rfl hb28 ?_
          refine S_in ?_
          refine S_bin rfl rfl (ev_eql ..) ?_
          refine S_nil ?_
          refine S_pickT (v := .bool _) rfl hb28 rfl ?_
          refine S_nil ?_
          refine .hd (and_t hb28) ?_
          repeat (first | with_reducible exact WS.refl _ | refine WS.add ?_ rfl)
        ·
          refine S_off rfl rfl hb28 ?_
          refine S_offD ?_
          refine S_off rfl rfl hb28 ?_
          refine S_offD ?_
          refine S_pickF (v := .bool _) rfl hb28 rfl ?_
          refine S_nil ?_
          refine .hd (and_f hb28) ?_
          repeat (first | with_reducible exact WS.refl _ | refine WS.add ?_ rfl)
        refine S_m (v := .bool _) rfl ?_
        refine S_two (b := ((x25.2 == (0 : Int)) && (x26.2.2 == (0 : Int)))) 3 90 (.bool (((x25.2 == (0 : Int)) && (x26.2.2 == (0 : Int))) && (x27.2 == (0 : Int)))) (fun hb29 => ?_) (fun hb29 => ?_) ?_
        ·
          refine S_on rfl rfl hb29 ?_
          refine S_in ?_
          refine S_m (v := .int _ _) rfl ?_
          refine S_nil ?_
          refine S_on rfl rfl hb29 ?_
          refine S_in ?_
          refine S_bin rfl rfl (ev_eql ..) ?_
          refine S_nil ?_
          refine S_pickT (v := .bool _) rfl hb29 rfl ?_
          refine S_nil ?_
          refine .hd (and_t hb29) ?_
          repeat (first | with_reducible exact WS.refl _ | refine WS.add ?_ rfl)
        ·
          refine S_off rfl rfl hb29 ?_
          refine S_offD ?_
          refine S_off rfl rfl hb29 ?_
          refine S_offD ?_
          refine S_pickF (v := .bool _) rfl hb29 rfl ?_
          refine S_nil ?_
          refine .hd (and_f hb29) ?_
          repeat (first | with_reducible exact WS.refl _ | refine WS.add ?_ rfl)
        refine S_m (v := .bool _) rfl ?_
        refine S_two (b := (((x25.2 == (0 : Int)) && (x26.2.2 == (0 : Int))) && (x27.2 == (0 : Int)))) 4 95 (.bool ((((x25.2 == (0 : Int)) && (x26.2.2 == (0 : Int))) && (x27.2 == (0 : Int))) && (x25.1 == x27.1))) (fun hb30 => ?_) (fun hb30 => ?_) ?_
        ·
          refine S_on rfl rfl hb30 ?_
          refine S_in ?_
          refine S_m (v := .str _) rfl ?_
          refine S_nil ?_
          refine S_on rfl rfl hb30 ?_
          refine S_in ?_
          refine S_m (v := .str _) rfl ?_
          refine S_nil ?_
          refine S_on rfl rfl hb30 ?_
          refine S_in ?_
          refine S_bin rfl rfl e_seql ?_
          refine S_nil ?_
          refine S_pickT (v := .bool _) rfl hb30 rfl ?_
          refine S_nil ?_
          refine .hd (and_t hb30) ?_
          repeat (first | with_reducible exact WS.refl _ | refine WS.add ?_ rfl)
        ·
          refine S_off rfl rfl hb30 ?_
          refine S_offD ?_
          refine S_off rfl rfl hb30 ?_
          refine S_offD ?_
          refine S_off rfl rfl hb30 ?_
          refine S_offD ?_
          refine S_pickF (v := .bool _) rfl hb30 rfl ?_
          refine S_nil ?_
          refine .hd (and_f hb30) ?_
          repeat (first | with_reducible exact WS.refl _ | refine WS.add ?_ rfl)
        refine S_a (v := .bool _) rfl ?_
        refine S_nil ?_
        refine WP_ret ?_
        repeat (first | with_reducible refine Exit.sel_ret ?_ | with_reducible refine Exit.blk_ret ?_ | with_reducible refine Exit.jmp_ret ?_)
        refine C_ret (fn := Tryd.f5) rfl (.tmp (v := .bool ((((x25.2 == (0 : Int)) && (x26.2.2 == (0 : Int))) && (x27.2 == (0 : Int))) && (x25.1 == x27.1))) rfl .nil) ?_
        exact ⟨_, _, (.refl _), WH.refl _, _, F_some hF, rfl⟩
end Go.Proofs.YtocfjohangcajaaDoor
