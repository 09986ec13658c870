/- The walks. No condition. -/
import Derived.Test.YtocfjohangcajaaDoorWk3
set_option linter.unusedVariables false
set_option linter.unusedSimpArgs false
set_option maxRecDepth 20000
set_option maxHeartbeats 8000000
namespace Go.Proofs.YtocfjohangcajaaDoor
theorem F_lecternref10_Around_ok {β : Type} {f : Int × Bool → Option β} {G : β → Prop} {R : D → Heap → Prop} {p0 : List T_lecternref10_Stroke} {p1 : T_lecternref10_Spot} (h : Heap) (hF : OptP ((F_lecternref10_Around p0 p1).bind f) G) (hk : ∀ r, F_lecternref10_Around p0 p1 = some r → OptP (f r) G → R (.tup [.int .i64 r.1, .bool r.2]) h) : CallsA Tryd.prog 23 [.sl 2 (List.map c_T_lecternref10_Stroke p0) 0, .agg (c_T_lecternref10_Spot p1)] h R := by
 obtain ⟨r0, hr, hF⟩ := F_bind hF
 refine (F_lecternref10_Around_w (G := fun r => r = r0) p0 p1 h ⟨r0, hr, rfl⟩).mono ?_
 rintro _ _ ⟨r, rfl, rfl, rfl⟩
 exact hk _ hr hF
theorem F_lecternlaw10_TraceRounds_w (p0 : List T_lecternlaw10_Line) (p1 : Int) (p2 : Int) {G : Bool → Prop} (h : Heap) (hF : OptP (F_lecternlaw10_TraceRounds p0 p1 p2) G) : CallsA Tryd.prog 6 [.sl 2 (List.map c_T_lecternlaw10_Line p0) 0, .int .i64 p1, .int .i64 p2] h fun d h' => ∃ r, G r ∧ d = .bool r := by
 refine CallsA.ret ?_
 refine C_body Tryd.func6 rfl en_6 Tryd.ntmps6 rfl (fun ok => ?_)
 rw [F_lecternlaw10_TraceRounds] at hF
 refine C_seq ?_
 refine C_reg (mdl []) ?_
 refine S_a (v := .bool _) rfl ?_
 refine S_nil ?_
 refine C_seq ?_
 refine C_seq ?_
 refine C_reg (mdl []) ?_
 refine S_call (F_lecternlaw10_awake_ok _ hF fun x1 _ hF => ?_) (.nil)
 refine S_un rfl (ev_not _) ?_
 refine S_nil ?_
 refine C_if (b := (!x1)) rfl hF (fun hb2 hF => ?_) (fun hb2 hF => ?_)
 ·
  refine C_seq ?_
  refine C_reg (mdl []) ?_
  refine S_a (v := .bool _) rfl ?_
  refine S_nil ?_
  refine WP_ret ?_
  repeat (first | with_reducible refine Exit.sel_ret ?_ | with_reducible refine Exit.blk_ret ?_ | with_reducible refine Exit.jmp_ret ?_)
  refine C_ret (fn := Tryd.f6) rfl (.tmp (v := .bool false) rfl .nil) ?_
  exact ⟨_, _, (.refl _), WH.refl _, _, F_some hF, rfl⟩
 ·
  refine WP_skip ?_
  refine C_seq ?_
  refine C_reg (mdl []) ?_
  refine S_m (v := .sl _ _ _) rfl ?_
  refine S_call (F_lecternlaw10_figure_ok _ hF fun x3 _ hF => ?_) (.cons (.refl _) (.nil))
  refine S_m (v := .tup _) rfl ?_
  refine S_ext rfl rfl ?_
  refine S_ext rfl rfl ?_
  refine S_ext rfl rfl ?_
  refine S_a (v := .sl _ _ _) rfl ?_
  refine S_a (v := .sl _ _ _) rfl ?_
  refine S_a (v := .bool _) rfl ?_
  refine S_nil ?_
  refine C_seq ?_
  refine C_reg (mdl []) ?_
  refine S_m (v := .sl _ _ _) rfl ?_
  refine S_call (F_trace_Area_ok _ hF fun x4 _ hF => ?_) (.cons (.refl _) (.nil))
  refine S_m (v := .tup _) rfl ?_
  refine S_ext rfl rfl ?_
  refine S_ext rfl rfl ?_
  refine S_a (v := .float _ _) rfl ?_
  refine S_a (v := .int _ _) rfl ?_
  refine S_nil ?_
  refine C_seq ?_
  refine C_reg (mdl []) ?_
  refine S_m (v := .sl _ _ _) rfl ?_
  refine S_m (v := .int _ _) rfl ?_
  refine S_m (v := .int _ _) rfl ?_
  refine S_call (F_lecternlaw10_spot_ok _ hF fun x5 _ hF => ?_) (.cons (.refl _) (.cons (.refl _) (.nil)))
  refine S_call (F_trace_Around_ok _ hF fun x6 _ hF => ?_) (.cons (.refl _) (.cons (.refl _) (.nil)))
  refine S_m (v := .tup _) rfl ?_
  refine S_ext rfl rfl ?_
  refine S_ext rfl rfl ?_
  refine S_ext rfl rfl ?_
  refine S_a (v := .int _ _) rfl ?_
  refine S_a (v := .bool _) rfl ?_
  refine S_a (v := .int _ _) rfl ?_
  refine S_nil ?_
  refine C_seq ?_
  refine C_seq ?_
  refine C_reg (mdl []) ?_
  refine S_m (v := .bool _) rfl ?_
  refine S_un rfl (ev_not _) ?_
  refine S_nil ?_
  refine C_if (b := (!x3.2.2)) rfl hF (fun hb7 hF => ?_) (fun hb7 hF => ?_)
  ·
   refine C_seq ?_
   refine C_reg (mdl []) ?_
   refine S_m (v := .int _ _) rfl ?_
   refine S_bin rfl rfl (ev_eql ..) ?_
   refine S_m (v := .bool _) rfl ?_
   refine S_two (b := (x4.2 == (1 : Int))) 3 46 (.bool ((x4.2 == (1 : Int)) && (feq x4.1 (0 : Nat)))) (fun hb8 => ?_) (fun hb8 => ?_) ?_
   ·
    refine S_on rfl rfl hb8 ?_
    refine S_in ?_
    refine S_m (v := .float _ _) rfl ?_
    refine S_nil ?_
    refine S_on rfl rfl hb8 ?_
    refine S_in ?_
    refine S_bin rfl rfl (e_feq (a := x4.1) (b := (0 : Nat))) ?_
    refine S_nil ?_
    refine S_pickT (v := .bool _) rfl hb8 rfl ?_
    refine S_nil ?_
    refine .hd (and_t hb8) ?_
    repeat (first | with_reducible exact WS.refl _ | refine WS.add ?_ rfl)
   ·
    refine S_off rfl rfl hb8 ?_
    refine S_offD ?_
    refine S_off rfl rfl hb8 ?_
    refine S_offD ?_
    refine S_pickF (v := .bool _) rfl hb8 rfl ?_
    refine S_nil ?_
    refine .hd (and_f hb8) ?_
    repeat (first | with_reducible exact WS.refl _ | refine WS.add ?_ rfl)
   refine S_m (v := .bool _) rfl ?_
   refine S_two (b := ((x4.2 == (1 : Int)) && (feq x4.1 (0 : Nat)))) 3 50 (.bool (((x4.2 == (1 : Int)) && (feq x4.1 (0 : Nat))) && (x6.2.2 == (1 : Int)))) (fun hb9 => ?_) (fun hb9 => ?_) ?_
   ·
    refine S_on rfl rfl hb9 ?_
    refine S_in ?_
    refine S_m (v := .int _ _) rfl ?_
    refine S_nil ?_
    refine S_on rfl rfl hb9 ?_
    refine S_in ?_
    refine S_bin rfl rfl (ev_eql ..) ?_
    refine S_nil ?_
    refine S_pickT (v := .bool _) rfl hb9 rfl ?_
    refine S_nil ?_
    refine .hd (and_t hb9) ?_
    repeat (first | with_reducible exact WS.refl _ | refine WS.add ?_ rfl)
   ·
    refine S_off rfl rfl hb9 ?_
    refine S_offD ?_
    refine S_off rfl rfl hb9 ?_
    refine S_offD ?_
    refine S_pickF (v := .bool _) rfl hb9 rfl ?_
    refine S_nil ?_
    refine .hd (and_f hb9) ?_
    repeat (first | with_reducible exact WS.refl _ | refine WS.add ?_ rfl)
   refine S_m (v := .bool _) rfl ?_
   refine S_two (b := (((x4.2 == (1 : Int)) && (feq x4.1 (0 : Nat))) && (x6.2.2 == (1 : Int)))) 3 54 (.bool ((((x4.2 == (1 : Int)) && (feq x4.1 (0 : Nat))) && (x6.2.2 == (1 : Int))) && (x6.1 == (0 : Int)))) (fun hb10 => ?_) (fun hb10 => ?_) ?_
   ·
    refine S_on rfl rfl hb10 ?_
    refine S_in ?_
    refine S_m (v := .int _ _) rfl ?_
    refine S_nil ?_
    refine S_on rfl rfl hb10 ?_
    refine S_in ?_
    refine S_bin rfl rfl (ev_eql ..) ?_
    refine S_nil ?_
    refine S_pickT (v := .bool _) rfl hb10 rfl ?_
    refine S_nil ?_
    refine .hd (and_t hb10) ?_
    repeat (first | with_reducible exact WS.refl _ | refine WS.add ?_ rfl)
   ·
    refine S_off rfl rfl hb10 ?_
    refine S_offD ?_
    refine S_off rfl rfl hb10 ?_
    refine S_offD ?_
    refine S_pickF (v := .bool _) rfl hb10 rfl ?_
    refine S_nil ?_
    refine .hd (and_f hb10) ?_
    repeat (first | with_reducible exact WS.refl _ | refine WS.add ?_ rfl)
   refine S_m (v := .bool _) rfl ?_
   refine S_two (b := ((((x4.2 == (1 : Int)) && (feq x4.1 (0 : Nat))) && (x6.2.2 == (1 : Int))) && (x6.1 == (0 : Int)))) 3 58 (.bool (((((x4.2 == (1 : Int)) && (feq x4.1 (0 : Nat))) && (x6.2.2 == (1 : Int))) && (x6.1 == (0 : Int))) && (!x6.2.1))) (fun hb11 => ?_) (fun hb11 => ?_) ?_
   ·
    refine S_on rfl rfl hb11 ?_
    refine S_in ?_
    refine S_m (v := .bool _) rfl ?_
    refine S_nil ?_
    refine S_on rfl rfl hb11 ?_
    refine S_in ?_
    refine S_un rfl (ev_not _) ?_
    refine S_nil ?_
    refine S_pickT (v := .bool _) rfl hb11 rfl ?_
    refine S_nil ?_
    refine .hd (and_t hb11) ?_
    repeat (first | with_reducible exact WS.refl _ | refine WS.add ?_ rfl)
   ·
    refine S_off rfl rfl hb11 ?_
    refine S_offD ?_
    refine S_off rfl rfl hb11 ?_
    refine S_offD ?_
    refine S_pickF (v := .bool _) rfl hb11 rfl ?_
    refine S_nil ?_
    refine .hd (and_f hb11) ?_
    repeat (first | with_reducible exact WS.refl _ | refine WS.add ?_ rfl)
   refine S_a (v := .bool _) rfl ?_
   refine S_nil ?_
   refine WP_ret ?_
   repeat (first | with_reducible refine Exit.sel_ret ?_ | with_reducible refine Exit.blk_ret ?_ | with_reducible refine Exit.jmp_ret ?_)
   refine C_ret (fn := Tryd.f6) rfl (.tmp (v := .bool (((((x4.2 == (1 : Int)) && (feq x4.1 (0 : Nat))) && (x6.2.2 == (1 : Int))) && (x6.1 == (0 : Int))) && (!x6.2.1))) rfl .nil) ?_
   exact ⟨_, _, (.refl _), WH.refl _, _, F_some hF, rfl⟩
  ·
   refine WP_skip ?_
   refine C_seq ?_
   refine C_seq ?_
   refine C_reg (mdl []) ?_
   refine S_m (v := .int _ _) rfl ?_
   refine S_bin rfl rfl (ev_neq ..) ?_
   refine S_m (v := .bool _) rfl ?_
   refine S_twoJ 6 67 hF (fun J13 hb12 hF => ?_) (fun J13 hb12 hF => ?_) (fun v14 hF => ?_)
   ·
    refine S_off rfl rfl hb12 ?_
    refine S_offD ?_
    refine S_off rfl rfl hb12 ?_
    refine S_offD ?_
    refine S_off rfl rfl hb12 ?_
    refine S_offD ?_
    refine S_off rfl rfl hb12 ?_
    refine S_offD ?_
    refine S_off rfl rfl hb12 ?_
    refine S_offD ?_
    refine S_pickT (v := .bool _) rfl hb12 rfl ?_
    refine S_nil ?_
    refine ⟨_, hF, .hd (.refl _) ?_⟩
    repeat (first | with_reducible exact WS.refl _ | refine WS.add ?_ rfl)
   ·
    refine S_on rfl rfl hb12 ?_
    refine S_in ?_
    refine S_m (v := .float _ _) rfl ?_
    refine S_nil ?_
    refine S_on rfl rfl hb12 ?_
    refine S_in ?_
    refine S_m (v := .sl _ _ _) rfl ?_
    refine S_nil ?_
    refine S_on rfl rfl hb12 ?_
    refine S_in ?_
    refine S_call (F_lecternref10_Area_ok _ hF fun x15 _ hF => ?_) (.cons (.refl _) (.nil))
    refine S_nil ?_
    refine S_on rfl rfl hb12 ?_
    refine S_in ?_
    refine S_conv rfl (e_i2f ty_ki_40 ty_fa_40 ty_un_3) ?_
    refine S_nil ?_
    refine S_on rfl rfl hb12 ?_
    refine S_in ?_
    refine S_bin rfl rfl (e_fne (a := x4.1) (b := (i2f x15))) ?_
    refine S_nil ?_
    refine S_pickF (v := .bool _) rfl hb12 rfl ?_
    refine S_nil ?_
    refine ⟨_, hF, .hd (.refl _) ?_⟩
    repeat (first | with_reducible exact WS.refl _ | refine WS.add ?_ rfl)
   ·
    refine S_nil ?_
    refine C_if (b := v14) rfl hF (fun hb16 hF => ?_) (fun hb16 hF => ?_)
    ·
     refine C_seq ?_
     refine C_reg (mdl []) ?_
     refine S_a (v := .bool _) rfl ?_
     refine S_nil ?_
     refine WP_ret ?_
     repeat (first | with_reducible refine Exit.sel_ret ?_ | with_reducible refine Exit.blk_ret ?_ | with_reducible refine Exit.jmp_ret ?_)
     refine C_ret (fn := Tryd.f6) rfl (.tmp (v := .bool false) rfl .nil) ?_
     exact ⟨_, _, (.refl _), WH.refl _, _, F_some hF, rfl⟩
    ·
     refine WP_skip ?_
     refine C_seq ?_
     refine C_seq ?_
     refine C_reg (mdl []) ?_
     refine S_m (v := .int _ _) rfl ?_
     refine S_m (v := .int _ _) rfl ?_
     refine S_call (F_lecternlaw10_fits_ok _ hF fun x17 _ hF => ?_) (.cons (.refl _) (.cons (.refl _) (.nil)))
     refine S_un rfl (ev_not _) ?_
     refine S_nil ?_
     refine C_if (b := (!x17)) rfl hF (fun hb18 hF => ?_) (fun hb18 hF => ?_)
     ·
      refine C_seq ?_
      refine C_reg (mdl []) ?_
      refine S_m (v := .int _ _) rfl ?_
      refine S_bin rfl rfl (ev_eql ..) ?_
      refine S_m (v := .bool _) rfl ?_
      refine S_two (b := (x6.2.2 == (1 : Int))) 3 77 (.bool ((x6.2.2 == (1 : Int)) && (x6.1 == (0 : Int)))) (fun hb19 => ?_) (fun hb19 => ?_) ?_
      ·
       refine S_on rfl rfl hb19 ?_
       refine S_in ?_
       refine S_m (v := .int _ _) rfl ?_
       refine S_nil ?_
       refine S_on rfl rfl hb19 ?_
       refine S_in ?_
       refine S_bin rfl rfl (ev_eql ..) ?_
       refine S_nil ?_
       refine S_pickT (v := .bool _) rfl hb19 rfl ?_
       refine S_nil ?_
       refine .hd (and_t hb19) ?_
       repeat (first | with_reducible exact WS.refl _ | refine WS.add ?_ rfl)
      ·
       refine S_off rfl rfl hb19 ?_
       refine S_offD ?_
       refine S_off rfl rfl hb19 ?_
       refine S_offD ?_
       refine S_pickF (v := .bool _) rfl hb19 rfl ?_
       refine S_nil ?_
       refine .hd (and_f hb19) ?_
       repeat (first | with_reducible exact WS.refl _ | refine WS.add ?_ rfl)
      refine S_m (v := .bool _) rfl ?_
      refine S_two (b := ((x6.2.2 == (1 : Int)) && (x6.1 == (0 : Int)))) 3 81 (.bool (((x6.2.2 == (1 : Int)) && (x6.1 == (0 : Int))) && (!x6.2.1))) (fun hb20 => ?_) (fun hb20 => ?_) ?_
      ·
       refine S_on rfl rfl hb20 ?_
       refine S_in ?_
       refine S_m (v := .bool _) rfl ?_
       refine S_nil ?_
       refine S_on rfl rfl hb20 ?_
       refine S_in ?_
       refine S_un rfl (ev_not _) ?_
       refine S_nil ?_
       refine S_pickT (v := .bool _) rfl hb20 rfl ?_
       refine S_nil ?_
       refine .hd (and_t hb20) ?_
       repeat (first | with_reducible exact WS.refl _ | refine WS.add ?_ rfl)
      ·
       refine S_off rfl rfl hb20 ?_
       refine S_offD ?_
       refine S_off rfl rfl hb20 ?_
       refine S_offD ?_
       refine S_pickF (v := .bool _) rfl hb20 rfl ?_
       refine S_nil ?_
       refine .hd (and_f hb20) ?_
       repeat (first | with_reducible exact WS.refl _ | refine WS.add ?_ rfl)
      refine S_a (v := .bool _) rfl ?_
      refine S_nil ?_
      refine WP_ret ?_
      repeat (first | with_reducible refine Exit.sel_ret ?_ | with_reducible refine Exit.blk_ret ?_ | with_reducible refine Exit.jmp_ret ?_)
      refine C_ret (fn := Tryd.f6) rfl (.tmp (v := .bool (((x6.2.2 == (1 : Int)) && (x6.1 == (0 : Int))) && (!x6.2.1))) rfl .nil) ?_
      exact ⟨_, _, (.refl _), WH.refl _, _, F_some hF, rfl⟩
     ·
      refine WP_skip ?_
      refine C_seq ?_
      refine C_reg (mdl []) ?_
      refine S_m (v := .sl _ _ _) rfl ?_
      refine S_m (v := .int _ _) rfl ?_
      refine S_m (v := .int _ _) rfl ?_
      refine S_bld (v := .agg (c_T_lecternref10_Spot (⟨p1, p2⟩ : T_lecternref10_Spot))) (b_st ty_zc_52 ty_pl_52 rfl) ?_
      refine S_call (F_lecternref10_Around_ok _ hF fun x21 _ hF => ?_) (.cons (.refl _) (.cons (.refl _) (.nil)))
      refine S_m (v := .tup _) rfl ?_
      refine S_ext rfl rfl ?_
      refine S_ext rfl rfl ?_
      refine S_a (v := .int _ _) rfl ?_
      refine S_a (v := .bool _) rfl ?_
      refine S_nil ?_
      refine C_seq ?_
      refine C_reg (mdl []) ?_
      refine S_m (v := .int _ _) rfl ?_
      refine S_bin rfl rfl (ev_eql ..) ?_
      refine S_m (v := .bool _) rfl ?_
      refine S_two (b := (x6.2.2 == (0 : Int))) 4 96 (.bool ((x6.2.2 == (0 : Int)) && (x6.1 == x21.1))) (fun hb22 => ?_) (fun hb22 => ?_) ?_
      ·
       refine S_on rfl rfl hb22 ?_
       refine S_in ?_
       refine S_m (v := .int _ _) rfl ?_
       refine S_nil ?_
       refine S_on rfl rfl hb22 ?_
       refine S_in ?_
       refine S_m (v := .int _ _) rfl ?_
       refine S_nil ?_
       refine S_on rfl rfl hb22 ?_
       refine S_in ?_
       refine S_bin rfl rfl (ev_eql ..) ?_
       refine S_nil ?_
       refine S_pickT (v := .bool _) rfl hb22 rfl ?_
       refine S_nil ?_
       refine .hd (and_t hb22) ?_
       repeat (first | with_reducible exact WS.refl _ | refine WS.add ?_ rfl)
      ·
       refine S_off rfl rfl hb22 ?_
       refine S_offD ?_
       refine S_off rfl rfl hb22 ?_
       refine S_offD ?_
       refine S_off rfl rfl hb22 ?_
       refine S_offD ?_
       refine S_pickF (v := .bool _) rfl hb22 rfl ?_
       refine S_nil ?_
       refine .hd (and_f hb22) ?_
       repeat (first | with_reducible exact WS.refl _ | refine WS.add ?_ rfl)
      refine S_m (v := .bool _) rfl ?_
      refine S_two (b := ((x6.2.2 == (0 : Int)) && (x6.1 == x21.1))) 4 101 (.bool (((x6.2.2 == (0 : Int)) && (x6.1 == x21.1)) && (x6.2.1 == x21.2))) (fun hb23 => ?_) (fun hb23 => ?_) ?_
      ·
       refine S_on rfl rfl hb23 ?_
       refine S_in ?_
       refine S_m (v := .bool _) rfl ?_
       refine S_nil ?_
       refine S_on rfl rfl hb23 ?_
       refine S_in ?_
       refine S_m (v := .bool _) rfl ?_
       refine S_nil ?_
       refine S_on rfl rfl hb23 ?_
       refine S_in ?_
       refine S_bin rfl rfl (e_beq ty_bo_4) ?_
       refine S_nil ?_
       refine S_pickT (v := .bool _) rfl hb23 rfl ?_
       refine S_nil ?_
       refine .hd (and_t hb23) ?_
       repeat (first | with_reducible exact WS.refl _ | refine WS.add ?_ rfl)
      ·
       refine S_off rfl rfl hb23 ?_
       refine S_offD ?_
       refine S_off rfl rfl hb23 ?_
       refine S_offD ?_
       refine S_off rfl rfl hb23 ?_
       refine S_offD ?_
       refine S_pickF (v := .bool _) rfl hb23 rfl ?_
       refine S_nil ?_
       refine .hd (and_f hb23) ?_
       repeat (first | with_reducible exact WS.refl _ | refine WS.add ?_ rfl)
      refine S_a (v := .bool _) rfl ?_
      refine S_nil ?_
      refine WP_ret ?_
      repeat (first | with_reducible refine Exit.sel_ret ?_ | with_reducible refine Exit.blk_ret ?_ | with_reducible refine Exit.jmp_ret ?_)
      refine C_ret (fn := Tryd.f6) rfl (.tmp (v := .bool (((x6.2.2 == (0 : Int)) && (x6.1 == x21.1)) && (x6.2.1 == x21.2))) rfl .nil) ?_
      exact ⟨_, _, (.refl _), WH.refl _, _, F_some hF, rfl⟩
end Go.Proofs.YtocfjohangcajaaDoor
